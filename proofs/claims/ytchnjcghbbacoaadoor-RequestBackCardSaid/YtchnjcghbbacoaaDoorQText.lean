/- The walk of a request's Text. Conditions: the request's numbers are in their bounds; the turns lie in their variable. -/
import Derived.Test.YtchnjcghbbacoaaDoorQRight
import Derived.Test.YtchnjcghbbacoaaDoorQCheck
import Derived.Test.YtchnjcghbbacoaaDoorQBuild
import Derived.Test.YtchnjcghbbacoaaDoorQShelf
import Derived.Test.YtchnjcghbbacoaaDoorQRText
import Derived.Test.YtchnjcghbbacoaaDoorQLat
import Derived.Test.YtchnjcghbbacoaaDoorLayU
set_option linter.unusedVariables false
set_option linter.unusedSimpArgs false
set_option linter.unnecessarySimpa false
namespace Go.Proofs.YtchnjcghbbacoaaDoor
open Go.RowKit

theorem u64_size1 : (Tryd.prog.info? 22).map (·.size) = some 1 := by kernel_rfl
theorem u64_zero1 : ((Tryd.prog.info? 22).bind (·.zero)).isSome = true := by kernel_rfl
theorem sl_size1 : (Tryd.prog.info? 40).map (·.size) = some 1 := by kernel_rfl
theorem sl_zero1 : ((Tryd.prog.info? 40).bind (·.zero)).isSome = true := by kernel_rfl
theorem szHash {n : Nat} (h : n = 32) : (Tryd.prog.info? 29).map (·.size) = some n := by subst h; kernel_rfl
theorem szRq {n : Nat} (h : n = 36) : (Tryd.prog.info? 31).map (·.size) = some n := by subst h; kernel_rfl
theorem letters_at (x : Nat) (h : x < 32) {hs : x < (⟨#[113, 112, 122, 114, 121, 57, 120, 56, 103, 102, 50, 116, 118, 100, 119, 48, 115, 51, 106, 110, 53, 52, 107, 104, 99, 101, 54, 109, 117, 97, 55, 108]⟩ : ByteArray).size} :
    (⟨#[113, 112, 122, 114, 121, 57, 120, 56, 103, 102, 50, 116, 118, 100, 119, 48, 115, 51, 106, 110, 53, 52, 107, 104, 99, 101, 54, 109, 117, 97, 55, 108]⟩ : ByteArray)[x] = letter x := by
  have : ∀ x : Fin 32, (⟨#[113, 112, 122, 114, 121, 57, 120, 56, 103, 102, 50, 116, 118, 100, 119, 48, 115, 51, 106, 110, 53, 52, 107, 104, 99, 101, 54, 109, 117, 97, 55, 108]⟩ : ByteArray)[x.1]'(x.2) = letter x.1 := by decide
  exact this ⟨x, h⟩
set_option maxRecDepth 100000 in
set_option maxHeartbeats 16000000 in
theorem QText (r : Rq) (w : World) (hok : RqOk r) (hg : Cells w ⟨0, 0, none⟩ turnsC) :
    Calls Tryd.prog 7 #[.agg (rqC r).toArray] w fun e w' => TextSaid (rightR r) (bytesR r) e ∧ Ext w w' := by
  obtain ⟨i0, hi, hz0, hz1, hz2⟩ := info_parts u8_info
  have hb0 : Blk (w.alloc (.cells (rqC r).toArray 31)) w.heap.size 31 (rqC r) := Blk.new _ _ _
  have hx0 : Ext w (w.alloc (.cells (rqC r).toArray 31)) := (Ext.refl w).alloc _
  have HRt := Lib.hid (fun w => QRight r w hok)
  have HSZ := Lib.hid (szRq (rqC_length hok))
  have HH := Lib.hid hok.hash
  have HAM := Lib.hid hok.am
  have HEX := Lib.hid hok.ex
  have HN := Lib.hid hok.note
  have HHK := Lib.hid (rqC_hash hok)
  have HNT := Lib.hid (rqC_note hok)
  have HBS := Lib.hid (show bytesR r = (((([] ++ []) ++ [r.1]) ++ [r.2.1, r.2.2.1].flatMap (be 8)) ++ [r.2.2.2.1].flatMap id) ++ [r.2.2.2.2.data.toList].flatMap blob by simp [bytesR, noteL])
  have c0 : (rqC r)[0]? = some (.int .u8 (r.1.toNat : Int)) := rfl
  have c1 : (rqC r)[1]? = some (.int .u64 (r.2.1 : Int)) := rfl
  have c2 : (rqC r)[2]? = some (.int .u64 (r.2.2.1 : Int)) := rfl
  have HNL := Lib.hid (show rightR r = true → (noteL r).length ≤ 100 by rw [noteL_length]; unfold rightR; intro h; simp at h; exact h.2)
  have HR := Lib.hid (Eq.refl (rightR r))
  have HG := Lib.hid hg
  rw [HBS.out]
  unfold noteL at HNL
  generalize bytesR r = BR at *
  generalize rightR r = rt at *
  generalize rqC r = CC at *
  obtain ⟨to, am, ex, hash, note⟩ := r
  dsimp only at *
  have HB0 := Lib.hid hb0
  have HX0 := Lib.hid hx0
  clear hb0 hx0 HBS hok hg
  go_enter Tryd.func7, Tryd.ntmps7
  go_wp2_with (first
    | ((with_reducible refine wpDst 8 rfl ?_); refine wpList_load_agg _ rfl _ _ rfl _ rfl CC _ Tryd.underlying31 rfl HSZ.out HB0.out.cells ?_)
    | fail)
  refine (HRt.out _).mono ?_
  rintro e w1 ⟨rfl, hx1⟩
  have HX1 := Lib.hid hx1
  have HB1 := Lib.hid (HB0.out.keep hx1 (by simp))
  have HX2 := Lib.hid (HX0.out.trans hx1)
  clear hx1 HRt HSZ HB0 HX0 HX1
  rcases Bool.eq_false_or_eq_true rt with hrt | hrt
  case inr =>
    subst hrt
    go_wp2
    go_ret2
    exact ⟨.inl ⟨rfl, rfl⟩, HX2.out⟩
  subst hrt
  have HNM := Lib.hid (HNL.out rfl)
  clear HNL
  go_wp2
  have hb : Blk w1.drew w.heap.size 31 CC := HB1.out
  have hx : Ext w w1.drew := HX2.out.drew
  have hg1 : Cells w1.drew ⟨0, 0, none⟩ turnsC := HG.out.keep (hx.block 0 (HG.out.lt (by decide)) (by simp))
  clear HB1 HX2
  refine startM (KeepB fun b => b = w.heap.size) (by kernel_rfl) ?_
  (try simp only [Act.put, List.setIfInBounds_toArray, List.set_cons_succ, List.set_cons_zero])
  generalize w1.drew = w0 at *
  have HK0 := Lib.hid ((hb.cell 0).trans c0)
  have HK1 := Lib.hid ((hb.cell 1).trans c1)
  have HK2 := Lib.hid ((hb.cell 2).trans c2)
  have HK35 := Lib.hid ((hb.cell 35).trans HNT.out)
  have hkh : Cells w0 ⟨w.heap.size, 3, none⟩ (bv hash) := by have h := (hb.cells.drop 3).take 32; rw [HHK.out, addr_atQ] at h; exact h
  have HKH := Lib.hid hkh
  have hJ0 : QJ w.heap.size w0 (.slice none 0 0) (.slice none 0 0) [] [] w0 := QJ.start hb.lt (Own.nil _ _ _) (by simp [Value.ownBlock])
  have HX := Lib.hid hx
  have HG1 := Lib.hid hg1
  clear hb hx hkh c0 c1 c2 HNT HHK hg1
  refine takeK 1 rfl (by kernel_rfl) (by kernel_rfl) (by kernel_rfl) rfl (fun _ _ _ _ h => h) rfl (fun K hK => ?_)
  go_big_quiet_op
  first | refine hK _ ?_ | refine ⟨_, fun _ _ => rfl, hK _ ?_⟩
  clear hK K
  refine takeK 2 rfl (by kernel_rfl) (by kernel_rfl) (by kernel_rfl) rfl (fun _ _ _ _ h => h) rfl (fun K hK => ?_)
  refine quiet_cell _ _ rfl _ rfl _ _ Tryd.underlying5 rfl (fun W' h => KeepB.cell h HK0.out rfl) ?_
  refine hK _ ?_
  simp only [Act.put, List.setIfInBounds_toArray, List.set_cons_succ, List.set_cons_zero]
  clear hK K
  refine takeK 5 rfl (by kernel_rfl) (by kernel_rfl) (by kernel_rfl) rfl (fun _ _ _ _ h => h) rfl (fun K hK => ?_)
  go_big_quiet_op
  first | refine hK _ ?_ | refine ⟨_, fun _ _ => rfl, hK _ ?_⟩
  clear hK K
  refine takeK 6 rfl (by kernel_rfl) (by kernel_rfl) (by kernel_rfl) rfl (fun _ _ _ _ h => h) rfl (fun K hK => ?_)
  refine quiet_cell _ _ rfl _ rfl _ _ Tryd.underlying22 rfl (fun W' h => KeepB.cell h HK1.out rfl) ?_
  refine hK _ ?_
  simp only [Act.put, List.setIfInBounds_toArray, List.set_cons_succ, List.set_cons_zero]
  clear hK K
  refine takeK 7 rfl (by kernel_rfl) (by kernel_rfl) (by kernel_rfl) rfl (fun _ _ _ _ h => h) rfl (fun K hK => ?_)
  go_big_quiet_op
  first | refine hK _ ?_ | refine ⟨_, fun _ _ => rfl, hK _ ?_⟩
  clear hK K
  refine takeK 8 rfl (by kernel_rfl) (by kernel_rfl) (by kernel_rfl) rfl (fun _ _ _ _ h => h) rfl (fun K hK => ?_)
  refine quiet_cell _ _ rfl _ rfl _ _ Tryd.underlying22 rfl (fun W' h => KeepB.cell h HK2.out rfl) ?_
  refine hK _ ?_
  simp only [Act.put, List.setIfInBounds_toArray, List.set_cons_succ, List.set_cons_zero]
  clear hK K
  refine takeK 11 rfl (by kernel_rfl) (by kernel_rfl) (by kernel_rfl) rfl (fun _ _ _ _ h => h) rfl (fun K hK => ?_)
  go_big_quiet_op
  first | refine hK _ ?_ | refine ⟨_, fun _ _ => rfl, hK _ ?_⟩
  clear hK K
  refine takeK 12 rfl (by kernel_rfl) (by kernel_rfl) (by kernel_rfl) rfl (fun _ _ _ _ h => h) rfl (fun K hK => ?_)
  refine quiet_agg 29 (.tmp 22) rfl _ rfl (bv hash) _ Tryd.underlying29 rfl (szHash (by rw [bv_length]; exact HH.out)) (fun W' h => KeepB.cells h HKH.out rfl) ?_
  refine hK _ ?_
  simp only [Act.put, List.setIfInBounds_toArray, List.set_cons_succ, List.set_cons_zero]
  clear hK K
  refine takeK 15 rfl (by kernel_rfl) (by kernel_rfl) (by kernel_rfl) rfl (fun _ _ _ _ h => h) rfl (fun K hK => ?_)
  go_big_quiet_op
  first | refine hK _ ?_ | refine ⟨_, fun _ _ => rfl, hK _ ?_⟩
  clear hK K
  refine takeK 16 rfl (by kernel_rfl) (by kernel_rfl) (by kernel_rfl) rfl (fun _ _ _ _ h => h) rfl (fun K hK => ?_)
  refine quiet_cell _ _ rfl _ rfl _ _ Tryd.underlying9 rfl (fun W' h => KeepB.cell h HK35.out rfl) ?_
  refine hK _ ?_
  simp only [Act.put, List.setIfInBounds_toArray, List.set_cons_succ, List.set_cons_zero]
  clear hK K
  apply lat10 (fun v11 v14 v15 v20 v21 v24 v25 v28 v29 v30 W => QJ w.heap.size w0 (.slice none 0 0) v30 ((((([] ++ []) ++ [to]) ++ [am, ex].flatMap (be 8)) ++ [hash].flatMap id) ++ [note.data.toList].flatMap blob) [It.sl .u8 note.data.toList v28] W)
  intro hM68
  apply lat9 (fun v11 v14 v15 v20 v21 v24 v25 v28 v29 W => QJ w.heap.size w0 (.slice none 0 0) v25 (((([] ++ []) ++ [to]) ++ [am, ex].flatMap (be 8)) ++ [hash].flatMap id) [It.sl .u8 note.data.toList v28, It.two [note.data.toList] v28 v29] W)
  intro hM67
  apply lat8 (fun v11 v14 v15 v20 v21 v24 v28 v29 W => QJ w.heap.size w0 (.slice none 0 0) v21 ((([] ++ []) ++ [to]) ++ [am, ex].flatMap (be 8)) [It.sl (.arr 32 .u8) [hash] v24, It.sl .u8 note.data.toList v28, It.two [note.data.toList] v28 v29] W)
  intro hM66
  apply lat8 (fun v11 v14 v15 v20 v21 v24 v25 v28 W => QJ w.heap.size w0 (.slice none 0 0) v25 (((([] ++ []) ++ [to]) ++ [am, ex].flatMap (be 8)) ++ [hash].flatMap id) [It.sl .u8 note.data.toList v28] W)
  intro hM65
  apply lat7 (fun v11 v14 v15 v20 v24 v28 v29 W => QJ w.heap.size w0 (.slice none 0 0) v15 (([] ++ []) ++ [to]) [It.sl (.nat .u64) [am, ex] v20, It.sl (.arr 32 .u8) [hash] v24, It.sl .u8 note.data.toList v28, It.two [note.data.toList] v28 v29] W)
  intro hM64
  apply lat7 (fun v11 v14 v15 v20 v21 v28 v29 W => QJ w.heap.size w0 (.slice none 0 0) v21 ((([] ++ []) ++ [to]) ++ [am, ex].flatMap (be 8)) [It.sl .u8 note.data.toList v28, It.two [note.data.toList] v28 v29] W)
  intro hM63
  apply lat7 (fun v11 v14 v15 v20 v21 v24 v28 W => QJ w.heap.size w0 (.slice none 0 0) v21 ((([] ++ []) ++ [to]) ++ [am, ex].flatMap (be 8)) [It.sl (.arr 32 .u8) [hash] v24, It.sl .u8 note.data.toList v28] W)
  intro hM62
  apply lat7 (fun v11 v14 v15 v20 v21 v24 v25 W => QJ w.heap.size w0 (.slice none 0 0) v25 (((([] ++ []) ++ [to]) ++ [am, ex].flatMap (be 8)) ++ [hash].flatMap id) [] W)
  intro hM61
  apply lat6 (fun v11 v14 v20 v24 v28 v29 W => QJ w.heap.size w0 (.slice none 0 0) v11 ([] ++ []) [It.sl .u8 [to] v14, It.sl (.nat .u64) [am, ex] v20, It.sl (.arr 32 .u8) [hash] v24, It.sl .u8 note.data.toList v28, It.two [note.data.toList] v28 v29] W)
  intro hM60
  apply lat6 (fun v11 v14 v15 v24 v28 v29 W => QJ w.heap.size w0 (.slice none 0 0) v15 (([] ++ []) ++ [to]) [It.sl (.arr 32 .u8) [hash] v24, It.sl .u8 note.data.toList v28, It.two [note.data.toList] v28 v29] W)
  intro hM59
  apply lat6 (fun v11 v14 v15 v20 v28 v29 W => QJ w.heap.size w0 (.slice none 0 0) v15 (([] ++ []) ++ [to]) [It.sl (.nat .u64) [am, ex] v20, It.sl .u8 note.data.toList v28, It.two [note.data.toList] v28 v29] W)
  intro hM58
  apply lat6 (fun v11 v14 v15 v20 v24 v28 W => QJ w.heap.size w0 (.slice none 0 0) v15 (([] ++ []) ++ [to]) [It.sl (.nat .u64) [am, ex] v20, It.sl (.arr 32 .u8) [hash] v24, It.sl .u8 note.data.toList v28] W)
  intro hM57
  apply lat6 (fun v11 v14 v15 v20 v21 v28 W => QJ w.heap.size w0 (.slice none 0 0) v21 ((([] ++ []) ++ [to]) ++ [am, ex].flatMap (be 8)) [It.sl .u8 note.data.toList v28] W)
  intro hM56
  apply lat6 (fun v11 v14 v15 v20 v21 v24 W => QJ w.heap.size w0 (.slice none 0 0) v21 ((([] ++ []) ++ [to]) ++ [am, ex].flatMap (be 8)) [It.sl (.arr 32 .u8) [hash] v24] W)
  intro hM55
  apply lat5 (fun v14 v20 v24 v28 v29 W => QJ w.heap.size w0 (.slice none 0 0) (.slice none 0 0) [] [It.sl .u8 [to] v14, It.sl (.nat .u64) [am, ex] v20, It.sl (.arr 32 .u8) [hash] v24, It.sl .u8 note.data.toList v28, It.two [note.data.toList] v28 v29] W)
  intro hM54
  apply lat5 (fun v11 v20 v24 v28 v29 W => QJ w.heap.size w0 (.slice none 0 0) v11 ([] ++ []) [It.sl (.nat .u64) [am, ex] v20, It.sl (.arr 32 .u8) [hash] v24, It.sl .u8 note.data.toList v28, It.two [note.data.toList] v28 v29] W)
  intro hM53
  apply lat5 (fun v11 v14 v24 v28 v29 W => QJ w.heap.size w0 (.slice none 0 0) v11 ([] ++ []) [It.sl .u8 [to] v14, It.sl (.arr 32 .u8) [hash] v24, It.sl .u8 note.data.toList v28, It.two [note.data.toList] v28 v29] W)
  intro hM52
  apply lat5 (fun v11 v14 v20 v28 v29 W => QJ w.heap.size w0 (.slice none 0 0) v11 ([] ++ []) [It.sl .u8 [to] v14, It.sl (.nat .u64) [am, ex] v20, It.sl .u8 note.data.toList v28, It.two [note.data.toList] v28 v29] W)
  intro hM51
  apply lat5 (fun v11 v14 v20 v24 v28 W => QJ w.heap.size w0 (.slice none 0 0) v11 ([] ++ []) [It.sl .u8 [to] v14, It.sl (.nat .u64) [am, ex] v20, It.sl (.arr 32 .u8) [hash] v24, It.sl .u8 note.data.toList v28] W)
  intro hM50
  apply lat5 (fun v11 v14 v15 v28 v29 W => QJ w.heap.size w0 (.slice none 0 0) v15 (([] ++ []) ++ [to]) [It.sl .u8 note.data.toList v28, It.two [note.data.toList] v28 v29] W)
  intro hM49
  apply lat5 (fun v11 v14 v15 v24 v28 W => QJ w.heap.size w0 (.slice none 0 0) v15 (([] ++ []) ++ [to]) [It.sl (.arr 32 .u8) [hash] v24, It.sl .u8 note.data.toList v28] W)
  intro hM48
  apply lat5 (fun v11 v14 v15 v20 v28 W => QJ w.heap.size w0 (.slice none 0 0) v15 (([] ++ []) ++ [to]) [It.sl (.nat .u64) [am, ex] v20, It.sl .u8 note.data.toList v28] W)
  intro hM47
  apply lat5 (fun v11 v14 v15 v20 v24 W => QJ w.heap.size w0 (.slice none 0 0) v15 (([] ++ []) ++ [to]) [It.sl (.nat .u64) [am, ex] v20, It.sl (.arr 32 .u8) [hash] v24] W)
  intro hM46
  apply lat5 (fun v11 v14 v15 v20 v21 W => QJ w.heap.size w0 (.slice none 0 0) v21 ((([] ++ []) ++ [to]) ++ [am, ex].flatMap (be 8)) [] W)
  intro hM45
  apply lat4 (fun v20 v24 v28 v29 W => QJ w.heap.size w0 (.slice none 0 0) (.slice none 0 0) [] [It.sl (.nat .u64) [am, ex] v20, It.sl (.arr 32 .u8) [hash] v24, It.sl .u8 note.data.toList v28, It.two [note.data.toList] v28 v29] W)
  intro hM44
  apply lat4 (fun v14 v24 v28 v29 W => QJ w.heap.size w0 (.slice none 0 0) (.slice none 0 0) [] [It.sl .u8 [to] v14, It.sl (.arr 32 .u8) [hash] v24, It.sl .u8 note.data.toList v28, It.two [note.data.toList] v28 v29] W)
  intro hM43
  apply lat4 (fun v14 v20 v28 v29 W => QJ w.heap.size w0 (.slice none 0 0) (.slice none 0 0) [] [It.sl .u8 [to] v14, It.sl (.nat .u64) [am, ex] v20, It.sl .u8 note.data.toList v28, It.two [note.data.toList] v28 v29] W)
  intro hM42
  apply lat4 (fun v14 v20 v24 v28 W => QJ w.heap.size w0 (.slice none 0 0) (.slice none 0 0) [] [It.sl .u8 [to] v14, It.sl (.nat .u64) [am, ex] v20, It.sl (.arr 32 .u8) [hash] v24, It.sl .u8 note.data.toList v28] W)
  intro hM41
  apply lat4 (fun v11 v24 v28 v29 W => QJ w.heap.size w0 (.slice none 0 0) v11 ([] ++ []) [It.sl (.arr 32 .u8) [hash] v24, It.sl .u8 note.data.toList v28, It.two [note.data.toList] v28 v29] W)
  intro hM40
  apply lat4 (fun v11 v20 v28 v29 W => QJ w.heap.size w0 (.slice none 0 0) v11 ([] ++ []) [It.sl (.nat .u64) [am, ex] v20, It.sl .u8 note.data.toList v28, It.two [note.data.toList] v28 v29] W)
  intro hM39
  apply lat4 (fun v11 v20 v24 v28 W => QJ w.heap.size w0 (.slice none 0 0) v11 ([] ++ []) [It.sl (.nat .u64) [am, ex] v20, It.sl (.arr 32 .u8) [hash] v24, It.sl .u8 note.data.toList v28] W)
  intro hM38
  apply lat4 (fun v11 v14 v28 v29 W => QJ w.heap.size w0 (.slice none 0 0) v11 ([] ++ []) [It.sl .u8 [to] v14, It.sl .u8 note.data.toList v28, It.two [note.data.toList] v28 v29] W)
  intro hM37
  apply lat4 (fun v11 v14 v24 v28 W => QJ w.heap.size w0 (.slice none 0 0) v11 ([] ++ []) [It.sl .u8 [to] v14, It.sl (.arr 32 .u8) [hash] v24, It.sl .u8 note.data.toList v28] W)
  intro hM36
  apply lat4 (fun v11 v14 v20 v28 W => QJ w.heap.size w0 (.slice none 0 0) v11 ([] ++ []) [It.sl .u8 [to] v14, It.sl (.nat .u64) [am, ex] v20, It.sl .u8 note.data.toList v28] W)
  intro hM35
  apply lat4 (fun v11 v14 v20 v24 W => QJ w.heap.size w0 (.slice none 0 0) v11 ([] ++ []) [It.sl .u8 [to] v14, It.sl (.nat .u64) [am, ex] v20, It.sl (.arr 32 .u8) [hash] v24] W)
  intro hM34
  apply lat4 (fun v11 v14 v15 v28 W => QJ w.heap.size w0 (.slice none 0 0) v15 (([] ++ []) ++ [to]) [It.sl .u8 note.data.toList v28] W)
  intro hM33
  apply lat4 (fun v11 v14 v15 v24 W => QJ w.heap.size w0 (.slice none 0 0) v15 (([] ++ []) ++ [to]) [It.sl (.arr 32 .u8) [hash] v24] W)
  intro hM32
  apply lat4 (fun v11 v14 v15 v20 W => QJ w.heap.size w0 (.slice none 0 0) v15 (([] ++ []) ++ [to]) [It.sl (.nat .u64) [am, ex] v20] W)
  intro hM31
  apply lat3 (fun v24 v28 v29 W => QJ w.heap.size w0 (.slice none 0 0) (.slice none 0 0) [] [It.sl (.arr 32 .u8) [hash] v24, It.sl .u8 note.data.toList v28, It.two [note.data.toList] v28 v29] W)
  intro hM30
  apply lat3 (fun v20 v28 v29 W => QJ w.heap.size w0 (.slice none 0 0) (.slice none 0 0) [] [It.sl (.nat .u64) [am, ex] v20, It.sl .u8 note.data.toList v28, It.two [note.data.toList] v28 v29] W)
  intro hM29
  apply lat3 (fun v20 v24 v28 W => QJ w.heap.size w0 (.slice none 0 0) (.slice none 0 0) [] [It.sl (.nat .u64) [am, ex] v20, It.sl (.arr 32 .u8) [hash] v24, It.sl .u8 note.data.toList v28] W)
  intro hM28
  apply lat3 (fun v14 v28 v29 W => QJ w.heap.size w0 (.slice none 0 0) (.slice none 0 0) [] [It.sl .u8 [to] v14, It.sl .u8 note.data.toList v28, It.two [note.data.toList] v28 v29] W)
  intro hM27
  apply lat3 (fun v14 v24 v28 W => QJ w.heap.size w0 (.slice none 0 0) (.slice none 0 0) [] [It.sl .u8 [to] v14, It.sl (.arr 32 .u8) [hash] v24, It.sl .u8 note.data.toList v28] W)
  intro hM26
  apply lat3 (fun v14 v20 v28 W => QJ w.heap.size w0 (.slice none 0 0) (.slice none 0 0) [] [It.sl .u8 [to] v14, It.sl (.nat .u64) [am, ex] v20, It.sl .u8 note.data.toList v28] W)
  intro hM25
  apply lat3 (fun v14 v20 v24 W => QJ w.heap.size w0 (.slice none 0 0) (.slice none 0 0) [] [It.sl .u8 [to] v14, It.sl (.nat .u64) [am, ex] v20, It.sl (.arr 32 .u8) [hash] v24] W)
  intro hM24
  apply lat3 (fun v11 v28 v29 W => QJ w.heap.size w0 (.slice none 0 0) v11 ([] ++ []) [It.sl .u8 note.data.toList v28, It.two [note.data.toList] v28 v29] W)
  intro hM23
  apply lat3 (fun v11 v24 v28 W => QJ w.heap.size w0 (.slice none 0 0) v11 ([] ++ []) [It.sl (.arr 32 .u8) [hash] v24, It.sl .u8 note.data.toList v28] W)
  intro hM22
  apply lat3 (fun v11 v20 v28 W => QJ w.heap.size w0 (.slice none 0 0) v11 ([] ++ []) [It.sl (.nat .u64) [am, ex] v20, It.sl .u8 note.data.toList v28] W)
  intro hM21
  apply lat3 (fun v11 v20 v24 W => QJ w.heap.size w0 (.slice none 0 0) v11 ([] ++ []) [It.sl (.nat .u64) [am, ex] v20, It.sl (.arr 32 .u8) [hash] v24] W)
  intro hM20
  apply lat3 (fun v11 v14 v28 W => QJ w.heap.size w0 (.slice none 0 0) v11 ([] ++ []) [It.sl .u8 [to] v14, It.sl .u8 note.data.toList v28] W)
  intro hM19
  apply lat3 (fun v11 v14 v24 W => QJ w.heap.size w0 (.slice none 0 0) v11 ([] ++ []) [It.sl .u8 [to] v14, It.sl (.arr 32 .u8) [hash] v24] W)
  intro hM18
  apply lat3 (fun v11 v14 v20 W => QJ w.heap.size w0 (.slice none 0 0) v11 ([] ++ []) [It.sl .u8 [to] v14, It.sl (.nat .u64) [am, ex] v20] W)
  intro hM17
  apply lat3 (fun v11 v14 v15 W => QJ w.heap.size w0 (.slice none 0 0) v15 (([] ++ []) ++ [to]) [] W)
  intro hM16
  apply lat2 (fun v28 v29 W => QJ w.heap.size w0 (.slice none 0 0) (.slice none 0 0) [] [It.sl .u8 note.data.toList v28, It.two [note.data.toList] v28 v29] W)
  intro hM15
  apply lat2 (fun v24 v28 W => QJ w.heap.size w0 (.slice none 0 0) (.slice none 0 0) [] [It.sl (.arr 32 .u8) [hash] v24, It.sl .u8 note.data.toList v28] W)
  intro hM14
  apply lat2 (fun v20 v28 W => QJ w.heap.size w0 (.slice none 0 0) (.slice none 0 0) [] [It.sl (.nat .u64) [am, ex] v20, It.sl .u8 note.data.toList v28] W)
  intro hM13
  apply lat2 (fun v20 v24 W => QJ w.heap.size w0 (.slice none 0 0) (.slice none 0 0) [] [It.sl (.nat .u64) [am, ex] v20, It.sl (.arr 32 .u8) [hash] v24] W)
  intro hM12
  apply lat2 (fun v14 v28 W => QJ w.heap.size w0 (.slice none 0 0) (.slice none 0 0) [] [It.sl .u8 [to] v14, It.sl .u8 note.data.toList v28] W)
  intro hM11
  apply lat2 (fun v14 v24 W => QJ w.heap.size w0 (.slice none 0 0) (.slice none 0 0) [] [It.sl .u8 [to] v14, It.sl (.arr 32 .u8) [hash] v24] W)
  intro hM10
  apply lat2 (fun v14 v20 W => QJ w.heap.size w0 (.slice none 0 0) (.slice none 0 0) [] [It.sl .u8 [to] v14, It.sl (.nat .u64) [am, ex] v20] W)
  intro hM9
  apply lat2 (fun v11 v28 W => QJ w.heap.size w0 (.slice none 0 0) v11 ([] ++ []) [It.sl .u8 note.data.toList v28] W)
  intro hM8
  apply lat2 (fun v11 v24 W => QJ w.heap.size w0 (.slice none 0 0) v11 ([] ++ []) [It.sl (.arr 32 .u8) [hash] v24] W)
  intro hM7
  apply lat2 (fun v11 v20 W => QJ w.heap.size w0 (.slice none 0 0) v11 ([] ++ []) [It.sl (.nat .u64) [am, ex] v20] W)
  intro hM6
  apply lat2 (fun v11 v14 W => QJ w.heap.size w0 (.slice none 0 0) v11 ([] ++ []) [It.sl .u8 [to] v14] W)
  intro hM5
  apply lat1 (fun v28 W => QJ w.heap.size w0 (.slice none 0 0) (.slice none 0 0) [] [It.sl .u8 note.data.toList v28] W)
  intro hM4
  apply lat1 (fun v24 W => QJ w.heap.size w0 (.slice none 0 0) (.slice none 0 0) [] [It.sl (.arr 32 .u8) [hash] v24] W)
  intro hM3
  apply lat1 (fun v20 W => QJ w.heap.size w0 (.slice none 0 0) (.slice none 0 0) [] [It.sl (.nat .u64) [am, ex] v20] W)
  intro hM2
  apply lat1 (fun v14 W => QJ w.heap.size w0 (.slice none 0 0) (.slice none 0 0) [] [It.sl .u8 [to] v14] W)
  intro hM1
  apply lat1 (fun v11 W => QJ w.heap.size w0 (.slice none 0 0) v11 ([] ++ []) [] W)
  intro hM0
  · have HJ := Lib.hid hJ0
    refine anyofM 0 [3, 9, 13, 17] (by kernel_rfl) ⟨oneM rfl rfl (fun K hK => ?_), oneM rfl rfl (fun K hK => ?_), oneM rfl rfl (fun K hK => ?_), oneM rfl rfl (fun K hK => ?_), oneM rfl rfl (fun K hK => ?_), trivial⟩
    · refine HJ.out.fresh rfl 44 rfl Tryd.underlying44 ?_
      intro v11 W hJ hkb
      have HJ := Lib.hid hJ
      clear hJ
      refine hK _ _ hkb ?_
      clear hK K
      (try simp only [Act.put, List.setIfInBounds_toArray, List.set_cons_succ, List.set_cons_zero])
      exact hM0 v11 _ (HJ.out.sub (by intro x hx; cases hx))
    · refine HJ.out.mk1 40 (.tmp 13) rfl 5 Tryd.underlying40 .u8 to _ [Value.int .u8 (to.toNat : Int)] rfl rfl (fun _ _ => rfl) u8_sizeU u8_zeroU (show 1 ≤ 16777216 by decide) (show 0 < 1 by decide) ?_
      intro v14 W hJ hkb
      have HJ := Lib.hid hJ
      clear hJ
      refine hK _ _ hkb ?_
      clear hK K
      (try simp only [Act.put, List.setIfInBounds_toArray, List.set_cons_succ, List.set_cons_zero])
      exact hM1 v14 _ (HJ.out.sub (by intro x hx; simp only [List.mem_cons, List.not_mem_nil, or_false] at hx; rcases hx with rfl <;> first | exact (.head _)))
    · refine HJ.out.mk2 80 (.tmp 17) (.tmp 19) rfl Tryd.underlying80 am ex rfl rfl HAM.out HEX.out u64_size1 u64_zero1 ?_
      intro v20 W hJ hkb
      have HJ := Lib.hid hJ
      clear hJ
      refine hK _ _ hkb ?_
      clear hK K
      (try simp only [Act.put, List.setIfInBounds_toArray, List.set_cons_succ, List.set_cons_zero])
      exact hM2 v20 _ (HJ.out.sub (by intro x hx; simp only [List.mem_cons, List.not_mem_nil, or_false] at hx; rcases hx with rfl <;> first | exact (.head _)))
    · refine HJ.out.mk1 82 (.tmp 23) rfl 48 Tryd.underlying82 (.arr 32 .u8) hash _ (bv hash) rfl rfl (fun _ _ => ⟨HH.out, AllH.bytes.2 rfl⟩) (szDg (by rw [bv_length]; exact HH.out)) zDg (by rw [bv_length, HH.out]; decide) (by rw [bv_length, HH.out]; decide) ?_
      intro v24 W hJ hkb
      have HJ := Lib.hid hJ
      clear hJ
      refine hK _ _ hkb ?_
      clear hK K
      (try simp only [Act.put, List.setIfInBounds_toArray, List.set_cons_succ, List.set_cons_zero])
      exact hM3 v24 _ (HJ.out.sub (by intro x hx; simp only [List.mem_cons, List.not_mem_nil, or_false] at hx; rcases hx with rfl <;> first | exact (.head _)))
    · refine HJ.out.mkStr 9 40 (.tmp 27) rfl Tryd.underlying9 Tryd.underlying40 note rfl HN.out ?_
      intro v28 W hJ hkb
      have HJ := Lib.hid hJ
      clear hJ
      refine hK _ _ hkb ?_
      clear hK K
      (try simp only [Act.put, List.setIfInBounds_toArray, List.set_cons_succ, List.set_cons_zero])
      exact hM4 v28 _ (HJ.out.sub (by intro x hx; simp only [List.mem_cons, List.not_mem_nil, or_false] at hx; rcases hx with rfl <;> first | exact (.head _)))
  · intro v11 W hJ
    have HJ := Lib.hid hJ
    clear hJ
    refine anyofM 3 [9, 13, 17] (by kernel_rfl) ⟨oneM rfl rfl (fun K hK => ?_), oneM rfl rfl (fun K hK => ?_), oneM rfl rfl (fun K hK => ?_), oneM rfl rfl (fun K hK => ?_), trivial⟩
    · refine HJ.out.mk1 40 (.tmp 13) rfl 5 Tryd.underlying40 .u8 to _ [Value.int .u8 (to.toNat : Int)] rfl rfl (fun _ _ => rfl) u8_sizeU u8_zeroU (show 1 ≤ 16777216 by decide) (show 0 < 1 by decide) ?_
      intro v14 W hJ hkb
      have HJ := Lib.hid hJ
      clear hJ
      refine hK _ _ hkb ?_
      clear hK K
      (try simp only [Act.put, List.setIfInBounds_toArray, List.set_cons_succ, List.set_cons_zero])
      exact hM5 v11 v14 _ (HJ.out.sub (by intro x hx; simp only [List.mem_cons, List.not_mem_nil, or_false] at hx; rcases hx with rfl <;> first | exact (.head _)))
    · refine HJ.out.mk2 80 (.tmp 17) (.tmp 19) rfl Tryd.underlying80 am ex rfl rfl HAM.out HEX.out u64_size1 u64_zero1 ?_
      intro v20 W hJ hkb
      have HJ := Lib.hid hJ
      clear hJ
      refine hK _ _ hkb ?_
      clear hK K
      (try simp only [Act.put, List.setIfInBounds_toArray, List.set_cons_succ, List.set_cons_zero])
      exact hM6 v11 v20 _ (HJ.out.sub (by intro x hx; simp only [List.mem_cons, List.not_mem_nil, or_false] at hx; rcases hx with rfl <;> first | exact (.head _)))
    · refine HJ.out.mk1 82 (.tmp 23) rfl 48 Tryd.underlying82 (.arr 32 .u8) hash _ (bv hash) rfl rfl (fun _ _ => ⟨HH.out, AllH.bytes.2 rfl⟩) (szDg (by rw [bv_length]; exact HH.out)) zDg (by rw [bv_length, HH.out]; decide) (by rw [bv_length, HH.out]; decide) ?_
      intro v24 W hJ hkb
      have HJ := Lib.hid hJ
      clear hJ
      refine hK _ _ hkb ?_
      clear hK K
      (try simp only [Act.put, List.setIfInBounds_toArray, List.set_cons_succ, List.set_cons_zero])
      exact hM7 v11 v24 _ (HJ.out.sub (by intro x hx; simp only [List.mem_cons, List.not_mem_nil, or_false] at hx; rcases hx with rfl <;> first | exact (.head _)))
    · refine HJ.out.mkStr 9 40 (.tmp 27) rfl Tryd.underlying9 Tryd.underlying40 note rfl HN.out ?_
      intro v28 W hJ hkb
      have HJ := Lib.hid hJ
      clear hJ
      refine hK _ _ hkb ?_
      clear hK K
      (try simp only [Act.put, List.setIfInBounds_toArray, List.set_cons_succ, List.set_cons_zero])
      exact hM8 v11 v28 _ (HJ.out.sub (by intro x hx; simp only [List.mem_cons, List.not_mem_nil, or_false] at hx; rcases hx with rfl <;> first | exact (.head _)))
  · intro v14 W hJ
    have HJ := Lib.hid hJ
    clear hJ
    refine anyofM 0 [9, 13, 17] (by kernel_rfl) ⟨oneM rfl rfl (fun K hK => ?_), oneM rfl rfl (fun K hK => ?_), oneM rfl rfl (fun K hK => ?_), oneM rfl rfl (fun K hK => ?_), trivial⟩
    · refine HJ.out.fresh rfl 44 rfl Tryd.underlying44 ?_
      intro v11 W hJ hkb
      have HJ := Lib.hid hJ
      clear hJ
      refine hK _ _ hkb ?_
      clear hK K
      (try simp only [Act.put, List.setIfInBounds_toArray, List.set_cons_succ, List.set_cons_zero])
      exact relist (by kernel_rfl) (hM5 v11 v14 _ (HJ.out.sub (by intro x hx; simp only [List.mem_cons, List.not_mem_nil, or_false] at hx; rcases hx with rfl <;> first | exact (.head _))))
    · refine HJ.out.mk2 80 (.tmp 17) (.tmp 19) rfl Tryd.underlying80 am ex rfl rfl HAM.out HEX.out u64_size1 u64_zero1 ?_
      intro v20 W hJ hkb
      have HJ := Lib.hid hJ
      clear hJ
      refine hK _ _ hkb ?_
      clear hK K
      (try simp only [Act.put, List.setIfInBounds_toArray, List.set_cons_succ, List.set_cons_zero])
      exact hM9 v14 v20 _ (HJ.out.sub (by intro x hx; simp only [List.mem_cons, List.not_mem_nil, or_false] at hx; rcases hx with rfl | rfl <;> first | exact (.tail _ (.head _)) | exact (.head _)))
    · refine HJ.out.mk1 82 (.tmp 23) rfl 48 Tryd.underlying82 (.arr 32 .u8) hash _ (bv hash) rfl rfl (fun _ _ => ⟨HH.out, AllH.bytes.2 rfl⟩) (szDg (by rw [bv_length]; exact HH.out)) zDg (by rw [bv_length, HH.out]; decide) (by rw [bv_length, HH.out]; decide) ?_
      intro v24 W hJ hkb
      have HJ := Lib.hid hJ
      clear hJ
      refine hK _ _ hkb ?_
      clear hK K
      (try simp only [Act.put, List.setIfInBounds_toArray, List.set_cons_succ, List.set_cons_zero])
      exact hM10 v14 v24 _ (HJ.out.sub (by intro x hx; simp only [List.mem_cons, List.not_mem_nil, or_false] at hx; rcases hx with rfl | rfl <;> first | exact (.tail _ (.head _)) | exact (.head _)))
    · refine HJ.out.mkStr 9 40 (.tmp 27) rfl Tryd.underlying9 Tryd.underlying40 note rfl HN.out ?_
      intro v28 W hJ hkb
      have HJ := Lib.hid hJ
      clear hJ
      refine hK _ _ hkb ?_
      clear hK K
      (try simp only [Act.put, List.setIfInBounds_toArray, List.set_cons_succ, List.set_cons_zero])
      exact hM11 v14 v28 _ (HJ.out.sub (by intro x hx; simp only [List.mem_cons, List.not_mem_nil, or_false] at hx; rcases hx with rfl | rfl <;> first | exact (.tail _ (.head _)) | exact (.head _)))
  · intro v20 W hJ
    have HJ := Lib.hid hJ
    clear hJ
    refine anyofM 0 [3, 13, 17] (by kernel_rfl) ⟨oneM rfl rfl (fun K hK => ?_), oneM rfl rfl (fun K hK => ?_), oneM rfl rfl (fun K hK => ?_), oneM rfl rfl (fun K hK => ?_), trivial⟩
    · refine HJ.out.fresh rfl 44 rfl Tryd.underlying44 ?_
      intro v11 W hJ hkb
      have HJ := Lib.hid hJ
      clear hJ
      refine hK _ _ hkb ?_
      clear hK K
      (try simp only [Act.put, List.setIfInBounds_toArray, List.set_cons_succ, List.set_cons_zero])
      exact relist (by kernel_rfl) (hM6 v11 v20 _ (HJ.out.sub (by intro x hx; simp only [List.mem_cons, List.not_mem_nil, or_false] at hx; rcases hx with rfl <;> first | exact (.head _))))
    · refine HJ.out.mk1 40 (.tmp 13) rfl 5 Tryd.underlying40 .u8 to _ [Value.int .u8 (to.toNat : Int)] rfl rfl (fun _ _ => rfl) u8_sizeU u8_zeroU (show 1 ≤ 16777216 by decide) (show 0 < 1 by decide) ?_
      intro v14 W hJ hkb
      have HJ := Lib.hid hJ
      clear hJ
      refine hK _ _ hkb ?_
      clear hK K
      (try simp only [Act.put, List.setIfInBounds_toArray, List.set_cons_succ, List.set_cons_zero])
      exact relist (by kernel_rfl) (hM9 v14 v20 _ (HJ.out.sub (by intro x hx; simp only [List.mem_cons, List.not_mem_nil, or_false] at hx; rcases hx with rfl | rfl <;> first | exact (.head _) | exact (.tail _ (.head _)))))
    · refine HJ.out.mk1 82 (.tmp 23) rfl 48 Tryd.underlying82 (.arr 32 .u8) hash _ (bv hash) rfl rfl (fun _ _ => ⟨HH.out, AllH.bytes.2 rfl⟩) (szDg (by rw [bv_length]; exact HH.out)) zDg (by rw [bv_length, HH.out]; decide) (by rw [bv_length, HH.out]; decide) ?_
      intro v24 W hJ hkb
      have HJ := Lib.hid hJ
      clear hJ
      refine hK _ _ hkb ?_
      clear hK K
      (try simp only [Act.put, List.setIfInBounds_toArray, List.set_cons_succ, List.set_cons_zero])
      exact hM12 v20 v24 _ (HJ.out.sub (by intro x hx; simp only [List.mem_cons, List.not_mem_nil, or_false] at hx; rcases hx with rfl | rfl <;> first | exact (.tail _ (.head _)) | exact (.head _)))
    · refine HJ.out.mkStr 9 40 (.tmp 27) rfl Tryd.underlying9 Tryd.underlying40 note rfl HN.out ?_
      intro v28 W hJ hkb
      have HJ := Lib.hid hJ
      clear hJ
      refine hK _ _ hkb ?_
      clear hK K
      (try simp only [Act.put, List.setIfInBounds_toArray, List.set_cons_succ, List.set_cons_zero])
      exact hM13 v20 v28 _ (HJ.out.sub (by intro x hx; simp only [List.mem_cons, List.not_mem_nil, or_false] at hx; rcases hx with rfl | rfl <;> first | exact (.tail _ (.head _)) | exact (.head _)))
  · intro v24 W hJ
    have HJ := Lib.hid hJ
    clear hJ
    refine anyofM 0 [3, 9, 17] (by kernel_rfl) ⟨oneM rfl rfl (fun K hK => ?_), oneM rfl rfl (fun K hK => ?_), oneM rfl rfl (fun K hK => ?_), oneM rfl rfl (fun K hK => ?_), trivial⟩
    · refine HJ.out.fresh rfl 44 rfl Tryd.underlying44 ?_
      intro v11 W hJ hkb
      have HJ := Lib.hid hJ
      clear hJ
      refine hK _ _ hkb ?_
      clear hK K
      (try simp only [Act.put, List.setIfInBounds_toArray, List.set_cons_succ, List.set_cons_zero])
      exact relist (by kernel_rfl) (hM7 v11 v24 _ (HJ.out.sub (by intro x hx; simp only [List.mem_cons, List.not_mem_nil, or_false] at hx; rcases hx with rfl <;> first | exact (.head _))))
    · refine HJ.out.mk1 40 (.tmp 13) rfl 5 Tryd.underlying40 .u8 to _ [Value.int .u8 (to.toNat : Int)] rfl rfl (fun _ _ => rfl) u8_sizeU u8_zeroU (show 1 ≤ 16777216 by decide) (show 0 < 1 by decide) ?_
      intro v14 W hJ hkb
      have HJ := Lib.hid hJ
      clear hJ
      refine hK _ _ hkb ?_
      clear hK K
      (try simp only [Act.put, List.setIfInBounds_toArray, List.set_cons_succ, List.set_cons_zero])
      exact relist (by kernel_rfl) (hM10 v14 v24 _ (HJ.out.sub (by intro x hx; simp only [List.mem_cons, List.not_mem_nil, or_false] at hx; rcases hx with rfl | rfl <;> first | exact (.head _) | exact (.tail _ (.head _)))))
    · refine HJ.out.mk2 80 (.tmp 17) (.tmp 19) rfl Tryd.underlying80 am ex rfl rfl HAM.out HEX.out u64_size1 u64_zero1 ?_
      intro v20 W hJ hkb
      have HJ := Lib.hid hJ
      clear hJ
      refine hK _ _ hkb ?_
      clear hK K
      (try simp only [Act.put, List.setIfInBounds_toArray, List.set_cons_succ, List.set_cons_zero])
      exact relist (by kernel_rfl) (hM12 v20 v24 _ (HJ.out.sub (by intro x hx; simp only [List.mem_cons, List.not_mem_nil, or_false] at hx; rcases hx with rfl | rfl <;> first | exact (.head _) | exact (.tail _ (.head _)))))
    · refine HJ.out.mkStr 9 40 (.tmp 27) rfl Tryd.underlying9 Tryd.underlying40 note rfl HN.out ?_
      intro v28 W hJ hkb
      have HJ := Lib.hid hJ
      clear hJ
      refine hK _ _ hkb ?_
      clear hK K
      (try simp only [Act.put, List.setIfInBounds_toArray, List.set_cons_succ, List.set_cons_zero])
      exact hM14 v24 v28 _ (HJ.out.sub (by intro x hx; simp only [List.mem_cons, List.not_mem_nil, or_false] at hx; rcases hx with rfl | rfl <;> first | exact (.tail _ (.head _)) | exact (.head _)))
  · intro v28 W hJ
    have HJ := Lib.hid hJ
    clear hJ
    refine anyofM 0 [3, 9, 13, 18] (by kernel_rfl) ⟨oneM rfl rfl (fun K hK => ?_), oneM rfl rfl (fun K hK => ?_), oneM rfl rfl (fun K hK => ?_), oneM rfl rfl (fun K hK => ?_), oneM rfl rfl (fun K hK => ?_), trivial⟩
    · refine HJ.out.fresh rfl 44 rfl Tryd.underlying44 ?_
      intro v11 W hJ hkb
      have HJ := Lib.hid hJ
      clear hJ
      refine hK _ _ hkb ?_
      clear hK K
      (try simp only [Act.put, List.setIfInBounds_toArray, List.set_cons_succ, List.set_cons_zero])
      exact relist (by kernel_rfl) (hM8 v11 v28 _ (HJ.out.sub (by intro x hx; simp only [List.mem_cons, List.not_mem_nil, or_false] at hx; rcases hx with rfl <;> first | exact (.head _))))
    · refine HJ.out.mk1 40 (.tmp 13) rfl 5 Tryd.underlying40 .u8 to _ [Value.int .u8 (to.toNat : Int)] rfl rfl (fun _ _ => rfl) u8_sizeU u8_zeroU (show 1 ≤ 16777216 by decide) (show 0 < 1 by decide) ?_
      intro v14 W hJ hkb
      have HJ := Lib.hid hJ
      clear hJ
      refine hK _ _ hkb ?_
      clear hK K
      (try simp only [Act.put, List.setIfInBounds_toArray, List.set_cons_succ, List.set_cons_zero])
      exact relist (by kernel_rfl) (hM11 v14 v28 _ (HJ.out.sub (by intro x hx; simp only [List.mem_cons, List.not_mem_nil, or_false] at hx; rcases hx with rfl | rfl <;> first | exact (.head _) | exact (.tail _ (.head _)))))
    · refine HJ.out.mk2 80 (.tmp 17) (.tmp 19) rfl Tryd.underlying80 am ex rfl rfl HAM.out HEX.out u64_size1 u64_zero1 ?_
      intro v20 W hJ hkb
      have HJ := Lib.hid hJ
      clear hJ
      refine hK _ _ hkb ?_
      clear hK K
      (try simp only [Act.put, List.setIfInBounds_toArray, List.set_cons_succ, List.set_cons_zero])
      exact relist (by kernel_rfl) (hM13 v20 v28 _ (HJ.out.sub (by intro x hx; simp only [List.mem_cons, List.not_mem_nil, or_false] at hx; rcases hx with rfl | rfl <;> first | exact (.head _) | exact (.tail _ (.head _)))))
    · refine HJ.out.mk1 82 (.tmp 23) rfl 48 Tryd.underlying82 (.arr 32 .u8) hash _ (bv hash) rfl rfl (fun _ _ => ⟨HH.out, AllH.bytes.2 rfl⟩) (szDg (by rw [bv_length]; exact HH.out)) zDg (by rw [bv_length, HH.out]; decide) (by rw [bv_length, HH.out]; decide) ?_
      intro v24 W hJ hkb
      have HJ := Lib.hid hJ
      clear hJ
      refine hK _ _ hkb ?_
      clear hK K
      (try simp only [Act.put, List.setIfInBounds_toArray, List.set_cons_succ, List.set_cons_zero])
      exact relist (by kernel_rfl) (hM14 v24 v28 _ (HJ.out.sub (by intro x hx; simp only [List.mem_cons, List.not_mem_nil, or_false] at hx; rcases hx with rfl | rfl <;> first | exact (.head _) | exact (.tail _ (.head _)))))
    · refine HJ.out.mkS (p := note.data.toList) (u := v28) (by repeat (first | exact List.Mem.head _ | refine List.Mem.tail _ ?_)) 83 (.tmp 28) rfl Tryd.underlying83 rfl sl_size1 sl_zero1 ?_
      intro v29 W hJ hkb
      have HJ := Lib.hid hJ
      clear hJ
      refine hK _ _ hkb ?_
      clear hK K
      (try simp only [Act.put, List.setIfInBounds_toArray, List.set_cons_succ, List.set_cons_zero])
      exact hM15 v28 v29 _ (HJ.out.sub (by intro x hx; simp only [List.mem_cons, List.not_mem_nil, or_false] at hx; rcases hx with rfl | rfl <;> first | exact (.tail _ (.head _)) | exact (.head _)))
  · intro v11 v14 W hJ
    have HJ := Lib.hid hJ
    clear hJ
    refine anyofM 4 [9, 13, 17] (by kernel_rfl) ⟨oneM rfl rfl (fun K hK => ?_), oneM rfl rfl (fun K hK => ?_), oneM rfl rfl (fun K hK => ?_), oneM rfl rfl (fun K hK => ?_), trivial⟩
    · go_simp
      refine (HJ.out.one (.head _) (by simp only [List.length_append, List.length_cons, List.length_nil, List.flatMap_cons, List.flatMap_nil, be_length, HH.out, id]; omega)).mono ?_
      rintro e W ⟨v15, rfl, hJ, hkb⟩
      have HJ := Lib.hid hJ
      clear hJ
      refine hK _ _ hkb ?_
      clear hK K
      exact hM16 v11 v14 v15 _ (HJ.out.sub (by intro x hx; cases hx))
    · refine HJ.out.mk2 80 (.tmp 17) (.tmp 19) rfl Tryd.underlying80 am ex rfl rfl HAM.out HEX.out u64_size1 u64_zero1 ?_
      intro v20 W hJ hkb
      have HJ := Lib.hid hJ
      clear hJ
      refine hK _ _ hkb ?_
      clear hK K
      (try simp only [Act.put, List.setIfInBounds_toArray, List.set_cons_succ, List.set_cons_zero])
      exact hM17 v11 v14 v20 _ (HJ.out.sub (by intro x hx; simp only [List.mem_cons, List.not_mem_nil, or_false] at hx; rcases hx with rfl | rfl <;> first | exact (.tail _ (.head _)) | exact (.head _)))
    · refine HJ.out.mk1 82 (.tmp 23) rfl 48 Tryd.underlying82 (.arr 32 .u8) hash _ (bv hash) rfl rfl (fun _ _ => ⟨HH.out, AllH.bytes.2 rfl⟩) (szDg (by rw [bv_length]; exact HH.out)) zDg (by rw [bv_length, HH.out]; decide) (by rw [bv_length, HH.out]; decide) ?_
      intro v24 W hJ hkb
      have HJ := Lib.hid hJ
      clear hJ
      refine hK _ _ hkb ?_
      clear hK K
      (try simp only [Act.put, List.setIfInBounds_toArray, List.set_cons_succ, List.set_cons_zero])
      exact hM18 v11 v14 v24 _ (HJ.out.sub (by intro x hx; simp only [List.mem_cons, List.not_mem_nil, or_false] at hx; rcases hx with rfl | rfl <;> first | exact (.tail _ (.head _)) | exact (.head _)))
    · refine HJ.out.mkStr 9 40 (.tmp 27) rfl Tryd.underlying9 Tryd.underlying40 note rfl HN.out ?_
      intro v28 W hJ hkb
      have HJ := Lib.hid hJ
      clear hJ
      refine hK _ _ hkb ?_
      clear hK K
      (try simp only [Act.put, List.setIfInBounds_toArray, List.set_cons_succ, List.set_cons_zero])
      exact hM19 v11 v14 v28 _ (HJ.out.sub (by intro x hx; simp only [List.mem_cons, List.not_mem_nil, or_false] at hx; rcases hx with rfl | rfl <;> first | exact (.tail _ (.head _)) | exact (.head _)))
  · intro v11 v20 W hJ
    have HJ := Lib.hid hJ
    clear hJ
    refine anyofM 3 [13, 17] (by kernel_rfl) ⟨oneM rfl rfl (fun K hK => ?_), oneM rfl rfl (fun K hK => ?_), oneM rfl rfl (fun K hK => ?_), trivial⟩
    · refine HJ.out.mk1 40 (.tmp 13) rfl 5 Tryd.underlying40 .u8 to _ [Value.int .u8 (to.toNat : Int)] rfl rfl (fun _ _ => rfl) u8_sizeU u8_zeroU (show 1 ≤ 16777216 by decide) (show 0 < 1 by decide) ?_
      intro v14 W hJ hkb
      have HJ := Lib.hid hJ
      clear hJ
      refine hK _ _ hkb ?_
      clear hK K
      (try simp only [Act.put, List.setIfInBounds_toArray, List.set_cons_succ, List.set_cons_zero])
      exact relist (by kernel_rfl) (hM17 v11 v14 v20 _ (HJ.out.sub (by intro x hx; simp only [List.mem_cons, List.not_mem_nil, or_false] at hx; rcases hx with rfl | rfl <;> first | exact (.head _) | exact (.tail _ (.head _)))))
    · refine HJ.out.mk1 82 (.tmp 23) rfl 48 Tryd.underlying82 (.arr 32 .u8) hash _ (bv hash) rfl rfl (fun _ _ => ⟨HH.out, AllH.bytes.2 rfl⟩) (szDg (by rw [bv_length]; exact HH.out)) zDg (by rw [bv_length, HH.out]; decide) (by rw [bv_length, HH.out]; decide) ?_
      intro v24 W hJ hkb
      have HJ := Lib.hid hJ
      clear hJ
      refine hK _ _ hkb ?_
      clear hK K
      (try simp only [Act.put, List.setIfInBounds_toArray, List.set_cons_succ, List.set_cons_zero])
      exact hM20 v11 v20 v24 _ (HJ.out.sub (by intro x hx; simp only [List.mem_cons, List.not_mem_nil, or_false] at hx; rcases hx with rfl | rfl <;> first | exact (.tail _ (.head _)) | exact (.head _)))
    · refine HJ.out.mkStr 9 40 (.tmp 27) rfl Tryd.underlying9 Tryd.underlying40 note rfl HN.out ?_
      intro v28 W hJ hkb
      have HJ := Lib.hid hJ
      clear hJ
      refine hK _ _ hkb ?_
      clear hK K
      (try simp only [Act.put, List.setIfInBounds_toArray, List.set_cons_succ, List.set_cons_zero])
      exact hM21 v11 v20 v28 _ (HJ.out.sub (by intro x hx; simp only [List.mem_cons, List.not_mem_nil, or_false] at hx; rcases hx with rfl | rfl <;> first | exact (.tail _ (.head _)) | exact (.head _)))
  · intro v11 v24 W hJ
    have HJ := Lib.hid hJ
    clear hJ
    refine anyofM 3 [9, 17] (by kernel_rfl) ⟨oneM rfl rfl (fun K hK => ?_), oneM rfl rfl (fun K hK => ?_), oneM rfl rfl (fun K hK => ?_), trivial⟩
    · refine HJ.out.mk1 40 (.tmp 13) rfl 5 Tryd.underlying40 .u8 to _ [Value.int .u8 (to.toNat : Int)] rfl rfl (fun _ _ => rfl) u8_sizeU u8_zeroU (show 1 ≤ 16777216 by decide) (show 0 < 1 by decide) ?_
      intro v14 W hJ hkb
      have HJ := Lib.hid hJ
      clear hJ
      refine hK _ _ hkb ?_
      clear hK K
      (try simp only [Act.put, List.setIfInBounds_toArray, List.set_cons_succ, List.set_cons_zero])
      exact relist (by kernel_rfl) (hM18 v11 v14 v24 _ (HJ.out.sub (by intro x hx; simp only [List.mem_cons, List.not_mem_nil, or_false] at hx; rcases hx with rfl | rfl <;> first | exact (.head _) | exact (.tail _ (.head _)))))
    · refine HJ.out.mk2 80 (.tmp 17) (.tmp 19) rfl Tryd.underlying80 am ex rfl rfl HAM.out HEX.out u64_size1 u64_zero1 ?_
      intro v20 W hJ hkb
      have HJ := Lib.hid hJ
      clear hJ
      refine hK _ _ hkb ?_
      clear hK K
      (try simp only [Act.put, List.setIfInBounds_toArray, List.set_cons_succ, List.set_cons_zero])
      exact relist (by kernel_rfl) (hM20 v11 v20 v24 _ (HJ.out.sub (by intro x hx; simp only [List.mem_cons, List.not_mem_nil, or_false] at hx; rcases hx with rfl | rfl <;> first | exact (.head _) | exact (.tail _ (.head _)))))
    · refine HJ.out.mkStr 9 40 (.tmp 27) rfl Tryd.underlying9 Tryd.underlying40 note rfl HN.out ?_
      intro v28 W hJ hkb
      have HJ := Lib.hid hJ
      clear hJ
      refine hK _ _ hkb ?_
      clear hK K
      (try simp only [Act.put, List.setIfInBounds_toArray, List.set_cons_succ, List.set_cons_zero])
      exact hM22 v11 v24 v28 _ (HJ.out.sub (by intro x hx; simp only [List.mem_cons, List.not_mem_nil, or_false] at hx; rcases hx with rfl | rfl <;> first | exact (.tail _ (.head _)) | exact (.head _)))
  · intro v11 v28 W hJ
    have HJ := Lib.hid hJ
    clear hJ
    refine anyofM 3 [9, 13, 18] (by kernel_rfl) ⟨oneM rfl rfl (fun K hK => ?_), oneM rfl rfl (fun K hK => ?_), oneM rfl rfl (fun K hK => ?_), oneM rfl rfl (fun K hK => ?_), trivial⟩
    · refine HJ.out.mk1 40 (.tmp 13) rfl 5 Tryd.underlying40 .u8 to _ [Value.int .u8 (to.toNat : Int)] rfl rfl (fun _ _ => rfl) u8_sizeU u8_zeroU (show 1 ≤ 16777216 by decide) (show 0 < 1 by decide) ?_
      intro v14 W hJ hkb
      have HJ := Lib.hid hJ
      clear hJ
      refine hK _ _ hkb ?_
      clear hK K
      (try simp only [Act.put, List.setIfInBounds_toArray, List.set_cons_succ, List.set_cons_zero])
      exact relist (by kernel_rfl) (hM19 v11 v14 v28 _ (HJ.out.sub (by intro x hx; simp only [List.mem_cons, List.not_mem_nil, or_false] at hx; rcases hx with rfl | rfl <;> first | exact (.head _) | exact (.tail _ (.head _)))))
    · refine HJ.out.mk2 80 (.tmp 17) (.tmp 19) rfl Tryd.underlying80 am ex rfl rfl HAM.out HEX.out u64_size1 u64_zero1 ?_
      intro v20 W hJ hkb
      have HJ := Lib.hid hJ
      clear hJ
      refine hK _ _ hkb ?_
      clear hK K
      (try simp only [Act.put, List.setIfInBounds_toArray, List.set_cons_succ, List.set_cons_zero])
      exact relist (by kernel_rfl) (hM21 v11 v20 v28 _ (HJ.out.sub (by intro x hx; simp only [List.mem_cons, List.not_mem_nil, or_false] at hx; rcases hx with rfl | rfl <;> first | exact (.head _) | exact (.tail _ (.head _)))))
    · refine HJ.out.mk1 82 (.tmp 23) rfl 48 Tryd.underlying82 (.arr 32 .u8) hash _ (bv hash) rfl rfl (fun _ _ => ⟨HH.out, AllH.bytes.2 rfl⟩) (szDg (by rw [bv_length]; exact HH.out)) zDg (by rw [bv_length, HH.out]; decide) (by rw [bv_length, HH.out]; decide) ?_
      intro v24 W hJ hkb
      have HJ := Lib.hid hJ
      clear hJ
      refine hK _ _ hkb ?_
      clear hK K
      (try simp only [Act.put, List.setIfInBounds_toArray, List.set_cons_succ, List.set_cons_zero])
      exact relist (by kernel_rfl) (hM22 v11 v24 v28 _ (HJ.out.sub (by intro x hx; simp only [List.mem_cons, List.not_mem_nil, or_false] at hx; rcases hx with rfl | rfl <;> first | exact (.head _) | exact (.tail _ (.head _)))))
    · refine HJ.out.mkS (p := note.data.toList) (u := v28) (by repeat (first | exact List.Mem.head _ | refine List.Mem.tail _ ?_)) 83 (.tmp 28) rfl Tryd.underlying83 rfl sl_size1 sl_zero1 ?_
      intro v29 W hJ hkb
      have HJ := Lib.hid hJ
      clear hJ
      refine hK _ _ hkb ?_
      clear hK K
      (try simp only [Act.put, List.setIfInBounds_toArray, List.set_cons_succ, List.set_cons_zero])
      exact hM23 v11 v28 v29 _ (HJ.out.sub (by intro x hx; simp only [List.mem_cons, List.not_mem_nil, or_false] at hx; rcases hx with rfl | rfl <;> first | exact (.tail _ (.head _)) | exact (.head _)))
  · intro v14 v20 W hJ
    have HJ := Lib.hid hJ
    clear hJ
    refine anyofM 0 [13, 17] (by kernel_rfl) ⟨oneM rfl rfl (fun K hK => ?_), oneM rfl rfl (fun K hK => ?_), oneM rfl rfl (fun K hK => ?_), trivial⟩
    · refine HJ.out.fresh rfl 44 rfl Tryd.underlying44 ?_
      intro v11 W hJ hkb
      have HJ := Lib.hid hJ
      clear hJ
      refine hK _ _ hkb ?_
      clear hK K
      (try simp only [Act.put, List.setIfInBounds_toArray, List.set_cons_succ, List.set_cons_zero])
      exact relist (by kernel_rfl) (hM17 v11 v14 v20 _ (HJ.out.sub (by intro x hx; simp only [List.mem_cons, List.not_mem_nil, or_false] at hx; rcases hx with rfl | rfl <;> first | exact (.head _) | exact (.tail _ (.head _)))))
    · refine HJ.out.mk1 82 (.tmp 23) rfl 48 Tryd.underlying82 (.arr 32 .u8) hash _ (bv hash) rfl rfl (fun _ _ => ⟨HH.out, AllH.bytes.2 rfl⟩) (szDg (by rw [bv_length]; exact HH.out)) zDg (by rw [bv_length, HH.out]; decide) (by rw [bv_length, HH.out]; decide) ?_
      intro v24 W hJ hkb
      have HJ := Lib.hid hJ
      clear hJ
      refine hK _ _ hkb ?_
      clear hK K
      (try simp only [Act.put, List.setIfInBounds_toArray, List.set_cons_succ, List.set_cons_zero])
      exact hM24 v14 v20 v24 _ (HJ.out.sub (by intro x hx; simp only [List.mem_cons, List.not_mem_nil, or_false] at hx; rcases hx with rfl | rfl | rfl <;> first | exact (.tail _ (.head _)) | exact (.tail _ (.tail _ (.head _))) | exact (.head _)))
    · refine HJ.out.mkStr 9 40 (.tmp 27) rfl Tryd.underlying9 Tryd.underlying40 note rfl HN.out ?_
      intro v28 W hJ hkb
      have HJ := Lib.hid hJ
      clear hJ
      refine hK _ _ hkb ?_
      clear hK K
      (try simp only [Act.put, List.setIfInBounds_toArray, List.set_cons_succ, List.set_cons_zero])
      exact hM25 v14 v20 v28 _ (HJ.out.sub (by intro x hx; simp only [List.mem_cons, List.not_mem_nil, or_false] at hx; rcases hx with rfl | rfl | rfl <;> first | exact (.tail _ (.head _)) | exact (.tail _ (.tail _ (.head _))) | exact (.head _)))
  · intro v14 v24 W hJ
    have HJ := Lib.hid hJ
    clear hJ
    refine anyofM 0 [9, 17] (by kernel_rfl) ⟨oneM rfl rfl (fun K hK => ?_), oneM rfl rfl (fun K hK => ?_), oneM rfl rfl (fun K hK => ?_), trivial⟩
    · refine HJ.out.fresh rfl 44 rfl Tryd.underlying44 ?_
      intro v11 W hJ hkb
      have HJ := Lib.hid hJ
      clear hJ
      refine hK _ _ hkb ?_
      clear hK K
      (try simp only [Act.put, List.setIfInBounds_toArray, List.set_cons_succ, List.set_cons_zero])
      exact relist (by kernel_rfl) (hM18 v11 v14 v24 _ (HJ.out.sub (by intro x hx; simp only [List.mem_cons, List.not_mem_nil, or_false] at hx; rcases hx with rfl | rfl <;> first | exact (.head _) | exact (.tail _ (.head _)))))
    · refine HJ.out.mk2 80 (.tmp 17) (.tmp 19) rfl Tryd.underlying80 am ex rfl rfl HAM.out HEX.out u64_size1 u64_zero1 ?_
      intro v20 W hJ hkb
      have HJ := Lib.hid hJ
      clear hJ
      refine hK _ _ hkb ?_
      clear hK K
      (try simp only [Act.put, List.setIfInBounds_toArray, List.set_cons_succ, List.set_cons_zero])
      exact relist (by kernel_rfl) (hM24 v14 v20 v24 _ (HJ.out.sub (by intro x hx; simp only [List.mem_cons, List.not_mem_nil, or_false] at hx; rcases hx with rfl | rfl | rfl <;> first | exact (.tail _ (.head _)) | exact (.head _) | exact (.tail _ (.tail _ (.head _))))))
    · refine HJ.out.mkStr 9 40 (.tmp 27) rfl Tryd.underlying9 Tryd.underlying40 note rfl HN.out ?_
      intro v28 W hJ hkb
      have HJ := Lib.hid hJ
      clear hJ
      refine hK _ _ hkb ?_
      clear hK K
      (try simp only [Act.put, List.setIfInBounds_toArray, List.set_cons_succ, List.set_cons_zero])
      exact hM26 v14 v24 v28 _ (HJ.out.sub (by intro x hx; simp only [List.mem_cons, List.not_mem_nil, or_false] at hx; rcases hx with rfl | rfl | rfl <;> first | exact (.tail _ (.head _)) | exact (.tail _ (.tail _ (.head _))) | exact (.head _)))
  · intro v14 v28 W hJ
    have HJ := Lib.hid hJ
    clear hJ
    refine anyofM 0 [9, 13, 18] (by kernel_rfl) ⟨oneM rfl rfl (fun K hK => ?_), oneM rfl rfl (fun K hK => ?_), oneM rfl rfl (fun K hK => ?_), oneM rfl rfl (fun K hK => ?_), trivial⟩
    · refine HJ.out.fresh rfl 44 rfl Tryd.underlying44 ?_
      intro v11 W hJ hkb
      have HJ := Lib.hid hJ
      clear hJ
      refine hK _ _ hkb ?_
      clear hK K
      (try simp only [Act.put, List.setIfInBounds_toArray, List.set_cons_succ, List.set_cons_zero])
      exact relist (by kernel_rfl) (hM19 v11 v14 v28 _ (HJ.out.sub (by intro x hx; simp only [List.mem_cons, List.not_mem_nil, or_false] at hx; rcases hx with rfl | rfl <;> first | exact (.head _) | exact (.tail _ (.head _)))))
    · refine HJ.out.mk2 80 (.tmp 17) (.tmp 19) rfl Tryd.underlying80 am ex rfl rfl HAM.out HEX.out u64_size1 u64_zero1 ?_
      intro v20 W hJ hkb
      have HJ := Lib.hid hJ
      clear hJ
      refine hK _ _ hkb ?_
      clear hK K
      (try simp only [Act.put, List.setIfInBounds_toArray, List.set_cons_succ, List.set_cons_zero])
      exact relist (by kernel_rfl) (hM25 v14 v20 v28 _ (HJ.out.sub (by intro x hx; simp only [List.mem_cons, List.not_mem_nil, or_false] at hx; rcases hx with rfl | rfl | rfl <;> first | exact (.tail _ (.head _)) | exact (.head _) | exact (.tail _ (.tail _ (.head _))))))
    · refine HJ.out.mk1 82 (.tmp 23) rfl 48 Tryd.underlying82 (.arr 32 .u8) hash _ (bv hash) rfl rfl (fun _ _ => ⟨HH.out, AllH.bytes.2 rfl⟩) (szDg (by rw [bv_length]; exact HH.out)) zDg (by rw [bv_length, HH.out]; decide) (by rw [bv_length, HH.out]; decide) ?_
      intro v24 W hJ hkb
      have HJ := Lib.hid hJ
      clear hJ
      refine hK _ _ hkb ?_
      clear hK K
      (try simp only [Act.put, List.setIfInBounds_toArray, List.set_cons_succ, List.set_cons_zero])
      exact relist (by kernel_rfl) (hM26 v14 v24 v28 _ (HJ.out.sub (by intro x hx; simp only [List.mem_cons, List.not_mem_nil, or_false] at hx; rcases hx with rfl | rfl | rfl <;> first | exact (.tail _ (.head _)) | exact (.head _) | exact (.tail _ (.tail _ (.head _))))))
    · refine HJ.out.mkS (p := note.data.toList) (u := v28) (by repeat (first | exact List.Mem.head _ | refine List.Mem.tail _ ?_)) 83 (.tmp 28) rfl Tryd.underlying83 rfl sl_size1 sl_zero1 ?_
      intro v29 W hJ hkb
      have HJ := Lib.hid hJ
      clear hJ
      refine hK _ _ hkb ?_
      clear hK K
      (try simp only [Act.put, List.setIfInBounds_toArray, List.set_cons_succ, List.set_cons_zero])
      exact hM27 v14 v28 v29 _ (HJ.out.sub (by intro x hx; simp only [List.mem_cons, List.not_mem_nil, or_false] at hx; rcases hx with rfl | rfl | rfl <;> first | exact (.tail _ (.head _)) | exact (.tail _ (.tail _ (.head _))) | exact (.head _)))
  · intro v20 v24 W hJ
    have HJ := Lib.hid hJ
    clear hJ
    refine anyofM 0 [3, 17] (by kernel_rfl) ⟨oneM rfl rfl (fun K hK => ?_), oneM rfl rfl (fun K hK => ?_), oneM rfl rfl (fun K hK => ?_), trivial⟩
    · refine HJ.out.fresh rfl 44 rfl Tryd.underlying44 ?_
      intro v11 W hJ hkb
      have HJ := Lib.hid hJ
      clear hJ
      refine hK _ _ hkb ?_
      clear hK K
      (try simp only [Act.put, List.setIfInBounds_toArray, List.set_cons_succ, List.set_cons_zero])
      exact relist (by kernel_rfl) (hM20 v11 v20 v24 _ (HJ.out.sub (by intro x hx; simp only [List.mem_cons, List.not_mem_nil, or_false] at hx; rcases hx with rfl | rfl <;> first | exact (.head _) | exact (.tail _ (.head _)))))
    · refine HJ.out.mk1 40 (.tmp 13) rfl 5 Tryd.underlying40 .u8 to _ [Value.int .u8 (to.toNat : Int)] rfl rfl (fun _ _ => rfl) u8_sizeU u8_zeroU (show 1 ≤ 16777216 by decide) (show 0 < 1 by decide) ?_
      intro v14 W hJ hkb
      have HJ := Lib.hid hJ
      clear hJ
      refine hK _ _ hkb ?_
      clear hK K
      (try simp only [Act.put, List.setIfInBounds_toArray, List.set_cons_succ, List.set_cons_zero])
      exact relist (by kernel_rfl) (hM24 v14 v20 v24 _ (HJ.out.sub (by intro x hx; simp only [List.mem_cons, List.not_mem_nil, or_false] at hx; rcases hx with rfl | rfl | rfl <;> first | exact (.head _) | exact (.tail _ (.head _)) | exact (.tail _ (.tail _ (.head _))))))
    · refine HJ.out.mkStr 9 40 (.tmp 27) rfl Tryd.underlying9 Tryd.underlying40 note rfl HN.out ?_
      intro v28 W hJ hkb
      have HJ := Lib.hid hJ
      clear hJ
      refine hK _ _ hkb ?_
      clear hK K
      (try simp only [Act.put, List.setIfInBounds_toArray, List.set_cons_succ, List.set_cons_zero])
      exact hM28 v20 v24 v28 _ (HJ.out.sub (by intro x hx; simp only [List.mem_cons, List.not_mem_nil, or_false] at hx; rcases hx with rfl | rfl | rfl <;> first | exact (.tail _ (.head _)) | exact (.tail _ (.tail _ (.head _))) | exact (.head _)))
  · intro v20 v28 W hJ
    have HJ := Lib.hid hJ
    clear hJ
    refine anyofM 0 [3, 13, 18] (by kernel_rfl) ⟨oneM rfl rfl (fun K hK => ?_), oneM rfl rfl (fun K hK => ?_), oneM rfl rfl (fun K hK => ?_), oneM rfl rfl (fun K hK => ?_), trivial⟩
    · refine HJ.out.fresh rfl 44 rfl Tryd.underlying44 ?_
      intro v11 W hJ hkb
      have HJ := Lib.hid hJ
      clear hJ
      refine hK _ _ hkb ?_
      clear hK K
      (try simp only [Act.put, List.setIfInBounds_toArray, List.set_cons_succ, List.set_cons_zero])
      exact relist (by kernel_rfl) (hM21 v11 v20 v28 _ (HJ.out.sub (by intro x hx; simp only [List.mem_cons, List.not_mem_nil, or_false] at hx; rcases hx with rfl | rfl <;> first | exact (.head _) | exact (.tail _ (.head _)))))
    · refine HJ.out.mk1 40 (.tmp 13) rfl 5 Tryd.underlying40 .u8 to _ [Value.int .u8 (to.toNat : Int)] rfl rfl (fun _ _ => rfl) u8_sizeU u8_zeroU (show 1 ≤ 16777216 by decide) (show 0 < 1 by decide) ?_
      intro v14 W hJ hkb
      have HJ := Lib.hid hJ
      clear hJ
      refine hK _ _ hkb ?_
      clear hK K
      (try simp only [Act.put, List.setIfInBounds_toArray, List.set_cons_succ, List.set_cons_zero])
      exact relist (by kernel_rfl) (hM25 v14 v20 v28 _ (HJ.out.sub (by intro x hx; simp only [List.mem_cons, List.not_mem_nil, or_false] at hx; rcases hx with rfl | rfl | rfl <;> first | exact (.head _) | exact (.tail _ (.head _)) | exact (.tail _ (.tail _ (.head _))))))
    · refine HJ.out.mk1 82 (.tmp 23) rfl 48 Tryd.underlying82 (.arr 32 .u8) hash _ (bv hash) rfl rfl (fun _ _ => ⟨HH.out, AllH.bytes.2 rfl⟩) (szDg (by rw [bv_length]; exact HH.out)) zDg (by rw [bv_length, HH.out]; decide) (by rw [bv_length, HH.out]; decide) ?_
      intro v24 W hJ hkb
      have HJ := Lib.hid hJ
      clear hJ
      refine hK _ _ hkb ?_
      clear hK K
      (try simp only [Act.put, List.setIfInBounds_toArray, List.set_cons_succ, List.set_cons_zero])
      exact relist (by kernel_rfl) (hM28 v20 v24 v28 _ (HJ.out.sub (by intro x hx; simp only [List.mem_cons, List.not_mem_nil, or_false] at hx; rcases hx with rfl | rfl | rfl <;> first | exact (.tail _ (.head _)) | exact (.head _) | exact (.tail _ (.tail _ (.head _))))))
    · refine HJ.out.mkS (p := note.data.toList) (u := v28) (by repeat (first | exact List.Mem.head _ | refine List.Mem.tail _ ?_)) 83 (.tmp 28) rfl Tryd.underlying83 rfl sl_size1 sl_zero1 ?_
      intro v29 W hJ hkb
      have HJ := Lib.hid hJ
      clear hJ
      refine hK _ _ hkb ?_
      clear hK K
      (try simp only [Act.put, List.setIfInBounds_toArray, List.set_cons_succ, List.set_cons_zero])
      exact hM29 v20 v28 v29 _ (HJ.out.sub (by intro x hx; simp only [List.mem_cons, List.not_mem_nil, or_false] at hx; rcases hx with rfl | rfl | rfl <;> first | exact (.tail _ (.head _)) | exact (.tail _ (.tail _ (.head _))) | exact (.head _)))
  · intro v24 v28 W hJ
    have HJ := Lib.hid hJ
    clear hJ
    refine anyofM 0 [3, 9, 18] (by kernel_rfl) ⟨oneM rfl rfl (fun K hK => ?_), oneM rfl rfl (fun K hK => ?_), oneM rfl rfl (fun K hK => ?_), oneM rfl rfl (fun K hK => ?_), trivial⟩
    · refine HJ.out.fresh rfl 44 rfl Tryd.underlying44 ?_
      intro v11 W hJ hkb
      have HJ := Lib.hid hJ
      clear hJ
      refine hK _ _ hkb ?_
      clear hK K
      (try simp only [Act.put, List.setIfInBounds_toArray, List.set_cons_succ, List.set_cons_zero])
      exact relist (by kernel_rfl) (hM22 v11 v24 v28 _ (HJ.out.sub (by intro x hx; simp only [List.mem_cons, List.not_mem_nil, or_false] at hx; rcases hx with rfl | rfl <;> first | exact (.head _) | exact (.tail _ (.head _)))))
    · refine HJ.out.mk1 40 (.tmp 13) rfl 5 Tryd.underlying40 .u8 to _ [Value.int .u8 (to.toNat : Int)] rfl rfl (fun _ _ => rfl) u8_sizeU u8_zeroU (show 1 ≤ 16777216 by decide) (show 0 < 1 by decide) ?_
      intro v14 W hJ hkb
      have HJ := Lib.hid hJ
      clear hJ
      refine hK _ _ hkb ?_
      clear hK K
      (try simp only [Act.put, List.setIfInBounds_toArray, List.set_cons_succ, List.set_cons_zero])
      exact relist (by kernel_rfl) (hM26 v14 v24 v28 _ (HJ.out.sub (by intro x hx; simp only [List.mem_cons, List.not_mem_nil, or_false] at hx; rcases hx with rfl | rfl | rfl <;> first | exact (.head _) | exact (.tail _ (.head _)) | exact (.tail _ (.tail _ (.head _))))))
    · refine HJ.out.mk2 80 (.tmp 17) (.tmp 19) rfl Tryd.underlying80 am ex rfl rfl HAM.out HEX.out u64_size1 u64_zero1 ?_
      intro v20 W hJ hkb
      have HJ := Lib.hid hJ
      clear hJ
      refine hK _ _ hkb ?_
      clear hK K
      (try simp only [Act.put, List.setIfInBounds_toArray, List.set_cons_succ, List.set_cons_zero])
      exact relist (by kernel_rfl) (hM28 v20 v24 v28 _ (HJ.out.sub (by intro x hx; simp only [List.mem_cons, List.not_mem_nil, or_false] at hx; rcases hx with rfl | rfl | rfl <;> first | exact (.head _) | exact (.tail _ (.head _)) | exact (.tail _ (.tail _ (.head _))))))
    · refine HJ.out.mkS (p := note.data.toList) (u := v28) (by repeat (first | exact List.Mem.head _ | refine List.Mem.tail _ ?_)) 83 (.tmp 28) rfl Tryd.underlying83 rfl sl_size1 sl_zero1 ?_
      intro v29 W hJ hkb
      have HJ := Lib.hid hJ
      clear hJ
      refine hK _ _ hkb ?_
      clear hK K
      (try simp only [Act.put, List.setIfInBounds_toArray, List.set_cons_succ, List.set_cons_zero])
      exact hM30 v24 v28 v29 _ (HJ.out.sub (by intro x hx; simp only [List.mem_cons, List.not_mem_nil, or_false] at hx; rcases hx with rfl | rfl | rfl <;> first | exact (.tail _ (.head _)) | exact (.tail _ (.tail _ (.head _))) | exact (.head _)))
  · intro v28 v29 W hJ
    have HJ := Lib.hid hJ
    clear hJ
    refine anyofM 0 [3, 9, 13] (by kernel_rfl) ⟨oneM rfl rfl (fun K hK => ?_), oneM rfl rfl (fun K hK => ?_), oneM rfl rfl (fun K hK => ?_), oneM rfl rfl (fun K hK => ?_), trivial⟩
    · refine HJ.out.fresh rfl 44 rfl Tryd.underlying44 ?_
      intro v11 W hJ hkb
      have HJ := Lib.hid hJ
      clear hJ
      refine hK _ _ hkb ?_
      clear hK K
      (try simp only [Act.put, List.setIfInBounds_toArray, List.set_cons_succ, List.set_cons_zero])
      exact relist (by kernel_rfl) (hM23 v11 v28 v29 _ (HJ.out.sub (by intro x hx; simp only [List.mem_cons, List.not_mem_nil, or_false] at hx; rcases hx with rfl | rfl <;> first | exact (.head _) | exact (.tail _ (.head _)))))
    · refine HJ.out.mk1 40 (.tmp 13) rfl 5 Tryd.underlying40 .u8 to _ [Value.int .u8 (to.toNat : Int)] rfl rfl (fun _ _ => rfl) u8_sizeU u8_zeroU (show 1 ≤ 16777216 by decide) (show 0 < 1 by decide) ?_
      intro v14 W hJ hkb
      have HJ := Lib.hid hJ
      clear hJ
      refine hK _ _ hkb ?_
      clear hK K
      (try simp only [Act.put, List.setIfInBounds_toArray, List.set_cons_succ, List.set_cons_zero])
      exact relist (by kernel_rfl) (hM27 v14 v28 v29 _ (HJ.out.sub (by intro x hx; simp only [List.mem_cons, List.not_mem_nil, or_false] at hx; rcases hx with rfl | rfl | rfl <;> first | exact (.head _) | exact (.tail _ (.head _)) | exact (.tail _ (.tail _ (.head _))))))
    · refine HJ.out.mk2 80 (.tmp 17) (.tmp 19) rfl Tryd.underlying80 am ex rfl rfl HAM.out HEX.out u64_size1 u64_zero1 ?_
      intro v20 W hJ hkb
      have HJ := Lib.hid hJ
      clear hJ
      refine hK _ _ hkb ?_
      clear hK K
      (try simp only [Act.put, List.setIfInBounds_toArray, List.set_cons_succ, List.set_cons_zero])
      exact relist (by kernel_rfl) (hM29 v20 v28 v29 _ (HJ.out.sub (by intro x hx; simp only [List.mem_cons, List.not_mem_nil, or_false] at hx; rcases hx with rfl | rfl | rfl <;> first | exact (.head _) | exact (.tail _ (.head _)) | exact (.tail _ (.tail _ (.head _))))))
    · refine HJ.out.mk1 82 (.tmp 23) rfl 48 Tryd.underlying82 (.arr 32 .u8) hash _ (bv hash) rfl rfl (fun _ _ => ⟨HH.out, AllH.bytes.2 rfl⟩) (szDg (by rw [bv_length]; exact HH.out)) zDg (by rw [bv_length, HH.out]; decide) (by rw [bv_length, HH.out]; decide) ?_
      intro v24 W hJ hkb
      have HJ := Lib.hid hJ
      clear hJ
      refine hK _ _ hkb ?_
      clear hK K
      (try simp only [Act.put, List.setIfInBounds_toArray, List.set_cons_succ, List.set_cons_zero])
      exact relist (by kernel_rfl) (hM30 v24 v28 v29 _ (HJ.out.sub (by intro x hx; simp only [List.mem_cons, List.not_mem_nil, or_false] at hx; rcases hx with rfl | rfl | rfl <;> first | exact (.head _) | exact (.tail _ (.head _)) | exact (.tail _ (.tail _ (.head _))))))
  · intro v11 v14 v15 W hJ
    have HJ := Lib.hid hJ
    clear hJ
    refine anyofM 9 [13, 17] (by kernel_rfl) ⟨oneM rfl rfl (fun K hK => ?_), oneM rfl rfl (fun K hK => ?_), oneM rfl rfl (fun K hK => ?_), trivial⟩
    · refine HJ.out.mk2 80 (.tmp 17) (.tmp 19) rfl Tryd.underlying80 am ex rfl rfl HAM.out HEX.out u64_size1 u64_zero1 ?_
      intro v20 W hJ hkb
      have HJ := Lib.hid hJ
      clear hJ
      refine hK _ _ hkb ?_
      clear hK K
      (try simp only [Act.put, List.setIfInBounds_toArray, List.set_cons_succ, List.set_cons_zero])
      exact hM31 v11 v14 v15 v20 _ (HJ.out.sub (by intro x hx; simp only [List.mem_cons, List.not_mem_nil, or_false] at hx; rcases hx with rfl <;> first | exact (.head _)))
    · refine HJ.out.mk1 82 (.tmp 23) rfl 48 Tryd.underlying82 (.arr 32 .u8) hash _ (bv hash) rfl rfl (fun _ _ => ⟨HH.out, AllH.bytes.2 rfl⟩) (szDg (by rw [bv_length]; exact HH.out)) zDg (by rw [bv_length, HH.out]; decide) (by rw [bv_length, HH.out]; decide) ?_
      intro v24 W hJ hkb
      have HJ := Lib.hid hJ
      clear hJ
      refine hK _ _ hkb ?_
      clear hK K
      (try simp only [Act.put, List.setIfInBounds_toArray, List.set_cons_succ, List.set_cons_zero])
      exact hM32 v11 v14 v15 v24 _ (HJ.out.sub (by intro x hx; simp only [List.mem_cons, List.not_mem_nil, or_false] at hx; rcases hx with rfl <;> first | exact (.head _)))
    · refine HJ.out.mkStr 9 40 (.tmp 27) rfl Tryd.underlying9 Tryd.underlying40 note rfl HN.out ?_
      intro v28 W hJ hkb
      have HJ := Lib.hid hJ
      clear hJ
      refine hK _ _ hkb ?_
      clear hK K
      (try simp only [Act.put, List.setIfInBounds_toArray, List.set_cons_succ, List.set_cons_zero])
      exact hM33 v11 v14 v15 v28 _ (HJ.out.sub (by intro x hx; simp only [List.mem_cons, List.not_mem_nil, or_false] at hx; rcases hx with rfl <;> first | exact (.head _)))
  · intro v11 v14 v20 W hJ
    have HJ := Lib.hid hJ
    clear hJ
    refine anyofM 4 [13, 17] (by kernel_rfl) ⟨oneM rfl rfl (fun K hK => ?_), oneM rfl rfl (fun K hK => ?_), oneM rfl rfl (fun K hK => ?_), trivial⟩
    · go_simp
      refine (HJ.out.one (.head _) (by simp only [List.length_append, List.length_cons, List.length_nil, List.flatMap_cons, List.flatMap_nil, be_length, HH.out, id]; omega)).mono ?_
      rintro e W ⟨v15, rfl, hJ, hkb⟩
      have HJ := Lib.hid hJ
      clear hJ
      refine hK _ _ hkb ?_
      clear hK K
      exact relist (by kernel_rfl) (hM31 v11 v14 v15 v20 _ (HJ.out.sub (by intro x hx; simp only [List.mem_cons, List.not_mem_nil, or_false] at hx; rcases hx with rfl <;> first | exact (.tail _ (.head _)))))
    · refine HJ.out.mk1 82 (.tmp 23) rfl 48 Tryd.underlying82 (.arr 32 .u8) hash _ (bv hash) rfl rfl (fun _ _ => ⟨HH.out, AllH.bytes.2 rfl⟩) (szDg (by rw [bv_length]; exact HH.out)) zDg (by rw [bv_length, HH.out]; decide) (by rw [bv_length, HH.out]; decide) ?_
      intro v24 W hJ hkb
      have HJ := Lib.hid hJ
      clear hJ
      refine hK _ _ hkb ?_
      clear hK K
      (try simp only [Act.put, List.setIfInBounds_toArray, List.set_cons_succ, List.set_cons_zero])
      exact hM34 v11 v14 v20 v24 _ (HJ.out.sub (by intro x hx; simp only [List.mem_cons, List.not_mem_nil, or_false] at hx; rcases hx with rfl | rfl | rfl <;> first | exact (.tail _ (.head _)) | exact (.tail _ (.tail _ (.head _))) | exact (.head _)))
    · refine HJ.out.mkStr 9 40 (.tmp 27) rfl Tryd.underlying9 Tryd.underlying40 note rfl HN.out ?_
      intro v28 W hJ hkb
      have HJ := Lib.hid hJ
      clear hJ
      refine hK _ _ hkb ?_
      clear hK K
      (try simp only [Act.put, List.setIfInBounds_toArray, List.set_cons_succ, List.set_cons_zero])
      exact hM35 v11 v14 v20 v28 _ (HJ.out.sub (by intro x hx; simp only [List.mem_cons, List.not_mem_nil, or_false] at hx; rcases hx with rfl | rfl | rfl <;> first | exact (.tail _ (.head _)) | exact (.tail _ (.tail _ (.head _))) | exact (.head _)))
  · intro v11 v14 v24 W hJ
    have HJ := Lib.hid hJ
    clear hJ
    refine anyofM 4 [9, 17] (by kernel_rfl) ⟨oneM rfl rfl (fun K hK => ?_), oneM rfl rfl (fun K hK => ?_), oneM rfl rfl (fun K hK => ?_), trivial⟩
    · go_simp
      refine (HJ.out.one (.head _) (by simp only [List.length_append, List.length_cons, List.length_nil, List.flatMap_cons, List.flatMap_nil, be_length, HH.out, id]; omega)).mono ?_
      rintro e W ⟨v15, rfl, hJ, hkb⟩
      have HJ := Lib.hid hJ
      clear hJ
      refine hK _ _ hkb ?_
      clear hK K
      exact relist (by kernel_rfl) (hM32 v11 v14 v15 v24 _ (HJ.out.sub (by intro x hx; simp only [List.mem_cons, List.not_mem_nil, or_false] at hx; rcases hx with rfl <;> first | exact (.tail _ (.head _)))))
    · refine HJ.out.mk2 80 (.tmp 17) (.tmp 19) rfl Tryd.underlying80 am ex rfl rfl HAM.out HEX.out u64_size1 u64_zero1 ?_
      intro v20 W hJ hkb
      have HJ := Lib.hid hJ
      clear hJ
      refine hK _ _ hkb ?_
      clear hK K
      (try simp only [Act.put, List.setIfInBounds_toArray, List.set_cons_succ, List.set_cons_zero])
      exact relist (by kernel_rfl) (hM34 v11 v14 v20 v24 _ (HJ.out.sub (by intro x hx; simp only [List.mem_cons, List.not_mem_nil, or_false] at hx; rcases hx with rfl | rfl | rfl <;> first | exact (.tail _ (.head _)) | exact (.head _) | exact (.tail _ (.tail _ (.head _))))))
    · refine HJ.out.mkStr 9 40 (.tmp 27) rfl Tryd.underlying9 Tryd.underlying40 note rfl HN.out ?_
      intro v28 W hJ hkb
      have HJ := Lib.hid hJ
      clear hJ
      refine hK _ _ hkb ?_
      clear hK K
      (try simp only [Act.put, List.setIfInBounds_toArray, List.set_cons_succ, List.set_cons_zero])
      exact hM36 v11 v14 v24 v28 _ (HJ.out.sub (by intro x hx; simp only [List.mem_cons, List.not_mem_nil, or_false] at hx; rcases hx with rfl | rfl | rfl <;> first | exact (.tail _ (.head _)) | exact (.tail _ (.tail _ (.head _))) | exact (.head _)))
  · intro v11 v14 v28 W hJ
    have HJ := Lib.hid hJ
    clear hJ
    refine anyofM 4 [9, 13, 18] (by kernel_rfl) ⟨oneM rfl rfl (fun K hK => ?_), oneM rfl rfl (fun K hK => ?_), oneM rfl rfl (fun K hK => ?_), oneM rfl rfl (fun K hK => ?_), trivial⟩
    · go_simp
      refine (HJ.out.one (.head _) (by simp only [List.length_append, List.length_cons, List.length_nil, List.flatMap_cons, List.flatMap_nil, be_length, HH.out, id]; omega)).mono ?_
      rintro e W ⟨v15, rfl, hJ, hkb⟩
      have HJ := Lib.hid hJ
      clear hJ
      refine hK _ _ hkb ?_
      clear hK K
      exact relist (by kernel_rfl) (hM33 v11 v14 v15 v28 _ (HJ.out.sub (by intro x hx; simp only [List.mem_cons, List.not_mem_nil, or_false] at hx; rcases hx with rfl <;> first | exact (.tail _ (.head _)))))
    · refine HJ.out.mk2 80 (.tmp 17) (.tmp 19) rfl Tryd.underlying80 am ex rfl rfl HAM.out HEX.out u64_size1 u64_zero1 ?_
      intro v20 W hJ hkb
      have HJ := Lib.hid hJ
      clear hJ
      refine hK _ _ hkb ?_
      clear hK K
      (try simp only [Act.put, List.setIfInBounds_toArray, List.set_cons_succ, List.set_cons_zero])
      exact relist (by kernel_rfl) (hM35 v11 v14 v20 v28 _ (HJ.out.sub (by intro x hx; simp only [List.mem_cons, List.not_mem_nil, or_false] at hx; rcases hx with rfl | rfl | rfl <;> first | exact (.tail _ (.head _)) | exact (.head _) | exact (.tail _ (.tail _ (.head _))))))
    · refine HJ.out.mk1 82 (.tmp 23) rfl 48 Tryd.underlying82 (.arr 32 .u8) hash _ (bv hash) rfl rfl (fun _ _ => ⟨HH.out, AllH.bytes.2 rfl⟩) (szDg (by rw [bv_length]; exact HH.out)) zDg (by rw [bv_length, HH.out]; decide) (by rw [bv_length, HH.out]; decide) ?_
      intro v24 W hJ hkb
      have HJ := Lib.hid hJ
      clear hJ
      refine hK _ _ hkb ?_
      clear hK K
      (try simp only [Act.put, List.setIfInBounds_toArray, List.set_cons_succ, List.set_cons_zero])
      exact relist (by kernel_rfl) (hM36 v11 v14 v24 v28 _ (HJ.out.sub (by intro x hx; simp only [List.mem_cons, List.not_mem_nil, or_false] at hx; rcases hx with rfl | rfl | rfl <;> first | exact (.tail _ (.head _)) | exact (.head _) | exact (.tail _ (.tail _ (.head _))))))
    · refine HJ.out.mkS (p := note.data.toList) (u := v28) (by repeat (first | exact List.Mem.head _ | refine List.Mem.tail _ ?_)) 83 (.tmp 28) rfl Tryd.underlying83 rfl sl_size1 sl_zero1 ?_
      intro v29 W hJ hkb
      have HJ := Lib.hid hJ
      clear hJ
      refine hK _ _ hkb ?_
      clear hK K
      (try simp only [Act.put, List.setIfInBounds_toArray, List.set_cons_succ, List.set_cons_zero])
      exact hM37 v11 v14 v28 v29 _ (HJ.out.sub (by intro x hx; simp only [List.mem_cons, List.not_mem_nil, or_false] at hx; rcases hx with rfl | rfl | rfl <;> first | exact (.tail _ (.head _)) | exact (.tail _ (.tail _ (.head _))) | exact (.head _)))
  · intro v11 v20 v24 W hJ
    have HJ := Lib.hid hJ
    clear hJ
    refine anyofM 3 [17] (by kernel_rfl) ⟨oneM rfl rfl (fun K hK => ?_), oneM rfl rfl (fun K hK => ?_), trivial⟩
    · refine HJ.out.mk1 40 (.tmp 13) rfl 5 Tryd.underlying40 .u8 to _ [Value.int .u8 (to.toNat : Int)] rfl rfl (fun _ _ => rfl) u8_sizeU u8_zeroU (show 1 ≤ 16777216 by decide) (show 0 < 1 by decide) ?_
      intro v14 W hJ hkb
      have HJ := Lib.hid hJ
      clear hJ
      refine hK _ _ hkb ?_
      clear hK K
      (try simp only [Act.put, List.setIfInBounds_toArray, List.set_cons_succ, List.set_cons_zero])
      exact relist (by kernel_rfl) (hM34 v11 v14 v20 v24 _ (HJ.out.sub (by intro x hx; simp only [List.mem_cons, List.not_mem_nil, or_false] at hx; rcases hx with rfl | rfl | rfl <;> first | exact (.head _) | exact (.tail _ (.head _)) | exact (.tail _ (.tail _ (.head _))))))
    · refine HJ.out.mkStr 9 40 (.tmp 27) rfl Tryd.underlying9 Tryd.underlying40 note rfl HN.out ?_
      intro v28 W hJ hkb
      have HJ := Lib.hid hJ
      clear hJ
      refine hK _ _ hkb ?_
      clear hK K
      (try simp only [Act.put, List.setIfInBounds_toArray, List.set_cons_succ, List.set_cons_zero])
      exact hM38 v11 v20 v24 v28 _ (HJ.out.sub (by intro x hx; simp only [List.mem_cons, List.not_mem_nil, or_false] at hx; rcases hx with rfl | rfl | rfl <;> first | exact (.tail _ (.head _)) | exact (.tail _ (.tail _ (.head _))) | exact (.head _)))
  · intro v11 v20 v28 W hJ
    have HJ := Lib.hid hJ
    clear hJ
    refine anyofM 3 [13, 18] (by kernel_rfl) ⟨oneM rfl rfl (fun K hK => ?_), oneM rfl rfl (fun K hK => ?_), oneM rfl rfl (fun K hK => ?_), trivial⟩
    · refine HJ.out.mk1 40 (.tmp 13) rfl 5 Tryd.underlying40 .u8 to _ [Value.int .u8 (to.toNat : Int)] rfl rfl (fun _ _ => rfl) u8_sizeU u8_zeroU (show 1 ≤ 16777216 by decide) (show 0 < 1 by decide) ?_
      intro v14 W hJ hkb
      have HJ := Lib.hid hJ
      clear hJ
      refine hK _ _ hkb ?_
      clear hK K
      (try simp only [Act.put, List.setIfInBounds_toArray, List.set_cons_succ, List.set_cons_zero])
      exact relist (by kernel_rfl) (hM35 v11 v14 v20 v28 _ (HJ.out.sub (by intro x hx; simp only [List.mem_cons, List.not_mem_nil, or_false] at hx; rcases hx with rfl | rfl | rfl <;> first | exact (.head _) | exact (.tail _ (.head _)) | exact (.tail _ (.tail _ (.head _))))))
    · refine HJ.out.mk1 82 (.tmp 23) rfl 48 Tryd.underlying82 (.arr 32 .u8) hash _ (bv hash) rfl rfl (fun _ _ => ⟨HH.out, AllH.bytes.2 rfl⟩) (szDg (by rw [bv_length]; exact HH.out)) zDg (by rw [bv_length, HH.out]; decide) (by rw [bv_length, HH.out]; decide) ?_
      intro v24 W hJ hkb
      have HJ := Lib.hid hJ
      clear hJ
      refine hK _ _ hkb ?_
      clear hK K
      (try simp only [Act.put, List.setIfInBounds_toArray, List.set_cons_succ, List.set_cons_zero])
      exact relist (by kernel_rfl) (hM38 v11 v20 v24 v28 _ (HJ.out.sub (by intro x hx; simp only [List.mem_cons, List.not_mem_nil, or_false] at hx; rcases hx with rfl | rfl | rfl <;> first | exact (.tail _ (.head _)) | exact (.head _) | exact (.tail _ (.tail _ (.head _))))))
    · refine HJ.out.mkS (p := note.data.toList) (u := v28) (by repeat (first | exact List.Mem.head _ | refine List.Mem.tail _ ?_)) 83 (.tmp 28) rfl Tryd.underlying83 rfl sl_size1 sl_zero1 ?_
      intro v29 W hJ hkb
      have HJ := Lib.hid hJ
      clear hJ
      refine hK _ _ hkb ?_
      clear hK K
      (try simp only [Act.put, List.setIfInBounds_toArray, List.set_cons_succ, List.set_cons_zero])
      exact hM39 v11 v20 v28 v29 _ (HJ.out.sub (by intro x hx; simp only [List.mem_cons, List.not_mem_nil, or_false] at hx; rcases hx with rfl | rfl | rfl <;> first | exact (.tail _ (.head _)) | exact (.tail _ (.tail _ (.head _))) | exact (.head _)))
  · intro v11 v24 v28 W hJ
    have HJ := Lib.hid hJ
    clear hJ
    refine anyofM 3 [9, 18] (by kernel_rfl) ⟨oneM rfl rfl (fun K hK => ?_), oneM rfl rfl (fun K hK => ?_), oneM rfl rfl (fun K hK => ?_), trivial⟩
    · refine HJ.out.mk1 40 (.tmp 13) rfl 5 Tryd.underlying40 .u8 to _ [Value.int .u8 (to.toNat : Int)] rfl rfl (fun _ _ => rfl) u8_sizeU u8_zeroU (show 1 ≤ 16777216 by decide) (show 0 < 1 by decide) ?_
      intro v14 W hJ hkb
      have HJ := Lib.hid hJ
      clear hJ
      refine hK _ _ hkb ?_
      clear hK K
      (try simp only [Act.put, List.setIfInBounds_toArray, List.set_cons_succ, List.set_cons_zero])
      exact relist (by kernel_rfl) (hM36 v11 v14 v24 v28 _ (HJ.out.sub (by intro x hx; simp only [List.mem_cons, List.not_mem_nil, or_false] at hx; rcases hx with rfl | rfl | rfl <;> first | exact (.head _) | exact (.tail _ (.head _)) | exact (.tail _ (.tail _ (.head _))))))
    · refine HJ.out.mk2 80 (.tmp 17) (.tmp 19) rfl Tryd.underlying80 am ex rfl rfl HAM.out HEX.out u64_size1 u64_zero1 ?_
      intro v20 W hJ hkb
      have HJ := Lib.hid hJ
      clear hJ
      refine hK _ _ hkb ?_
      clear hK K
      (try simp only [Act.put, List.setIfInBounds_toArray, List.set_cons_succ, List.set_cons_zero])
      exact relist (by kernel_rfl) (hM38 v11 v20 v24 v28 _ (HJ.out.sub (by intro x hx; simp only [List.mem_cons, List.not_mem_nil, or_false] at hx; rcases hx with rfl | rfl | rfl <;> first | exact (.head _) | exact (.tail _ (.head _)) | exact (.tail _ (.tail _ (.head _))))))
    · refine HJ.out.mkS (p := note.data.toList) (u := v28) (by repeat (first | exact List.Mem.head _ | refine List.Mem.tail _ ?_)) 83 (.tmp 28) rfl Tryd.underlying83 rfl sl_size1 sl_zero1 ?_
      intro v29 W hJ hkb
      have HJ := Lib.hid hJ
      clear hJ
      refine hK _ _ hkb ?_
      clear hK K
      (try simp only [Act.put, List.setIfInBounds_toArray, List.set_cons_succ, List.set_cons_zero])
      exact hM40 v11 v24 v28 v29 _ (HJ.out.sub (by intro x hx; simp only [List.mem_cons, List.not_mem_nil, or_false] at hx; rcases hx with rfl | rfl | rfl <;> first | exact (.tail _ (.head _)) | exact (.tail _ (.tail _ (.head _))) | exact (.head _)))
  · intro v11 v28 v29 W hJ
    have HJ := Lib.hid hJ
    clear hJ
    refine anyofM 3 [9, 13] (by kernel_rfl) ⟨oneM rfl rfl (fun K hK => ?_), oneM rfl rfl (fun K hK => ?_), oneM rfl rfl (fun K hK => ?_), trivial⟩
    · refine HJ.out.mk1 40 (.tmp 13) rfl 5 Tryd.underlying40 .u8 to _ [Value.int .u8 (to.toNat : Int)] rfl rfl (fun _ _ => rfl) u8_sizeU u8_zeroU (show 1 ≤ 16777216 by decide) (show 0 < 1 by decide) ?_
      intro v14 W hJ hkb
      have HJ := Lib.hid hJ
      clear hJ
      refine hK _ _ hkb ?_
      clear hK K
      (try simp only [Act.put, List.setIfInBounds_toArray, List.set_cons_succ, List.set_cons_zero])
      exact relist (by kernel_rfl) (hM37 v11 v14 v28 v29 _ (HJ.out.sub (by intro x hx; simp only [List.mem_cons, List.not_mem_nil, or_false] at hx; rcases hx with rfl | rfl | rfl <;> first | exact (.head _) | exact (.tail _ (.head _)) | exact (.tail _ (.tail _ (.head _))))))
    · refine HJ.out.mk2 80 (.tmp 17) (.tmp 19) rfl Tryd.underlying80 am ex rfl rfl HAM.out HEX.out u64_size1 u64_zero1 ?_
      intro v20 W hJ hkb
      have HJ := Lib.hid hJ
      clear hJ
      refine hK _ _ hkb ?_
      clear hK K
      (try simp only [Act.put, List.setIfInBounds_toArray, List.set_cons_succ, List.set_cons_zero])
      exact relist (by kernel_rfl) (hM39 v11 v20 v28 v29 _ (HJ.out.sub (by intro x hx; simp only [List.mem_cons, List.not_mem_nil, or_false] at hx; rcases hx with rfl | rfl | rfl <;> first | exact (.head _) | exact (.tail _ (.head _)) | exact (.tail _ (.tail _ (.head _))))))
    · refine HJ.out.mk1 82 (.tmp 23) rfl 48 Tryd.underlying82 (.arr 32 .u8) hash _ (bv hash) rfl rfl (fun _ _ => ⟨HH.out, AllH.bytes.2 rfl⟩) (szDg (by rw [bv_length]; exact HH.out)) zDg (by rw [bv_length, HH.out]; decide) (by rw [bv_length, HH.out]; decide) ?_
      intro v24 W hJ hkb
      have HJ := Lib.hid hJ
      clear hJ
      refine hK _ _ hkb ?_
      clear hK K
      (try simp only [Act.put, List.setIfInBounds_toArray, List.set_cons_succ, List.set_cons_zero])
      exact relist (by kernel_rfl) (hM40 v11 v24 v28 v29 _ (HJ.out.sub (by intro x hx; simp only [List.mem_cons, List.not_mem_nil, or_false] at hx; rcases hx with rfl | rfl | rfl <;> first | exact (.head _) | exact (.tail _ (.head _)) | exact (.tail _ (.tail _ (.head _))))))
  · intro v14 v20 v24 W hJ
    have HJ := Lib.hid hJ
    clear hJ
    refine anyofM 0 [17] (by kernel_rfl) ⟨oneM rfl rfl (fun K hK => ?_), oneM rfl rfl (fun K hK => ?_), trivial⟩
    · refine HJ.out.fresh rfl 44 rfl Tryd.underlying44 ?_
      intro v11 W hJ hkb
      have HJ := Lib.hid hJ
      clear hJ
      refine hK _ _ hkb ?_
      clear hK K
      (try simp only [Act.put, List.setIfInBounds_toArray, List.set_cons_succ, List.set_cons_zero])
      exact relist (by kernel_rfl) (hM34 v11 v14 v20 v24 _ (HJ.out.sub (by intro x hx; simp only [List.mem_cons, List.not_mem_nil, or_false] at hx; rcases hx with rfl | rfl | rfl <;> first | exact (.head _) | exact (.tail _ (.head _)) | exact (.tail _ (.tail _ (.head _))))))
    · refine HJ.out.mkStr 9 40 (.tmp 27) rfl Tryd.underlying9 Tryd.underlying40 note rfl HN.out ?_
      intro v28 W hJ hkb
      have HJ := Lib.hid hJ
      clear hJ
      refine hK _ _ hkb ?_
      clear hK K
      (try simp only [Act.put, List.setIfInBounds_toArray, List.set_cons_succ, List.set_cons_zero])
      exact hM41 v14 v20 v24 v28 _ (HJ.out.sub (by intro x hx; simp only [List.mem_cons, List.not_mem_nil, or_false] at hx; rcases hx with rfl | rfl | rfl | rfl <;> first | exact (.tail _ (.head _)) | exact (.tail _ (.tail _ (.head _))) | exact (.tail _ (.tail _ (.tail _ (.head _)))) | exact (.head _)))
  · intro v14 v20 v28 W hJ
    have HJ := Lib.hid hJ
    clear hJ
    refine anyofM 0 [13, 18] (by kernel_rfl) ⟨oneM rfl rfl (fun K hK => ?_), oneM rfl rfl (fun K hK => ?_), oneM rfl rfl (fun K hK => ?_), trivial⟩
    · refine HJ.out.fresh rfl 44 rfl Tryd.underlying44 ?_
      intro v11 W hJ hkb
      have HJ := Lib.hid hJ
      clear hJ
      refine hK _ _ hkb ?_
      clear hK K
      (try simp only [Act.put, List.setIfInBounds_toArray, List.set_cons_succ, List.set_cons_zero])
      exact relist (by kernel_rfl) (hM35 v11 v14 v20 v28 _ (HJ.out.sub (by intro x hx; simp only [List.mem_cons, List.not_mem_nil, or_false] at hx; rcases hx with rfl | rfl | rfl <;> first | exact (.head _) | exact (.tail _ (.head _)) | exact (.tail _ (.tail _ (.head _))))))
    · refine HJ.out.mk1 82 (.tmp 23) rfl 48 Tryd.underlying82 (.arr 32 .u8) hash _ (bv hash) rfl rfl (fun _ _ => ⟨HH.out, AllH.bytes.2 rfl⟩) (szDg (by rw [bv_length]; exact HH.out)) zDg (by rw [bv_length, HH.out]; decide) (by rw [bv_length, HH.out]; decide) ?_
      intro v24 W hJ hkb
      have HJ := Lib.hid hJ
      clear hJ
      refine hK _ _ hkb ?_
      clear hK K
      (try simp only [Act.put, List.setIfInBounds_toArray, List.set_cons_succ, List.set_cons_zero])
      exact relist (by kernel_rfl) (hM41 v14 v20 v24 v28 _ (HJ.out.sub (by intro x hx; simp only [List.mem_cons, List.not_mem_nil, or_false] at hx; rcases hx with rfl | rfl | rfl | rfl <;> first | exact (.tail _ (.head _)) | exact (.tail _ (.tail _ (.head _))) | exact (.head _) | exact (.tail _ (.tail _ (.tail _ (.head _)))))))
    · refine HJ.out.mkS (p := note.data.toList) (u := v28) (by repeat (first | exact List.Mem.head _ | refine List.Mem.tail _ ?_)) 83 (.tmp 28) rfl Tryd.underlying83 rfl sl_size1 sl_zero1 ?_
      intro v29 W hJ hkb
      have HJ := Lib.hid hJ
      clear hJ
      refine hK _ _ hkb ?_
      clear hK K
      (try simp only [Act.put, List.setIfInBounds_toArray, List.set_cons_succ, List.set_cons_zero])
      exact hM42 v14 v20 v28 v29 _ (HJ.out.sub (by intro x hx; simp only [List.mem_cons, List.not_mem_nil, or_false] at hx; rcases hx with rfl | rfl | rfl | rfl <;> first | exact (.tail _ (.head _)) | exact (.tail _ (.tail _ (.head _))) | exact (.tail _ (.tail _ (.tail _ (.head _)))) | exact (.head _)))
  · intro v14 v24 v28 W hJ
    have HJ := Lib.hid hJ
    clear hJ
    refine anyofM 0 [9, 18] (by kernel_rfl) ⟨oneM rfl rfl (fun K hK => ?_), oneM rfl rfl (fun K hK => ?_), oneM rfl rfl (fun K hK => ?_), trivial⟩
    · refine HJ.out.fresh rfl 44 rfl Tryd.underlying44 ?_
      intro v11 W hJ hkb
      have HJ := Lib.hid hJ
      clear hJ
      refine hK _ _ hkb ?_
      clear hK K
      (try simp only [Act.put, List.setIfInBounds_toArray, List.set_cons_succ, List.set_cons_zero])
      exact relist (by kernel_rfl) (hM36 v11 v14 v24 v28 _ (HJ.out.sub (by intro x hx; simp only [List.mem_cons, List.not_mem_nil, or_false] at hx; rcases hx with rfl | rfl | rfl <;> first | exact (.head _) | exact (.tail _ (.head _)) | exact (.tail _ (.tail _ (.head _))))))
    · refine HJ.out.mk2 80 (.tmp 17) (.tmp 19) rfl Tryd.underlying80 am ex rfl rfl HAM.out HEX.out u64_size1 u64_zero1 ?_
      intro v20 W hJ hkb
      have HJ := Lib.hid hJ
      clear hJ
      refine hK _ _ hkb ?_
      clear hK K
      (try simp only [Act.put, List.setIfInBounds_toArray, List.set_cons_succ, List.set_cons_zero])
      exact relist (by kernel_rfl) (hM41 v14 v20 v24 v28 _ (HJ.out.sub (by intro x hx; simp only [List.mem_cons, List.not_mem_nil, or_false] at hx; rcases hx with rfl | rfl | rfl | rfl <;> first | exact (.tail _ (.head _)) | exact (.head _) | exact (.tail _ (.tail _ (.head _))) | exact (.tail _ (.tail _ (.tail _ (.head _)))))))
    · refine HJ.out.mkS (p := note.data.toList) (u := v28) (by repeat (first | exact List.Mem.head _ | refine List.Mem.tail _ ?_)) 83 (.tmp 28) rfl Tryd.underlying83 rfl sl_size1 sl_zero1 ?_
      intro v29 W hJ hkb
      have HJ := Lib.hid hJ
      clear hJ
      refine hK _ _ hkb ?_
      clear hK K
      (try simp only [Act.put, List.setIfInBounds_toArray, List.set_cons_succ, List.set_cons_zero])
      exact hM43 v14 v24 v28 v29 _ (HJ.out.sub (by intro x hx; simp only [List.mem_cons, List.not_mem_nil, or_false] at hx; rcases hx with rfl | rfl | rfl | rfl <;> first | exact (.tail _ (.head _)) | exact (.tail _ (.tail _ (.head _))) | exact (.tail _ (.tail _ (.tail _ (.head _)))) | exact (.head _)))
  · intro v14 v28 v29 W hJ
    have HJ := Lib.hid hJ
    clear hJ
    refine anyofM 0 [9, 13] (by kernel_rfl) ⟨oneM rfl rfl (fun K hK => ?_), oneM rfl rfl (fun K hK => ?_), oneM rfl rfl (fun K hK => ?_), trivial⟩
    · refine HJ.out.fresh rfl 44 rfl Tryd.underlying44 ?_
      intro v11 W hJ hkb
      have HJ := Lib.hid hJ
      clear hJ
      refine hK _ _ hkb ?_
      clear hK K
      (try simp only [Act.put, List.setIfInBounds_toArray, List.set_cons_succ, List.set_cons_zero])
      exact relist (by kernel_rfl) (hM37 v11 v14 v28 v29 _ (HJ.out.sub (by intro x hx; simp only [List.mem_cons, List.not_mem_nil, or_false] at hx; rcases hx with rfl | rfl | rfl <;> first | exact (.head _) | exact (.tail _ (.head _)) | exact (.tail _ (.tail _ (.head _))))))
    · refine HJ.out.mk2 80 (.tmp 17) (.tmp 19) rfl Tryd.underlying80 am ex rfl rfl HAM.out HEX.out u64_size1 u64_zero1 ?_
      intro v20 W hJ hkb
      have HJ := Lib.hid hJ
      clear hJ
      refine hK _ _ hkb ?_
      clear hK K
      (try simp only [Act.put, List.setIfInBounds_toArray, List.set_cons_succ, List.set_cons_zero])
      exact relist (by kernel_rfl) (hM42 v14 v20 v28 v29 _ (HJ.out.sub (by intro x hx; simp only [List.mem_cons, List.not_mem_nil, or_false] at hx; rcases hx with rfl | rfl | rfl | rfl <;> first | exact (.tail _ (.head _)) | exact (.head _) | exact (.tail _ (.tail _ (.head _))) | exact (.tail _ (.tail _ (.tail _ (.head _)))))))
    · refine HJ.out.mk1 82 (.tmp 23) rfl 48 Tryd.underlying82 (.arr 32 .u8) hash _ (bv hash) rfl rfl (fun _ _ => ⟨HH.out, AllH.bytes.2 rfl⟩) (szDg (by rw [bv_length]; exact HH.out)) zDg (by rw [bv_length, HH.out]; decide) (by rw [bv_length, HH.out]; decide) ?_
      intro v24 W hJ hkb
      have HJ := Lib.hid hJ
      clear hJ
      refine hK _ _ hkb ?_
      clear hK K
      (try simp only [Act.put, List.setIfInBounds_toArray, List.set_cons_succ, List.set_cons_zero])
      exact relist (by kernel_rfl) (hM43 v14 v24 v28 v29 _ (HJ.out.sub (by intro x hx; simp only [List.mem_cons, List.not_mem_nil, or_false] at hx; rcases hx with rfl | rfl | rfl | rfl <;> first | exact (.tail _ (.head _)) | exact (.head _) | exact (.tail _ (.tail _ (.head _))) | exact (.tail _ (.tail _ (.tail _ (.head _)))))))
  · intro v20 v24 v28 W hJ
    have HJ := Lib.hid hJ
    clear hJ
    refine anyofM 0 [3, 18] (by kernel_rfl) ⟨oneM rfl rfl (fun K hK => ?_), oneM rfl rfl (fun K hK => ?_), oneM rfl rfl (fun K hK => ?_), trivial⟩
    · refine HJ.out.fresh rfl 44 rfl Tryd.underlying44 ?_
      intro v11 W hJ hkb
      have HJ := Lib.hid hJ
      clear hJ
      refine hK _ _ hkb ?_
      clear hK K
      (try simp only [Act.put, List.setIfInBounds_toArray, List.set_cons_succ, List.set_cons_zero])
      exact relist (by kernel_rfl) (hM38 v11 v20 v24 v28 _ (HJ.out.sub (by intro x hx; simp only [List.mem_cons, List.not_mem_nil, or_false] at hx; rcases hx with rfl | rfl | rfl <;> first | exact (.head _) | exact (.tail _ (.head _)) | exact (.tail _ (.tail _ (.head _))))))
    · refine HJ.out.mk1 40 (.tmp 13) rfl 5 Tryd.underlying40 .u8 to _ [Value.int .u8 (to.toNat : Int)] rfl rfl (fun _ _ => rfl) u8_sizeU u8_zeroU (show 1 ≤ 16777216 by decide) (show 0 < 1 by decide) ?_
      intro v14 W hJ hkb
      have HJ := Lib.hid hJ
      clear hJ
      refine hK _ _ hkb ?_
      clear hK K
      (try simp only [Act.put, List.setIfInBounds_toArray, List.set_cons_succ, List.set_cons_zero])
      exact relist (by kernel_rfl) (hM41 v14 v20 v24 v28 _ (HJ.out.sub (by intro x hx; simp only [List.mem_cons, List.not_mem_nil, or_false] at hx; rcases hx with rfl | rfl | rfl | rfl <;> first | exact (.head _) | exact (.tail _ (.head _)) | exact (.tail _ (.tail _ (.head _))) | exact (.tail _ (.tail _ (.tail _ (.head _)))))))
    · refine HJ.out.mkS (p := note.data.toList) (u := v28) (by repeat (first | exact List.Mem.head _ | refine List.Mem.tail _ ?_)) 83 (.tmp 28) rfl Tryd.underlying83 rfl sl_size1 sl_zero1 ?_
      intro v29 W hJ hkb
      have HJ := Lib.hid hJ
      clear hJ
      refine hK _ _ hkb ?_
      clear hK K
      (try simp only [Act.put, List.setIfInBounds_toArray, List.set_cons_succ, List.set_cons_zero])
      exact hM44 v20 v24 v28 v29 _ (HJ.out.sub (by intro x hx; simp only [List.mem_cons, List.not_mem_nil, or_false] at hx; rcases hx with rfl | rfl | rfl | rfl <;> first | exact (.tail _ (.head _)) | exact (.tail _ (.tail _ (.head _))) | exact (.tail _ (.tail _ (.tail _ (.head _)))) | exact (.head _)))
  · intro v20 v28 v29 W hJ
    have HJ := Lib.hid hJ
    clear hJ
    refine anyofM 0 [3, 13] (by kernel_rfl) ⟨oneM rfl rfl (fun K hK => ?_), oneM rfl rfl (fun K hK => ?_), oneM rfl rfl (fun K hK => ?_), trivial⟩
    · refine HJ.out.fresh rfl 44 rfl Tryd.underlying44 ?_
      intro v11 W hJ hkb
      have HJ := Lib.hid hJ
      clear hJ
      refine hK _ _ hkb ?_
      clear hK K
      (try simp only [Act.put, List.setIfInBounds_toArray, List.set_cons_succ, List.set_cons_zero])
      exact relist (by kernel_rfl) (hM39 v11 v20 v28 v29 _ (HJ.out.sub (by intro x hx; simp only [List.mem_cons, List.not_mem_nil, or_false] at hx; rcases hx with rfl | rfl | rfl <;> first | exact (.head _) | exact (.tail _ (.head _)) | exact (.tail _ (.tail _ (.head _))))))
    · refine HJ.out.mk1 40 (.tmp 13) rfl 5 Tryd.underlying40 .u8 to _ [Value.int .u8 (to.toNat : Int)] rfl rfl (fun _ _ => rfl) u8_sizeU u8_zeroU (show 1 ≤ 16777216 by decide) (show 0 < 1 by decide) ?_
      intro v14 W hJ hkb
      have HJ := Lib.hid hJ
      clear hJ
      refine hK _ _ hkb ?_
      clear hK K
      (try simp only [Act.put, List.setIfInBounds_toArray, List.set_cons_succ, List.set_cons_zero])
      exact relist (by kernel_rfl) (hM42 v14 v20 v28 v29 _ (HJ.out.sub (by intro x hx; simp only [List.mem_cons, List.not_mem_nil, or_false] at hx; rcases hx with rfl | rfl | rfl | rfl <;> first | exact (.head _) | exact (.tail _ (.head _)) | exact (.tail _ (.tail _ (.head _))) | exact (.tail _ (.tail _ (.tail _ (.head _)))))))
    · refine HJ.out.mk1 82 (.tmp 23) rfl 48 Tryd.underlying82 (.arr 32 .u8) hash _ (bv hash) rfl rfl (fun _ _ => ⟨HH.out, AllH.bytes.2 rfl⟩) (szDg (by rw [bv_length]; exact HH.out)) zDg (by rw [bv_length, HH.out]; decide) (by rw [bv_length, HH.out]; decide) ?_
      intro v24 W hJ hkb
      have HJ := Lib.hid hJ
      clear hJ
      refine hK _ _ hkb ?_
      clear hK K
      (try simp only [Act.put, List.setIfInBounds_toArray, List.set_cons_succ, List.set_cons_zero])
      exact relist (by kernel_rfl) (hM44 v20 v24 v28 v29 _ (HJ.out.sub (by intro x hx; simp only [List.mem_cons, List.not_mem_nil, or_false] at hx; rcases hx with rfl | rfl | rfl | rfl <;> first | exact (.tail _ (.head _)) | exact (.head _) | exact (.tail _ (.tail _ (.head _))) | exact (.tail _ (.tail _ (.tail _ (.head _)))))))
  · intro v24 v28 v29 W hJ
    have HJ := Lib.hid hJ
    clear hJ
    refine anyofM 0 [3, 9] (by kernel_rfl) ⟨oneM rfl rfl (fun K hK => ?_), oneM rfl rfl (fun K hK => ?_), oneM rfl rfl (fun K hK => ?_), trivial⟩
    · refine HJ.out.fresh rfl 44 rfl Tryd.underlying44 ?_
      intro v11 W hJ hkb
      have HJ := Lib.hid hJ
      clear hJ
      refine hK _ _ hkb ?_
      clear hK K
      (try simp only [Act.put, List.setIfInBounds_toArray, List.set_cons_succ, List.set_cons_zero])
      exact relist (by kernel_rfl) (hM40 v11 v24 v28 v29 _ (HJ.out.sub (by intro x hx; simp only [List.mem_cons, List.not_mem_nil, or_false] at hx; rcases hx with rfl | rfl | rfl <;> first | exact (.head _) | exact (.tail _ (.head _)) | exact (.tail _ (.tail _ (.head _))))))
    · refine HJ.out.mk1 40 (.tmp 13) rfl 5 Tryd.underlying40 .u8 to _ [Value.int .u8 (to.toNat : Int)] rfl rfl (fun _ _ => rfl) u8_sizeU u8_zeroU (show 1 ≤ 16777216 by decide) (show 0 < 1 by decide) ?_
      intro v14 W hJ hkb
      have HJ := Lib.hid hJ
      clear hJ
      refine hK _ _ hkb ?_
      clear hK K
      (try simp only [Act.put, List.setIfInBounds_toArray, List.set_cons_succ, List.set_cons_zero])
      exact relist (by kernel_rfl) (hM43 v14 v24 v28 v29 _ (HJ.out.sub (by intro x hx; simp only [List.mem_cons, List.not_mem_nil, or_false] at hx; rcases hx with rfl | rfl | rfl | rfl <;> first | exact (.head _) | exact (.tail _ (.head _)) | exact (.tail _ (.tail _ (.head _))) | exact (.tail _ (.tail _ (.tail _ (.head _)))))))
    · refine HJ.out.mk2 80 (.tmp 17) (.tmp 19) rfl Tryd.underlying80 am ex rfl rfl HAM.out HEX.out u64_size1 u64_zero1 ?_
      intro v20 W hJ hkb
      have HJ := Lib.hid hJ
      clear hJ
      refine hK _ _ hkb ?_
      clear hK K
      (try simp only [Act.put, List.setIfInBounds_toArray, List.set_cons_succ, List.set_cons_zero])
      exact relist (by kernel_rfl) (hM44 v20 v24 v28 v29 _ (HJ.out.sub (by intro x hx; simp only [List.mem_cons, List.not_mem_nil, or_false] at hx; rcases hx with rfl | rfl | rfl | rfl <;> first | exact (.head _) | exact (.tail _ (.head _)) | exact (.tail _ (.tail _ (.head _))) | exact (.tail _ (.tail _ (.tail _ (.head _)))))))
  · intro v11 v14 v15 v20 W hJ
    have HJ := Lib.hid hJ
    clear hJ
    refine anyofM 10 [13, 17] (by kernel_rfl) ⟨oneM rfl rfl (fun K hK => ?_), oneM rfl rfl (fun K hK => ?_), oneM rfl rfl (fun K hK => ?_), trivial⟩
    · go_simp
      refine (HJ.out.eight (.head _) (by simp only [List.length_append, List.length_cons, List.length_nil, List.flatMap_cons, List.flatMap_nil, be_length, HH.out, id]; omega)).mono ?_
      rintro e W ⟨v21, rfl, hJ, hkb⟩
      have HJ := Lib.hid hJ
      clear hJ
      refine hK _ _ hkb ?_
      clear hK K
      exact hM45 v11 v14 v15 v20 v21 _ (HJ.out.sub (by intro x hx; cases hx))
    · refine HJ.out.mk1 82 (.tmp 23) rfl 48 Tryd.underlying82 (.arr 32 .u8) hash _ (bv hash) rfl rfl (fun _ _ => ⟨HH.out, AllH.bytes.2 rfl⟩) (szDg (by rw [bv_length]; exact HH.out)) zDg (by rw [bv_length, HH.out]; decide) (by rw [bv_length, HH.out]; decide) ?_
      intro v24 W hJ hkb
      have HJ := Lib.hid hJ
      clear hJ
      refine hK _ _ hkb ?_
      clear hK K
      (try simp only [Act.put, List.setIfInBounds_toArray, List.set_cons_succ, List.set_cons_zero])
      exact hM46 v11 v14 v15 v20 v24 _ (HJ.out.sub (by intro x hx; simp only [List.mem_cons, List.not_mem_nil, or_false] at hx; rcases hx with rfl | rfl <;> first | exact (.tail _ (.head _)) | exact (.head _)))
    · refine HJ.out.mkStr 9 40 (.tmp 27) rfl Tryd.underlying9 Tryd.underlying40 note rfl HN.out ?_
      intro v28 W hJ hkb
      have HJ := Lib.hid hJ
      clear hJ
      refine hK _ _ hkb ?_
      clear hK K
      (try simp only [Act.put, List.setIfInBounds_toArray, List.set_cons_succ, List.set_cons_zero])
      exact hM47 v11 v14 v15 v20 v28 _ (HJ.out.sub (by intro x hx; simp only [List.mem_cons, List.not_mem_nil, or_false] at hx; rcases hx with rfl | rfl <;> first | exact (.tail _ (.head _)) | exact (.head _)))
  · intro v11 v14 v15 v24 W hJ
    have HJ := Lib.hid hJ
    clear hJ
    refine anyofM 9 [17] (by kernel_rfl) ⟨oneM rfl rfl (fun K hK => ?_), oneM rfl rfl (fun K hK => ?_), trivial⟩
    · refine HJ.out.mk2 80 (.tmp 17) (.tmp 19) rfl Tryd.underlying80 am ex rfl rfl HAM.out HEX.out u64_size1 u64_zero1 ?_
      intro v20 W hJ hkb
      have HJ := Lib.hid hJ
      clear hJ
      refine hK _ _ hkb ?_
      clear hK K
      (try simp only [Act.put, List.setIfInBounds_toArray, List.set_cons_succ, List.set_cons_zero])
      exact relist (by kernel_rfl) (hM46 v11 v14 v15 v20 v24 _ (HJ.out.sub (by intro x hx; simp only [List.mem_cons, List.not_mem_nil, or_false] at hx; rcases hx with rfl | rfl <;> first | exact (.head _) | exact (.tail _ (.head _)))))
    · refine HJ.out.mkStr 9 40 (.tmp 27) rfl Tryd.underlying9 Tryd.underlying40 note rfl HN.out ?_
      intro v28 W hJ hkb
      have HJ := Lib.hid hJ
      clear hJ
      refine hK _ _ hkb ?_
      clear hK K
      (try simp only [Act.put, List.setIfInBounds_toArray, List.set_cons_succ, List.set_cons_zero])
      exact hM48 v11 v14 v15 v24 v28 _ (HJ.out.sub (by intro x hx; simp only [List.mem_cons, List.not_mem_nil, or_false] at hx; rcases hx with rfl | rfl <;> first | exact (.tail _ (.head _)) | exact (.head _)))
  · intro v11 v14 v15 v28 W hJ
    have HJ := Lib.hid hJ
    clear hJ
    refine anyofM 9 [13, 18] (by kernel_rfl) ⟨oneM rfl rfl (fun K hK => ?_), oneM rfl rfl (fun K hK => ?_), oneM rfl rfl (fun K hK => ?_), trivial⟩
    · refine HJ.out.mk2 80 (.tmp 17) (.tmp 19) rfl Tryd.underlying80 am ex rfl rfl HAM.out HEX.out u64_size1 u64_zero1 ?_
      intro v20 W hJ hkb
      have HJ := Lib.hid hJ
      clear hJ
      refine hK _ _ hkb ?_
      clear hK K
      (try simp only [Act.put, List.setIfInBounds_toArray, List.set_cons_succ, List.set_cons_zero])
      exact relist (by kernel_rfl) (hM47 v11 v14 v15 v20 v28 _ (HJ.out.sub (by intro x hx; simp only [List.mem_cons, List.not_mem_nil, or_false] at hx; rcases hx with rfl | rfl <;> first | exact (.head _) | exact (.tail _ (.head _)))))
    · refine HJ.out.mk1 82 (.tmp 23) rfl 48 Tryd.underlying82 (.arr 32 .u8) hash _ (bv hash) rfl rfl (fun _ _ => ⟨HH.out, AllH.bytes.2 rfl⟩) (szDg (by rw [bv_length]; exact HH.out)) zDg (by rw [bv_length, HH.out]; decide) (by rw [bv_length, HH.out]; decide) ?_
      intro v24 W hJ hkb
      have HJ := Lib.hid hJ
      clear hJ
      refine hK _ _ hkb ?_
      clear hK K
      (try simp only [Act.put, List.setIfInBounds_toArray, List.set_cons_succ, List.set_cons_zero])
      exact relist (by kernel_rfl) (hM48 v11 v14 v15 v24 v28 _ (HJ.out.sub (by intro x hx; simp only [List.mem_cons, List.not_mem_nil, or_false] at hx; rcases hx with rfl | rfl <;> first | exact (.head _) | exact (.tail _ (.head _)))))
    · refine HJ.out.mkS (p := note.data.toList) (u := v28) (by repeat (first | exact List.Mem.head _ | refine List.Mem.tail _ ?_)) 83 (.tmp 28) rfl Tryd.underlying83 rfl sl_size1 sl_zero1 ?_
      intro v29 W hJ hkb
      have HJ := Lib.hid hJ
      clear hJ
      refine hK _ _ hkb ?_
      clear hK K
      (try simp only [Act.put, List.setIfInBounds_toArray, List.set_cons_succ, List.set_cons_zero])
      exact hM49 v11 v14 v15 v28 v29 _ (HJ.out.sub (by intro x hx; simp only [List.mem_cons, List.not_mem_nil, or_false] at hx; rcases hx with rfl | rfl <;> first | exact (.tail _ (.head _)) | exact (.head _)))
  · intro v11 v14 v20 v24 W hJ
    have HJ := Lib.hid hJ
    clear hJ
    refine anyofM 4 [17] (by kernel_rfl) ⟨oneM rfl rfl (fun K hK => ?_), oneM rfl rfl (fun K hK => ?_), trivial⟩
    · go_simp
      refine (HJ.out.one (.head _) (by simp only [List.length_append, List.length_cons, List.length_nil, List.flatMap_cons, List.flatMap_nil, be_length, HH.out, id]; omega)).mono ?_
      rintro e W ⟨v15, rfl, hJ, hkb⟩
      have HJ := Lib.hid hJ
      clear hJ
      refine hK _ _ hkb ?_
      clear hK K
      exact relist (by kernel_rfl) (hM46 v11 v14 v15 v20 v24 _ (HJ.out.sub (by intro x hx; simp only [List.mem_cons, List.not_mem_nil, or_false] at hx; rcases hx with rfl | rfl <;> first | exact (.tail _ (.head _)) | exact (.tail _ (.tail _ (.head _))))))
    · refine HJ.out.mkStr 9 40 (.tmp 27) rfl Tryd.underlying9 Tryd.underlying40 note rfl HN.out ?_
      intro v28 W hJ hkb
      have HJ := Lib.hid hJ
      clear hJ
      refine hK _ _ hkb ?_
      clear hK K
      (try simp only [Act.put, List.setIfInBounds_toArray, List.set_cons_succ, List.set_cons_zero])
      exact hM50 v11 v14 v20 v24 v28 _ (HJ.out.sub (by intro x hx; simp only [List.mem_cons, List.not_mem_nil, or_false] at hx; rcases hx with rfl | rfl | rfl | rfl <;> first | exact (.tail _ (.head _)) | exact (.tail _ (.tail _ (.head _))) | exact (.tail _ (.tail _ (.tail _ (.head _)))) | exact (.head _)))
  · intro v11 v14 v20 v28 W hJ
    have HJ := Lib.hid hJ
    clear hJ
    refine anyofM 4 [13, 18] (by kernel_rfl) ⟨oneM rfl rfl (fun K hK => ?_), oneM rfl rfl (fun K hK => ?_), oneM rfl rfl (fun K hK => ?_), trivial⟩
    · go_simp
      refine (HJ.out.one (.head _) (by simp only [List.length_append, List.length_cons, List.length_nil, List.flatMap_cons, List.flatMap_nil, be_length, HH.out, id]; omega)).mono ?_
      rintro e W ⟨v15, rfl, hJ, hkb⟩
      have HJ := Lib.hid hJ
      clear hJ
      refine hK _ _ hkb ?_
      clear hK K
      exact relist (by kernel_rfl) (hM47 v11 v14 v15 v20 v28 _ (HJ.out.sub (by intro x hx; simp only [List.mem_cons, List.not_mem_nil, or_false] at hx; rcases hx with rfl | rfl <;> first | exact (.tail _ (.head _)) | exact (.tail _ (.tail _ (.head _))))))
    · refine HJ.out.mk1 82 (.tmp 23) rfl 48 Tryd.underlying82 (.arr 32 .u8) hash _ (bv hash) rfl rfl (fun _ _ => ⟨HH.out, AllH.bytes.2 rfl⟩) (szDg (by rw [bv_length]; exact HH.out)) zDg (by rw [bv_length, HH.out]; decide) (by rw [bv_length, HH.out]; decide) ?_
      intro v24 W hJ hkb
      have HJ := Lib.hid hJ
      clear hJ
      refine hK _ _ hkb ?_
      clear hK K
      (try simp only [Act.put, List.setIfInBounds_toArray, List.set_cons_succ, List.set_cons_zero])
      exact relist (by kernel_rfl) (hM50 v11 v14 v20 v24 v28 _ (HJ.out.sub (by intro x hx; simp only [List.mem_cons, List.not_mem_nil, or_false] at hx; rcases hx with rfl | rfl | rfl | rfl <;> first | exact (.tail _ (.head _)) | exact (.tail _ (.tail _ (.head _))) | exact (.head _) | exact (.tail _ (.tail _ (.tail _ (.head _)))))))
    · refine HJ.out.mkS (p := note.data.toList) (u := v28) (by repeat (first | exact List.Mem.head _ | refine List.Mem.tail _ ?_)) 83 (.tmp 28) rfl Tryd.underlying83 rfl sl_size1 sl_zero1 ?_
      intro v29 W hJ hkb
      have HJ := Lib.hid hJ
      clear hJ
      refine hK _ _ hkb ?_
      clear hK K
      (try simp only [Act.put, List.setIfInBounds_toArray, List.set_cons_succ, List.set_cons_zero])
      exact hM51 v11 v14 v20 v28 v29 _ (HJ.out.sub (by intro x hx; simp only [List.mem_cons, List.not_mem_nil, or_false] at hx; rcases hx with rfl | rfl | rfl | rfl <;> first | exact (.tail _ (.head _)) | exact (.tail _ (.tail _ (.head _))) | exact (.tail _ (.tail _ (.tail _ (.head _)))) | exact (.head _)))
  · intro v11 v14 v24 v28 W hJ
    have HJ := Lib.hid hJ
    clear hJ
    refine anyofM 4 [9, 18] (by kernel_rfl) ⟨oneM rfl rfl (fun K hK => ?_), oneM rfl rfl (fun K hK => ?_), oneM rfl rfl (fun K hK => ?_), trivial⟩
    · go_simp
      refine (HJ.out.one (.head _) (by simp only [List.length_append, List.length_cons, List.length_nil, List.flatMap_cons, List.flatMap_nil, be_length, HH.out, id]; omega)).mono ?_
      rintro e W ⟨v15, rfl, hJ, hkb⟩
      have HJ := Lib.hid hJ
      clear hJ
      refine hK _ _ hkb ?_
      clear hK K
      exact relist (by kernel_rfl) (hM48 v11 v14 v15 v24 v28 _ (HJ.out.sub (by intro x hx; simp only [List.mem_cons, List.not_mem_nil, or_false] at hx; rcases hx with rfl | rfl <;> first | exact (.tail _ (.head _)) | exact (.tail _ (.tail _ (.head _))))))
    · refine HJ.out.mk2 80 (.tmp 17) (.tmp 19) rfl Tryd.underlying80 am ex rfl rfl HAM.out HEX.out u64_size1 u64_zero1 ?_
      intro v20 W hJ hkb
      have HJ := Lib.hid hJ
      clear hJ
      refine hK _ _ hkb ?_
      clear hK K
      (try simp only [Act.put, List.setIfInBounds_toArray, List.set_cons_succ, List.set_cons_zero])
      exact relist (by kernel_rfl) (hM50 v11 v14 v20 v24 v28 _ (HJ.out.sub (by intro x hx; simp only [List.mem_cons, List.not_mem_nil, or_false] at hx; rcases hx with rfl | rfl | rfl | rfl <;> first | exact (.tail _ (.head _)) | exact (.head _) | exact (.tail _ (.tail _ (.head _))) | exact (.tail _ (.tail _ (.tail _ (.head _)))))))
    · refine HJ.out.mkS (p := note.data.toList) (u := v28) (by repeat (first | exact List.Mem.head _ | refine List.Mem.tail _ ?_)) 83 (.tmp 28) rfl Tryd.underlying83 rfl sl_size1 sl_zero1 ?_
      intro v29 W hJ hkb
      have HJ := Lib.hid hJ
      clear hJ
      refine hK _ _ hkb ?_
      clear hK K
      (try simp only [Act.put, List.setIfInBounds_toArray, List.set_cons_succ, List.set_cons_zero])
      exact hM52 v11 v14 v24 v28 v29 _ (HJ.out.sub (by intro x hx; simp only [List.mem_cons, List.not_mem_nil, or_false] at hx; rcases hx with rfl | rfl | rfl | rfl <;> first | exact (.tail _ (.head _)) | exact (.tail _ (.tail _ (.head _))) | exact (.tail _ (.tail _ (.tail _ (.head _)))) | exact (.head _)))
  · intro v11 v14 v28 v29 W hJ
    have HJ := Lib.hid hJ
    clear hJ
    refine anyofM 4 [9, 13] (by kernel_rfl) ⟨oneM rfl rfl (fun K hK => ?_), oneM rfl rfl (fun K hK => ?_), oneM rfl rfl (fun K hK => ?_), trivial⟩
    · go_simp
      refine (HJ.out.one (.head _) (by simp only [List.length_append, List.length_cons, List.length_nil, List.flatMap_cons, List.flatMap_nil, be_length, HH.out, id]; omega)).mono ?_
      rintro e W ⟨v15, rfl, hJ, hkb⟩
      have HJ := Lib.hid hJ
      clear hJ
      refine hK _ _ hkb ?_
      clear hK K
      exact relist (by kernel_rfl) (hM49 v11 v14 v15 v28 v29 _ (HJ.out.sub (by intro x hx; simp only [List.mem_cons, List.not_mem_nil, or_false] at hx; rcases hx with rfl | rfl <;> first | exact (.tail _ (.head _)) | exact (.tail _ (.tail _ (.head _))))))
    · refine HJ.out.mk2 80 (.tmp 17) (.tmp 19) rfl Tryd.underlying80 am ex rfl rfl HAM.out HEX.out u64_size1 u64_zero1 ?_
      intro v20 W hJ hkb
      have HJ := Lib.hid hJ
      clear hJ
      refine hK _ _ hkb ?_
      clear hK K
      (try simp only [Act.put, List.setIfInBounds_toArray, List.set_cons_succ, List.set_cons_zero])
      exact relist (by kernel_rfl) (hM51 v11 v14 v20 v28 v29 _ (HJ.out.sub (by intro x hx; simp only [List.mem_cons, List.not_mem_nil, or_false] at hx; rcases hx with rfl | rfl | rfl | rfl <;> first | exact (.tail _ (.head _)) | exact (.head _) | exact (.tail _ (.tail _ (.head _))) | exact (.tail _ (.tail _ (.tail _ (.head _)))))))
    · refine HJ.out.mk1 82 (.tmp 23) rfl 48 Tryd.underlying82 (.arr 32 .u8) hash _ (bv hash) rfl rfl (fun _ _ => ⟨HH.out, AllH.bytes.2 rfl⟩) (szDg (by rw [bv_length]; exact HH.out)) zDg (by rw [bv_length, HH.out]; decide) (by rw [bv_length, HH.out]; decide) ?_
      intro v24 W hJ hkb
      have HJ := Lib.hid hJ
      clear hJ
      refine hK _ _ hkb ?_
      clear hK K
      (try simp only [Act.put, List.setIfInBounds_toArray, List.set_cons_succ, List.set_cons_zero])
      exact relist (by kernel_rfl) (hM52 v11 v14 v24 v28 v29 _ (HJ.out.sub (by intro x hx; simp only [List.mem_cons, List.not_mem_nil, or_false] at hx; rcases hx with rfl | rfl | rfl | rfl <;> first | exact (.tail _ (.head _)) | exact (.head _) | exact (.tail _ (.tail _ (.head _))) | exact (.tail _ (.tail _ (.tail _ (.head _)))))))
  · intro v11 v20 v24 v28 W hJ
    have HJ := Lib.hid hJ
    clear hJ
    refine anyofM 3 [18] (by kernel_rfl) ⟨oneM rfl rfl (fun K hK => ?_), oneM rfl rfl (fun K hK => ?_), trivial⟩
    · refine HJ.out.mk1 40 (.tmp 13) rfl 5 Tryd.underlying40 .u8 to _ [Value.int .u8 (to.toNat : Int)] rfl rfl (fun _ _ => rfl) u8_sizeU u8_zeroU (show 1 ≤ 16777216 by decide) (show 0 < 1 by decide) ?_
      intro v14 W hJ hkb
      have HJ := Lib.hid hJ
      clear hJ
      refine hK _ _ hkb ?_
      clear hK K
      (try simp only [Act.put, List.setIfInBounds_toArray, List.set_cons_succ, List.set_cons_zero])
      exact relist (by kernel_rfl) (hM50 v11 v14 v20 v24 v28 _ (HJ.out.sub (by intro x hx; simp only [List.mem_cons, List.not_mem_nil, or_false] at hx; rcases hx with rfl | rfl | rfl | rfl <;> first | exact (.head _) | exact (.tail _ (.head _)) | exact (.tail _ (.tail _ (.head _))) | exact (.tail _ (.tail _ (.tail _ (.head _)))))))
    · refine HJ.out.mkS (p := note.data.toList) (u := v28) (by repeat (first | exact List.Mem.head _ | refine List.Mem.tail _ ?_)) 83 (.tmp 28) rfl Tryd.underlying83 rfl sl_size1 sl_zero1 ?_
      intro v29 W hJ hkb
      have HJ := Lib.hid hJ
      clear hJ
      refine hK _ _ hkb ?_
      clear hK K
      (try simp only [Act.put, List.setIfInBounds_toArray, List.set_cons_succ, List.set_cons_zero])
      exact hM53 v11 v20 v24 v28 v29 _ (HJ.out.sub (by intro x hx; simp only [List.mem_cons, List.not_mem_nil, or_false] at hx; rcases hx with rfl | rfl | rfl | rfl <;> first | exact (.tail _ (.head _)) | exact (.tail _ (.tail _ (.head _))) | exact (.tail _ (.tail _ (.tail _ (.head _)))) | exact (.head _)))
  · intro v11 v20 v28 v29 W hJ
    have HJ := Lib.hid hJ
    clear hJ
    refine anyofM 3 [13] (by kernel_rfl) ⟨oneM rfl rfl (fun K hK => ?_), oneM rfl rfl (fun K hK => ?_), trivial⟩
    · refine HJ.out.mk1 40 (.tmp 13) rfl 5 Tryd.underlying40 .u8 to _ [Value.int .u8 (to.toNat : Int)] rfl rfl (fun _ _ => rfl) u8_sizeU u8_zeroU (show 1 ≤ 16777216 by decide) (show 0 < 1 by decide) ?_
      intro v14 W hJ hkb
      have HJ := Lib.hid hJ
      clear hJ
      refine hK _ _ hkb ?_
      clear hK K
      (try simp only [Act.put, List.setIfInBounds_toArray, List.set_cons_succ, List.set_cons_zero])
      exact relist (by kernel_rfl) (hM51 v11 v14 v20 v28 v29 _ (HJ.out.sub (by intro x hx; simp only [List.mem_cons, List.not_mem_nil, or_false] at hx; rcases hx with rfl | rfl | rfl | rfl <;> first | exact (.head _) | exact (.tail _ (.head _)) | exact (.tail _ (.tail _ (.head _))) | exact (.tail _ (.tail _ (.tail _ (.head _)))))))
    · refine HJ.out.mk1 82 (.tmp 23) rfl 48 Tryd.underlying82 (.arr 32 .u8) hash _ (bv hash) rfl rfl (fun _ _ => ⟨HH.out, AllH.bytes.2 rfl⟩) (szDg (by rw [bv_length]; exact HH.out)) zDg (by rw [bv_length, HH.out]; decide) (by rw [bv_length, HH.out]; decide) ?_
      intro v24 W hJ hkb
      have HJ := Lib.hid hJ
      clear hJ
      refine hK _ _ hkb ?_
      clear hK K
      (try simp only [Act.put, List.setIfInBounds_toArray, List.set_cons_succ, List.set_cons_zero])
      exact relist (by kernel_rfl) (hM53 v11 v20 v24 v28 v29 _ (HJ.out.sub (by intro x hx; simp only [List.mem_cons, List.not_mem_nil, or_false] at hx; rcases hx with rfl | rfl | rfl | rfl <;> first | exact (.tail _ (.head _)) | exact (.head _) | exact (.tail _ (.tail _ (.head _))) | exact (.tail _ (.tail _ (.tail _ (.head _)))))))
  · intro v11 v24 v28 v29 W hJ
    have HJ := Lib.hid hJ
    clear hJ
    refine anyofM 3 [9] (by kernel_rfl) ⟨oneM rfl rfl (fun K hK => ?_), oneM rfl rfl (fun K hK => ?_), trivial⟩
    · refine HJ.out.mk1 40 (.tmp 13) rfl 5 Tryd.underlying40 .u8 to _ [Value.int .u8 (to.toNat : Int)] rfl rfl (fun _ _ => rfl) u8_sizeU u8_zeroU (show 1 ≤ 16777216 by decide) (show 0 < 1 by decide) ?_
      intro v14 W hJ hkb
      have HJ := Lib.hid hJ
      clear hJ
      refine hK _ _ hkb ?_
      clear hK K
      (try simp only [Act.put, List.setIfInBounds_toArray, List.set_cons_succ, List.set_cons_zero])
      exact relist (by kernel_rfl) (hM52 v11 v14 v24 v28 v29 _ (HJ.out.sub (by intro x hx; simp only [List.mem_cons, List.not_mem_nil, or_false] at hx; rcases hx with rfl | rfl | rfl | rfl <;> first | exact (.head _) | exact (.tail _ (.head _)) | exact (.tail _ (.tail _ (.head _))) | exact (.tail _ (.tail _ (.tail _ (.head _)))))))
    · refine HJ.out.mk2 80 (.tmp 17) (.tmp 19) rfl Tryd.underlying80 am ex rfl rfl HAM.out HEX.out u64_size1 u64_zero1 ?_
      intro v20 W hJ hkb
      have HJ := Lib.hid hJ
      clear hJ
      refine hK _ _ hkb ?_
      clear hK K
      (try simp only [Act.put, List.setIfInBounds_toArray, List.set_cons_succ, List.set_cons_zero])
      exact relist (by kernel_rfl) (hM53 v11 v20 v24 v28 v29 _ (HJ.out.sub (by intro x hx; simp only [List.mem_cons, List.not_mem_nil, or_false] at hx; rcases hx with rfl | rfl | rfl | rfl <;> first | exact (.head _) | exact (.tail _ (.head _)) | exact (.tail _ (.tail _ (.head _))) | exact (.tail _ (.tail _ (.tail _ (.head _)))))))
  · intro v14 v20 v24 v28 W hJ
    have HJ := Lib.hid hJ
    clear hJ
    refine anyofM 0 [18] (by kernel_rfl) ⟨oneM rfl rfl (fun K hK => ?_), oneM rfl rfl (fun K hK => ?_), trivial⟩
    · refine HJ.out.fresh rfl 44 rfl Tryd.underlying44 ?_
      intro v11 W hJ hkb
      have HJ := Lib.hid hJ
      clear hJ
      refine hK _ _ hkb ?_
      clear hK K
      (try simp only [Act.put, List.setIfInBounds_toArray, List.set_cons_succ, List.set_cons_zero])
      exact relist (by kernel_rfl) (hM50 v11 v14 v20 v24 v28 _ (HJ.out.sub (by intro x hx; simp only [List.mem_cons, List.not_mem_nil, or_false] at hx; rcases hx with rfl | rfl | rfl | rfl <;> first | exact (.head _) | exact (.tail _ (.head _)) | exact (.tail _ (.tail _ (.head _))) | exact (.tail _ (.tail _ (.tail _ (.head _)))))))
    · refine HJ.out.mkS (p := note.data.toList) (u := v28) (by repeat (first | exact List.Mem.head _ | refine List.Mem.tail _ ?_)) 83 (.tmp 28) rfl Tryd.underlying83 rfl sl_size1 sl_zero1 ?_
      intro v29 W hJ hkb
      have HJ := Lib.hid hJ
      clear hJ
      refine hK _ _ hkb ?_
      clear hK K
      (try simp only [Act.put, List.setIfInBounds_toArray, List.set_cons_succ, List.set_cons_zero])
      exact hM54 v14 v20 v24 v28 v29 _ (HJ.out.sub (by intro x hx; simp only [List.mem_cons, List.not_mem_nil, or_false] at hx; rcases hx with rfl | rfl | rfl | rfl | rfl <;> first | exact (.tail _ (.head _)) | exact (.tail _ (.tail _ (.head _))) | exact (.tail _ (.tail _ (.tail _ (.head _)))) | exact (.tail _ (.tail _ (.tail _ (.tail _ (.head _))))) | exact (.head _)))
  · intro v14 v20 v28 v29 W hJ
    have HJ := Lib.hid hJ
    clear hJ
    refine anyofM 0 [13] (by kernel_rfl) ⟨oneM rfl rfl (fun K hK => ?_), oneM rfl rfl (fun K hK => ?_), trivial⟩
    · refine HJ.out.fresh rfl 44 rfl Tryd.underlying44 ?_
      intro v11 W hJ hkb
      have HJ := Lib.hid hJ
      clear hJ
      refine hK _ _ hkb ?_
      clear hK K
      (try simp only [Act.put, List.setIfInBounds_toArray, List.set_cons_succ, List.set_cons_zero])
      exact relist (by kernel_rfl) (hM51 v11 v14 v20 v28 v29 _ (HJ.out.sub (by intro x hx; simp only [List.mem_cons, List.not_mem_nil, or_false] at hx; rcases hx with rfl | rfl | rfl | rfl <;> first | exact (.head _) | exact (.tail _ (.head _)) | exact (.tail _ (.tail _ (.head _))) | exact (.tail _ (.tail _ (.tail _ (.head _)))))))
    · refine HJ.out.mk1 82 (.tmp 23) rfl 48 Tryd.underlying82 (.arr 32 .u8) hash _ (bv hash) rfl rfl (fun _ _ => ⟨HH.out, AllH.bytes.2 rfl⟩) (szDg (by rw [bv_length]; exact HH.out)) zDg (by rw [bv_length, HH.out]; decide) (by rw [bv_length, HH.out]; decide) ?_
      intro v24 W hJ hkb
      have HJ := Lib.hid hJ
      clear hJ
      refine hK _ _ hkb ?_
      clear hK K
      (try simp only [Act.put, List.setIfInBounds_toArray, List.set_cons_succ, List.set_cons_zero])
      exact relist (by kernel_rfl) (hM54 v14 v20 v24 v28 v29 _ (HJ.out.sub (by intro x hx; simp only [List.mem_cons, List.not_mem_nil, or_false] at hx; rcases hx with rfl | rfl | rfl | rfl | rfl <;> first | exact (.tail _ (.head _)) | exact (.tail _ (.tail _ (.head _))) | exact (.head _) | exact (.tail _ (.tail _ (.tail _ (.head _)))) | exact (.tail _ (.tail _ (.tail _ (.tail _ (.head _))))))))
  · intro v14 v24 v28 v29 W hJ
    have HJ := Lib.hid hJ
    clear hJ
    refine anyofM 0 [9] (by kernel_rfl) ⟨oneM rfl rfl (fun K hK => ?_), oneM rfl rfl (fun K hK => ?_), trivial⟩
    · refine HJ.out.fresh rfl 44 rfl Tryd.underlying44 ?_
      intro v11 W hJ hkb
      have HJ := Lib.hid hJ
      clear hJ
      refine hK _ _ hkb ?_
      clear hK K
      (try simp only [Act.put, List.setIfInBounds_toArray, List.set_cons_succ, List.set_cons_zero])
      exact relist (by kernel_rfl) (hM52 v11 v14 v24 v28 v29 _ (HJ.out.sub (by intro x hx; simp only [List.mem_cons, List.not_mem_nil, or_false] at hx; rcases hx with rfl | rfl | rfl | rfl <;> first | exact (.head _) | exact (.tail _ (.head _)) | exact (.tail _ (.tail _ (.head _))) | exact (.tail _ (.tail _ (.tail _ (.head _)))))))
    · refine HJ.out.mk2 80 (.tmp 17) (.tmp 19) rfl Tryd.underlying80 am ex rfl rfl HAM.out HEX.out u64_size1 u64_zero1 ?_
      intro v20 W hJ hkb
      have HJ := Lib.hid hJ
      clear hJ
      refine hK _ _ hkb ?_
      clear hK K
      (try simp only [Act.put, List.setIfInBounds_toArray, List.set_cons_succ, List.set_cons_zero])
      exact relist (by kernel_rfl) (hM54 v14 v20 v24 v28 v29 _ (HJ.out.sub (by intro x hx; simp only [List.mem_cons, List.not_mem_nil, or_false] at hx; rcases hx with rfl | rfl | rfl | rfl | rfl <;> first | exact (.tail _ (.head _)) | exact (.head _) | exact (.tail _ (.tail _ (.head _))) | exact (.tail _ (.tail _ (.tail _ (.head _)))) | exact (.tail _ (.tail _ (.tail _ (.tail _ (.head _))))))))
  · intro v20 v24 v28 v29 W hJ
    have HJ := Lib.hid hJ
    clear hJ
    refine anyofM 0 [3] (by kernel_rfl) ⟨oneM rfl rfl (fun K hK => ?_), oneM rfl rfl (fun K hK => ?_), trivial⟩
    · refine HJ.out.fresh rfl 44 rfl Tryd.underlying44 ?_
      intro v11 W hJ hkb
      have HJ := Lib.hid hJ
      clear hJ
      refine hK _ _ hkb ?_
      clear hK K
      (try simp only [Act.put, List.setIfInBounds_toArray, List.set_cons_succ, List.set_cons_zero])
      exact relist (by kernel_rfl) (hM53 v11 v20 v24 v28 v29 _ (HJ.out.sub (by intro x hx; simp only [List.mem_cons, List.not_mem_nil, or_false] at hx; rcases hx with rfl | rfl | rfl | rfl <;> first | exact (.head _) | exact (.tail _ (.head _)) | exact (.tail _ (.tail _ (.head _))) | exact (.tail _ (.tail _ (.tail _ (.head _)))))))
    · refine HJ.out.mk1 40 (.tmp 13) rfl 5 Tryd.underlying40 .u8 to _ [Value.int .u8 (to.toNat : Int)] rfl rfl (fun _ _ => rfl) u8_sizeU u8_zeroU (show 1 ≤ 16777216 by decide) (show 0 < 1 by decide) ?_
      intro v14 W hJ hkb
      have HJ := Lib.hid hJ
      clear hJ
      refine hK _ _ hkb ?_
      clear hK K
      (try simp only [Act.put, List.setIfInBounds_toArray, List.set_cons_succ, List.set_cons_zero])
      exact relist (by kernel_rfl) (hM54 v14 v20 v24 v28 v29 _ (HJ.out.sub (by intro x hx; simp only [List.mem_cons, List.not_mem_nil, or_false] at hx; rcases hx with rfl | rfl | rfl | rfl | rfl <;> first | exact (.head _) | exact (.tail _ (.head _)) | exact (.tail _ (.tail _ (.head _))) | exact (.tail _ (.tail _ (.tail _ (.head _)))) | exact (.tail _ (.tail _ (.tail _ (.tail _ (.head _))))))))
  · intro v11 v14 v15 v20 v21 W hJ
    have HJ := Lib.hid hJ
    clear hJ
    refine anyofM 13 [17] (by kernel_rfl) ⟨oneM rfl rfl (fun K hK => ?_), oneM rfl rfl (fun K hK => ?_), trivial⟩
    · refine HJ.out.mk1 82 (.tmp 23) rfl 48 Tryd.underlying82 (.arr 32 .u8) hash _ (bv hash) rfl rfl (fun _ _ => ⟨HH.out, AllH.bytes.2 rfl⟩) (szDg (by rw [bv_length]; exact HH.out)) zDg (by rw [bv_length, HH.out]; decide) (by rw [bv_length, HH.out]; decide) ?_
      intro v24 W hJ hkb
      have HJ := Lib.hid hJ
      clear hJ
      refine hK _ _ hkb ?_
      clear hK K
      (try simp only [Act.put, List.setIfInBounds_toArray, List.set_cons_succ, List.set_cons_zero])
      exact hM55 v11 v14 v15 v20 v21 v24 _ (HJ.out.sub (by intro x hx; simp only [List.mem_cons, List.not_mem_nil, or_false] at hx; rcases hx with rfl <;> first | exact (.head _)))
    · refine HJ.out.mkStr 9 40 (.tmp 27) rfl Tryd.underlying9 Tryd.underlying40 note rfl HN.out ?_
      intro v28 W hJ hkb
      have HJ := Lib.hid hJ
      clear hJ
      refine hK _ _ hkb ?_
      clear hK K
      (try simp only [Act.put, List.setIfInBounds_toArray, List.set_cons_succ, List.set_cons_zero])
      exact hM56 v11 v14 v15 v20 v21 v28 _ (HJ.out.sub (by intro x hx; simp only [List.mem_cons, List.not_mem_nil, or_false] at hx; rcases hx with rfl <;> first | exact (.head _)))
  · intro v11 v14 v15 v20 v24 W hJ
    have HJ := Lib.hid hJ
    clear hJ
    refine anyofM 10 [17] (by kernel_rfl) ⟨oneM rfl rfl (fun K hK => ?_), oneM rfl rfl (fun K hK => ?_), trivial⟩
    · go_simp
      refine (HJ.out.eight (.head _) (by simp only [List.length_append, List.length_cons, List.length_nil, List.flatMap_cons, List.flatMap_nil, be_length, HH.out, id]; omega)).mono ?_
      rintro e W ⟨v21, rfl, hJ, hkb⟩
      have HJ := Lib.hid hJ
      clear hJ
      refine hK _ _ hkb ?_
      clear hK K
      exact relist (by kernel_rfl) (hM55 v11 v14 v15 v20 v21 v24 _ (HJ.out.sub (by intro x hx; simp only [List.mem_cons, List.not_mem_nil, or_false] at hx; rcases hx with rfl <;> first | exact (.tail _ (.head _)))))
    · refine HJ.out.mkStr 9 40 (.tmp 27) rfl Tryd.underlying9 Tryd.underlying40 note rfl HN.out ?_
      intro v28 W hJ hkb
      have HJ := Lib.hid hJ
      clear hJ
      refine hK _ _ hkb ?_
      clear hK K
      (try simp only [Act.put, List.setIfInBounds_toArray, List.set_cons_succ, List.set_cons_zero])
      exact hM57 v11 v14 v15 v20 v24 v28 _ (HJ.out.sub (by intro x hx; simp only [List.mem_cons, List.not_mem_nil, or_false] at hx; rcases hx with rfl | rfl | rfl <;> first | exact (.tail _ (.head _)) | exact (.tail _ (.tail _ (.head _))) | exact (.head _)))
  · intro v11 v14 v15 v20 v28 W hJ
    have HJ := Lib.hid hJ
    clear hJ
    refine anyofM 10 [13, 18] (by kernel_rfl) ⟨oneM rfl rfl (fun K hK => ?_), oneM rfl rfl (fun K hK => ?_), oneM rfl rfl (fun K hK => ?_), trivial⟩
    · go_simp
      refine (HJ.out.eight (.head _) (by simp only [List.length_append, List.length_cons, List.length_nil, List.flatMap_cons, List.flatMap_nil, be_length, HH.out, id]; omega)).mono ?_
      rintro e W ⟨v21, rfl, hJ, hkb⟩
      have HJ := Lib.hid hJ
      clear hJ
      refine hK _ _ hkb ?_
      clear hK K
      exact relist (by kernel_rfl) (hM56 v11 v14 v15 v20 v21 v28 _ (HJ.out.sub (by intro x hx; simp only [List.mem_cons, List.not_mem_nil, or_false] at hx; rcases hx with rfl <;> first | exact (.tail _ (.head _)))))
    · refine HJ.out.mk1 82 (.tmp 23) rfl 48 Tryd.underlying82 (.arr 32 .u8) hash _ (bv hash) rfl rfl (fun _ _ => ⟨HH.out, AllH.bytes.2 rfl⟩) (szDg (by rw [bv_length]; exact HH.out)) zDg (by rw [bv_length, HH.out]; decide) (by rw [bv_length, HH.out]; decide) ?_
      intro v24 W hJ hkb
      have HJ := Lib.hid hJ
      clear hJ
      refine hK _ _ hkb ?_
      clear hK K
      (try simp only [Act.put, List.setIfInBounds_toArray, List.set_cons_succ, List.set_cons_zero])
      exact relist (by kernel_rfl) (hM57 v11 v14 v15 v20 v24 v28 _ (HJ.out.sub (by intro x hx; simp only [List.mem_cons, List.not_mem_nil, or_false] at hx; rcases hx with rfl | rfl | rfl <;> first | exact (.tail _ (.head _)) | exact (.head _) | exact (.tail _ (.tail _ (.head _))))))
    · refine HJ.out.mkS (p := note.data.toList) (u := v28) (by repeat (first | exact List.Mem.head _ | refine List.Mem.tail _ ?_)) 83 (.tmp 28) rfl Tryd.underlying83 rfl sl_size1 sl_zero1 ?_
      intro v29 W hJ hkb
      have HJ := Lib.hid hJ
      clear hJ
      refine hK _ _ hkb ?_
      clear hK K
      (try simp only [Act.put, List.setIfInBounds_toArray, List.set_cons_succ, List.set_cons_zero])
      exact hM58 v11 v14 v15 v20 v28 v29 _ (HJ.out.sub (by intro x hx; simp only [List.mem_cons, List.not_mem_nil, or_false] at hx; rcases hx with rfl | rfl | rfl <;> first | exact (.tail _ (.head _)) | exact (.tail _ (.tail _ (.head _))) | exact (.head _)))
  · intro v11 v14 v15 v24 v28 W hJ
    have HJ := Lib.hid hJ
    clear hJ
    refine anyofM 9 [18] (by kernel_rfl) ⟨oneM rfl rfl (fun K hK => ?_), oneM rfl rfl (fun K hK => ?_), trivial⟩
    · refine HJ.out.mk2 80 (.tmp 17) (.tmp 19) rfl Tryd.underlying80 am ex rfl rfl HAM.out HEX.out u64_size1 u64_zero1 ?_
      intro v20 W hJ hkb
      have HJ := Lib.hid hJ
      clear hJ
      refine hK _ _ hkb ?_
      clear hK K
      (try simp only [Act.put, List.setIfInBounds_toArray, List.set_cons_succ, List.set_cons_zero])
      exact relist (by kernel_rfl) (hM57 v11 v14 v15 v20 v24 v28 _ (HJ.out.sub (by intro x hx; simp only [List.mem_cons, List.not_mem_nil, or_false] at hx; rcases hx with rfl | rfl | rfl <;> first | exact (.head _) | exact (.tail _ (.head _)) | exact (.tail _ (.tail _ (.head _))))))
    · refine HJ.out.mkS (p := note.data.toList) (u := v28) (by repeat (first | exact List.Mem.head _ | refine List.Mem.tail _ ?_)) 83 (.tmp 28) rfl Tryd.underlying83 rfl sl_size1 sl_zero1 ?_
      intro v29 W hJ hkb
      have HJ := Lib.hid hJ
      clear hJ
      refine hK _ _ hkb ?_
      clear hK K
      (try simp only [Act.put, List.setIfInBounds_toArray, List.set_cons_succ, List.set_cons_zero])
      exact hM59 v11 v14 v15 v24 v28 v29 _ (HJ.out.sub (by intro x hx; simp only [List.mem_cons, List.not_mem_nil, or_false] at hx; rcases hx with rfl | rfl | rfl <;> first | exact (.tail _ (.head _)) | exact (.tail _ (.tail _ (.head _))) | exact (.head _)))
  · intro v11 v14 v15 v28 v29 W hJ
    have HJ := Lib.hid hJ
    clear hJ
    refine anyofM 9 [13] (by kernel_rfl) ⟨oneM rfl rfl (fun K hK => ?_), oneM rfl rfl (fun K hK => ?_), trivial⟩
    · refine HJ.out.mk2 80 (.tmp 17) (.tmp 19) rfl Tryd.underlying80 am ex rfl rfl HAM.out HEX.out u64_size1 u64_zero1 ?_
      intro v20 W hJ hkb
      have HJ := Lib.hid hJ
      clear hJ
      refine hK _ _ hkb ?_
      clear hK K
      (try simp only [Act.put, List.setIfInBounds_toArray, List.set_cons_succ, List.set_cons_zero])
      exact relist (by kernel_rfl) (hM58 v11 v14 v15 v20 v28 v29 _ (HJ.out.sub (by intro x hx; simp only [List.mem_cons, List.not_mem_nil, or_false] at hx; rcases hx with rfl | rfl | rfl <;> first | exact (.head _) | exact (.tail _ (.head _)) | exact (.tail _ (.tail _ (.head _))))))
    · refine HJ.out.mk1 82 (.tmp 23) rfl 48 Tryd.underlying82 (.arr 32 .u8) hash _ (bv hash) rfl rfl (fun _ _ => ⟨HH.out, AllH.bytes.2 rfl⟩) (szDg (by rw [bv_length]; exact HH.out)) zDg (by rw [bv_length, HH.out]; decide) (by rw [bv_length, HH.out]; decide) ?_
      intro v24 W hJ hkb
      have HJ := Lib.hid hJ
      clear hJ
      refine hK _ _ hkb ?_
      clear hK K
      (try simp only [Act.put, List.setIfInBounds_toArray, List.set_cons_succ, List.set_cons_zero])
      exact relist (by kernel_rfl) (hM59 v11 v14 v15 v24 v28 v29 _ (HJ.out.sub (by intro x hx; simp only [List.mem_cons, List.not_mem_nil, or_false] at hx; rcases hx with rfl | rfl | rfl <;> first | exact (.head _) | exact (.tail _ (.head _)) | exact (.tail _ (.tail _ (.head _))))))
  · intro v11 v14 v20 v24 v28 W hJ
    have HJ := Lib.hid hJ
    clear hJ
    refine anyofM 4 [18] (by kernel_rfl) ⟨oneM rfl rfl (fun K hK => ?_), oneM rfl rfl (fun K hK => ?_), trivial⟩
    · go_simp
      refine (HJ.out.one (.head _) (by simp only [List.length_append, List.length_cons, List.length_nil, List.flatMap_cons, List.flatMap_nil, be_length, HH.out, id]; omega)).mono ?_
      rintro e W ⟨v15, rfl, hJ, hkb⟩
      have HJ := Lib.hid hJ
      clear hJ
      refine hK _ _ hkb ?_
      clear hK K
      exact relist (by kernel_rfl) (hM57 v11 v14 v15 v20 v24 v28 _ (HJ.out.sub (by intro x hx; simp only [List.mem_cons, List.not_mem_nil, or_false] at hx; rcases hx with rfl | rfl | rfl <;> first | exact (.tail _ (.head _)) | exact (.tail _ (.tail _ (.head _))) | exact (.tail _ (.tail _ (.tail _ (.head _)))))))
    · refine HJ.out.mkS (p := note.data.toList) (u := v28) (by repeat (first | exact List.Mem.head _ | refine List.Mem.tail _ ?_)) 83 (.tmp 28) rfl Tryd.underlying83 rfl sl_size1 sl_zero1 ?_
      intro v29 W hJ hkb
      have HJ := Lib.hid hJ
      clear hJ
      refine hK _ _ hkb ?_
      clear hK K
      (try simp only [Act.put, List.setIfInBounds_toArray, List.set_cons_succ, List.set_cons_zero])
      exact hM60 v11 v14 v20 v24 v28 v29 _ (HJ.out.sub (by intro x hx; simp only [List.mem_cons, List.not_mem_nil, or_false] at hx; rcases hx with rfl | rfl | rfl | rfl | rfl <;> first | exact (.tail _ (.head _)) | exact (.tail _ (.tail _ (.head _))) | exact (.tail _ (.tail _ (.tail _ (.head _)))) | exact (.tail _ (.tail _ (.tail _ (.tail _ (.head _))))) | exact (.head _)))
  · intro v11 v14 v20 v28 v29 W hJ
    have HJ := Lib.hid hJ
    clear hJ
    refine anyofM 4 [13] (by kernel_rfl) ⟨oneM rfl rfl (fun K hK => ?_), oneM rfl rfl (fun K hK => ?_), trivial⟩
    · go_simp
      refine (HJ.out.one (.head _) (by simp only [List.length_append, List.length_cons, List.length_nil, List.flatMap_cons, List.flatMap_nil, be_length, HH.out, id]; omega)).mono ?_
      rintro e W ⟨v15, rfl, hJ, hkb⟩
      have HJ := Lib.hid hJ
      clear hJ
      refine hK _ _ hkb ?_
      clear hK K
      exact relist (by kernel_rfl) (hM58 v11 v14 v15 v20 v28 v29 _ (HJ.out.sub (by intro x hx; simp only [List.mem_cons, List.not_mem_nil, or_false] at hx; rcases hx with rfl | rfl | rfl <;> first | exact (.tail _ (.head _)) | exact (.tail _ (.tail _ (.head _))) | exact (.tail _ (.tail _ (.tail _ (.head _)))))))
    · refine HJ.out.mk1 82 (.tmp 23) rfl 48 Tryd.underlying82 (.arr 32 .u8) hash _ (bv hash) rfl rfl (fun _ _ => ⟨HH.out, AllH.bytes.2 rfl⟩) (szDg (by rw [bv_length]; exact HH.out)) zDg (by rw [bv_length, HH.out]; decide) (by rw [bv_length, HH.out]; decide) ?_
      intro v24 W hJ hkb
      have HJ := Lib.hid hJ
      clear hJ
      refine hK _ _ hkb ?_
      clear hK K
      (try simp only [Act.put, List.setIfInBounds_toArray, List.set_cons_succ, List.set_cons_zero])
      exact relist (by kernel_rfl) (hM60 v11 v14 v20 v24 v28 v29 _ (HJ.out.sub (by intro x hx; simp only [List.mem_cons, List.not_mem_nil, or_false] at hx; rcases hx with rfl | rfl | rfl | rfl | rfl <;> first | exact (.tail _ (.head _)) | exact (.tail _ (.tail _ (.head _))) | exact (.head _) | exact (.tail _ (.tail _ (.tail _ (.head _)))) | exact (.tail _ (.tail _ (.tail _ (.tail _ (.head _))))))))
  · intro v11 v14 v24 v28 v29 W hJ
    have HJ := Lib.hid hJ
    clear hJ
    refine anyofM 4 [9] (by kernel_rfl) ⟨oneM rfl rfl (fun K hK => ?_), oneM rfl rfl (fun K hK => ?_), trivial⟩
    · go_simp
      refine (HJ.out.one (.head _) (by simp only [List.length_append, List.length_cons, List.length_nil, List.flatMap_cons, List.flatMap_nil, be_length, HH.out, id]; omega)).mono ?_
      rintro e W ⟨v15, rfl, hJ, hkb⟩
      have HJ := Lib.hid hJ
      clear hJ
      refine hK _ _ hkb ?_
      clear hK K
      exact relist (by kernel_rfl) (hM59 v11 v14 v15 v24 v28 v29 _ (HJ.out.sub (by intro x hx; simp only [List.mem_cons, List.not_mem_nil, or_false] at hx; rcases hx with rfl | rfl | rfl <;> first | exact (.tail _ (.head _)) | exact (.tail _ (.tail _ (.head _))) | exact (.tail _ (.tail _ (.tail _ (.head _)))))))
    · refine HJ.out.mk2 80 (.tmp 17) (.tmp 19) rfl Tryd.underlying80 am ex rfl rfl HAM.out HEX.out u64_size1 u64_zero1 ?_
      intro v20 W hJ hkb
      have HJ := Lib.hid hJ
      clear hJ
      refine hK _ _ hkb ?_
      clear hK K
      (try simp only [Act.put, List.setIfInBounds_toArray, List.set_cons_succ, List.set_cons_zero])
      exact relist (by kernel_rfl) (hM60 v11 v14 v20 v24 v28 v29 _ (HJ.out.sub (by intro x hx; simp only [List.mem_cons, List.not_mem_nil, or_false] at hx; rcases hx with rfl | rfl | rfl | rfl | rfl <;> first | exact (.tail _ (.head _)) | exact (.head _) | exact (.tail _ (.tail _ (.head _))) | exact (.tail _ (.tail _ (.tail _ (.head _)))) | exact (.tail _ (.tail _ (.tail _ (.tail _ (.head _))))))))
  · intro v11 v20 v24 v28 v29 W hJ
    have HJ := Lib.hid hJ
    clear hJ
    refine stepM 3 rfl (by kernel_rfl) rfl (fun K hK => ?_)
    refine HJ.out.mk1 40 (.tmp 13) rfl 5 Tryd.underlying40 .u8 to _ [Value.int .u8 (to.toNat : Int)] rfl rfl (fun _ _ => rfl) u8_sizeU u8_zeroU (show 1 ≤ 16777216 by decide) (show 0 < 1 by decide) ?_
    intro v14 W hJ hkb
    have HJ := Lib.hid hJ
    clear hJ
    refine hK _ _ hkb ?_
    clear hK K
    (try simp only [Act.put, List.setIfInBounds_toArray, List.set_cons_succ, List.set_cons_zero])
    exact relist (by kernel_rfl) (hM60 v11 v14 v20 v24 v28 v29 _ (HJ.out.sub (by intro x hx; simp only [List.mem_cons, List.not_mem_nil, or_false] at hx; rcases hx with rfl | rfl | rfl | rfl | rfl <;> first | exact (.head _) | exact (.tail _ (.head _)) | exact (.tail _ (.tail _ (.head _))) | exact (.tail _ (.tail _ (.tail _ (.head _)))) | exact (.tail _ (.tail _ (.tail _ (.tail _ (.head _))))))))
  · intro v14 v20 v24 v28 v29 W hJ
    have HJ := Lib.hid hJ
    clear hJ
    refine stepM 0 rfl (by kernel_rfl) rfl (fun K hK => ?_)
    refine HJ.out.fresh rfl 44 rfl Tryd.underlying44 ?_
    intro v11 W hJ hkb
    have HJ := Lib.hid hJ
    clear hJ
    refine hK _ _ hkb ?_
    clear hK K
    (try simp only [Act.put, List.setIfInBounds_toArray, List.set_cons_succ, List.set_cons_zero])
    exact relist (by kernel_rfl) (hM60 v11 v14 v20 v24 v28 v29 _ (HJ.out.sub (by intro x hx; simp only [List.mem_cons, List.not_mem_nil, or_false] at hx; rcases hx with rfl | rfl | rfl | rfl | rfl <;> first | exact (.head _) | exact (.tail _ (.head _)) | exact (.tail _ (.tail _ (.head _))) | exact (.tail _ (.tail _ (.tail _ (.head _)))) | exact (.tail _ (.tail _ (.tail _ (.tail _ (.head _))))))))
  · intro v11 v14 v15 v20 v21 v24 W hJ
    have HJ := Lib.hid hJ
    clear hJ
    refine anyofM 14 [17] (by kernel_rfl) ⟨oneM rfl rfl (fun K hK => ?_), oneM rfl rfl (fun K hK => ?_), trivial⟩
    · go_simp
      refine (HJ.out.sum (.head _) (by simp only [List.length_append, List.length_cons, List.length_nil, List.flatMap_cons, List.flatMap_nil, be_length, HH.out, id]; omega)).mono ?_
      rintro e W ⟨v25, rfl, hJ, hkb⟩
      have HJ := Lib.hid hJ
      clear hJ
      refine hK _ _ hkb ?_
      clear hK K
      exact hM61 v11 v14 v15 v20 v21 v24 v25 _ (HJ.out.sub (by intro x hx; cases hx))
    · refine HJ.out.mkStr 9 40 (.tmp 27) rfl Tryd.underlying9 Tryd.underlying40 note rfl HN.out ?_
      intro v28 W hJ hkb
      have HJ := Lib.hid hJ
      clear hJ
      refine hK _ _ hkb ?_
      clear hK K
      (try simp only [Act.put, List.setIfInBounds_toArray, List.set_cons_succ, List.set_cons_zero])
      exact hM62 v11 v14 v15 v20 v21 v24 v28 _ (HJ.out.sub (by intro x hx; simp only [List.mem_cons, List.not_mem_nil, or_false] at hx; rcases hx with rfl | rfl <;> first | exact (.tail _ (.head _)) | exact (.head _)))
  · intro v11 v14 v15 v20 v21 v28 W hJ
    have HJ := Lib.hid hJ
    clear hJ
    refine anyofM 13 [18] (by kernel_rfl) ⟨oneM rfl rfl (fun K hK => ?_), oneM rfl rfl (fun K hK => ?_), trivial⟩
    · refine HJ.out.mk1 82 (.tmp 23) rfl 48 Tryd.underlying82 (.arr 32 .u8) hash _ (bv hash) rfl rfl (fun _ _ => ⟨HH.out, AllH.bytes.2 rfl⟩) (szDg (by rw [bv_length]; exact HH.out)) zDg (by rw [bv_length, HH.out]; decide) (by rw [bv_length, HH.out]; decide) ?_
      intro v24 W hJ hkb
      have HJ := Lib.hid hJ
      clear hJ
      refine hK _ _ hkb ?_
      clear hK K
      (try simp only [Act.put, List.setIfInBounds_toArray, List.set_cons_succ, List.set_cons_zero])
      exact relist (by kernel_rfl) (hM62 v11 v14 v15 v20 v21 v24 v28 _ (HJ.out.sub (by intro x hx; simp only [List.mem_cons, List.not_mem_nil, or_false] at hx; rcases hx with rfl | rfl <;> first | exact (.head _) | exact (.tail _ (.head _)))))
    · refine HJ.out.mkS (p := note.data.toList) (u := v28) (by repeat (first | exact List.Mem.head _ | refine List.Mem.tail _ ?_)) 83 (.tmp 28) rfl Tryd.underlying83 rfl sl_size1 sl_zero1 ?_
      intro v29 W hJ hkb
      have HJ := Lib.hid hJ
      clear hJ
      refine hK _ _ hkb ?_
      clear hK K
      (try simp only [Act.put, List.setIfInBounds_toArray, List.set_cons_succ, List.set_cons_zero])
      exact hM63 v11 v14 v15 v20 v21 v28 v29 _ (HJ.out.sub (by intro x hx; simp only [List.mem_cons, List.not_mem_nil, or_false] at hx; rcases hx with rfl | rfl <;> first | exact (.tail _ (.head _)) | exact (.head _)))
  · intro v11 v14 v15 v20 v24 v28 W hJ
    have HJ := Lib.hid hJ
    clear hJ
    refine anyofM 10 [18] (by kernel_rfl) ⟨oneM rfl rfl (fun K hK => ?_), oneM rfl rfl (fun K hK => ?_), trivial⟩
    · go_simp
      refine (HJ.out.eight (.head _) (by simp only [List.length_append, List.length_cons, List.length_nil, List.flatMap_cons, List.flatMap_nil, be_length, HH.out, id]; omega)).mono ?_
      rintro e W ⟨v21, rfl, hJ, hkb⟩
      have HJ := Lib.hid hJ
      clear hJ
      refine hK _ _ hkb ?_
      clear hK K
      exact relist (by kernel_rfl) (hM62 v11 v14 v15 v20 v21 v24 v28 _ (HJ.out.sub (by intro x hx; simp only [List.mem_cons, List.not_mem_nil, or_false] at hx; rcases hx with rfl | rfl <;> first | exact (.tail _ (.head _)) | exact (.tail _ (.tail _ (.head _))))))
    · refine HJ.out.mkS (p := note.data.toList) (u := v28) (by repeat (first | exact List.Mem.head _ | refine List.Mem.tail _ ?_)) 83 (.tmp 28) rfl Tryd.underlying83 rfl sl_size1 sl_zero1 ?_
      intro v29 W hJ hkb
      have HJ := Lib.hid hJ
      clear hJ
      refine hK _ _ hkb ?_
      clear hK K
      (try simp only [Act.put, List.setIfInBounds_toArray, List.set_cons_succ, List.set_cons_zero])
      exact hM64 v11 v14 v15 v20 v24 v28 v29 _ (HJ.out.sub (by intro x hx; simp only [List.mem_cons, List.not_mem_nil, or_false] at hx; rcases hx with rfl | rfl | rfl | rfl <;> first | exact (.tail _ (.head _)) | exact (.tail _ (.tail _ (.head _))) | exact (.tail _ (.tail _ (.tail _ (.head _)))) | exact (.head _)))
  · intro v11 v14 v15 v20 v28 v29 W hJ
    have HJ := Lib.hid hJ
    clear hJ
    refine anyofM 10 [13] (by kernel_rfl) ⟨oneM rfl rfl (fun K hK => ?_), oneM rfl rfl (fun K hK => ?_), trivial⟩
    · go_simp
      refine (HJ.out.eight (.head _) (by simp only [List.length_append, List.length_cons, List.length_nil, List.flatMap_cons, List.flatMap_nil, be_length, HH.out, id]; omega)).mono ?_
      rintro e W ⟨v21, rfl, hJ, hkb⟩
      have HJ := Lib.hid hJ
      clear hJ
      refine hK _ _ hkb ?_
      clear hK K
      exact relist (by kernel_rfl) (hM63 v11 v14 v15 v20 v21 v28 v29 _ (HJ.out.sub (by intro x hx; simp only [List.mem_cons, List.not_mem_nil, or_false] at hx; rcases hx with rfl | rfl <;> first | exact (.tail _ (.head _)) | exact (.tail _ (.tail _ (.head _))))))
    · refine HJ.out.mk1 82 (.tmp 23) rfl 48 Tryd.underlying82 (.arr 32 .u8) hash _ (bv hash) rfl rfl (fun _ _ => ⟨HH.out, AllH.bytes.2 rfl⟩) (szDg (by rw [bv_length]; exact HH.out)) zDg (by rw [bv_length, HH.out]; decide) (by rw [bv_length, HH.out]; decide) ?_
      intro v24 W hJ hkb
      have HJ := Lib.hid hJ
      clear hJ
      refine hK _ _ hkb ?_
      clear hK K
      (try simp only [Act.put, List.setIfInBounds_toArray, List.set_cons_succ, List.set_cons_zero])
      exact relist (by kernel_rfl) (hM64 v11 v14 v15 v20 v24 v28 v29 _ (HJ.out.sub (by intro x hx; simp only [List.mem_cons, List.not_mem_nil, or_false] at hx; rcases hx with rfl | rfl | rfl | rfl <;> first | exact (.tail _ (.head _)) | exact (.head _) | exact (.tail _ (.tail _ (.head _))) | exact (.tail _ (.tail _ (.tail _ (.head _)))))))
  · intro v11 v14 v15 v24 v28 v29 W hJ
    have HJ := Lib.hid hJ
    clear hJ
    refine stepM 9 rfl (by kernel_rfl) rfl (fun K hK => ?_)
    refine HJ.out.mk2 80 (.tmp 17) (.tmp 19) rfl Tryd.underlying80 am ex rfl rfl HAM.out HEX.out u64_size1 u64_zero1 ?_
    intro v20 W hJ hkb
    have HJ := Lib.hid hJ
    clear hJ
    refine hK _ _ hkb ?_
    clear hK K
    (try simp only [Act.put, List.setIfInBounds_toArray, List.set_cons_succ, List.set_cons_zero])
    exact relist (by kernel_rfl) (hM64 v11 v14 v15 v20 v24 v28 v29 _ (HJ.out.sub (by intro x hx; simp only [List.mem_cons, List.not_mem_nil, or_false] at hx; rcases hx with rfl | rfl | rfl | rfl <;> first | exact (.head _) | exact (.tail _ (.head _)) | exact (.tail _ (.tail _ (.head _))) | exact (.tail _ (.tail _ (.tail _ (.head _)))))))
  · intro v11 v14 v20 v24 v28 v29 W hJ
    have HJ := Lib.hid hJ
    clear hJ
    refine stepM 4 rfl (by kernel_rfl) rfl (fun K hK => ?_)
    go_simp
    refine (HJ.out.one (.head _) (by simp only [List.length_append, List.length_cons, List.length_nil, List.flatMap_cons, List.flatMap_nil, be_length, HH.out, id]; omega)).mono ?_
    rintro e W ⟨v15, rfl, hJ, hkb⟩
    have HJ := Lib.hid hJ
    clear hJ
    refine hK _ _ hkb ?_
    clear hK K
    exact relist (by kernel_rfl) (hM64 v11 v14 v15 v20 v24 v28 v29 _ (HJ.out.sub (by intro x hx; simp only [List.mem_cons, List.not_mem_nil, or_false] at hx; rcases hx with rfl | rfl | rfl | rfl <;> first | exact (.tail _ (.head _)) | exact (.tail _ (.tail _ (.head _))) | exact (.tail _ (.tail _ (.tail _ (.head _)))) | exact (.tail _ (.tail _ (.tail _ (.tail _ (.head _))))))))
  · intro v11 v14 v15 v20 v21 v24 v25 W hJ
    have HJ := Lib.hid hJ
    clear hJ
    refine stepM 17 rfl (by kernel_rfl) rfl (fun K hK => ?_)
    refine HJ.out.mkStr 9 40 (.tmp 27) rfl Tryd.underlying9 Tryd.underlying40 note rfl HN.out ?_
    intro v28 W hJ hkb
    have HJ := Lib.hid hJ
    clear hJ
    refine hK _ _ hkb ?_
    clear hK K
    (try simp only [Act.put, List.setIfInBounds_toArray, List.set_cons_succ, List.set_cons_zero])
    exact hM65 v11 v14 v15 v20 v21 v24 v25 v28 _ (HJ.out.sub (by intro x hx; simp only [List.mem_cons, List.not_mem_nil, or_false] at hx; rcases hx with rfl <;> first | exact (.head _)))
  · intro v11 v14 v15 v20 v21 v24 v28 W hJ
    have HJ := Lib.hid hJ
    clear hJ
    refine anyofM 14 [18] (by kernel_rfl) ⟨oneM rfl rfl (fun K hK => ?_), oneM rfl rfl (fun K hK => ?_), trivial⟩
    · go_simp
      refine (HJ.out.sum (.head _) (by simp only [List.length_append, List.length_cons, List.length_nil, List.flatMap_cons, List.flatMap_nil, be_length, HH.out, id]; omega)).mono ?_
      rintro e W ⟨v25, rfl, hJ, hkb⟩
      have HJ := Lib.hid hJ
      clear hJ
      refine hK _ _ hkb ?_
      clear hK K
      exact relist (by kernel_rfl) (hM65 v11 v14 v15 v20 v21 v24 v25 v28 _ (HJ.out.sub (by intro x hx; simp only [List.mem_cons, List.not_mem_nil, or_false] at hx; rcases hx with rfl <;> first | exact (.tail _ (.head _)))))
    · refine HJ.out.mkS (p := note.data.toList) (u := v28) (by repeat (first | exact List.Mem.head _ | refine List.Mem.tail _ ?_)) 83 (.tmp 28) rfl Tryd.underlying83 rfl sl_size1 sl_zero1 ?_
      intro v29 W hJ hkb
      have HJ := Lib.hid hJ
      clear hJ
      refine hK _ _ hkb ?_
      clear hK K
      (try simp only [Act.put, List.setIfInBounds_toArray, List.set_cons_succ, List.set_cons_zero])
      exact hM66 v11 v14 v15 v20 v21 v24 v28 v29 _ (HJ.out.sub (by intro x hx; simp only [List.mem_cons, List.not_mem_nil, or_false] at hx; rcases hx with rfl | rfl | rfl <;> first | exact (.tail _ (.head _)) | exact (.tail _ (.tail _ (.head _))) | exact (.head _)))
  · intro v11 v14 v15 v20 v21 v28 v29 W hJ
    have HJ := Lib.hid hJ
    clear hJ
    refine stepM 13 rfl (by kernel_rfl) rfl (fun K hK => ?_)
    refine HJ.out.mk1 82 (.tmp 23) rfl 48 Tryd.underlying82 (.arr 32 .u8) hash _ (bv hash) rfl rfl (fun _ _ => ⟨HH.out, AllH.bytes.2 rfl⟩) (szDg (by rw [bv_length]; exact HH.out)) zDg (by rw [bv_length, HH.out]; decide) (by rw [bv_length, HH.out]; decide) ?_
    intro v24 W hJ hkb
    have HJ := Lib.hid hJ
    clear hJ
    refine hK _ _ hkb ?_
    clear hK K
    (try simp only [Act.put, List.setIfInBounds_toArray, List.set_cons_succ, List.set_cons_zero])
    exact relist (by kernel_rfl) (hM66 v11 v14 v15 v20 v21 v24 v28 v29 _ (HJ.out.sub (by intro x hx; simp only [List.mem_cons, List.not_mem_nil, or_false] at hx; rcases hx with rfl | rfl | rfl <;> first | exact (.head _) | exact (.tail _ (.head _)) | exact (.tail _ (.tail _ (.head _))))))
  · intro v11 v14 v15 v20 v24 v28 v29 W hJ
    have HJ := Lib.hid hJ
    clear hJ
    refine stepM 10 rfl (by kernel_rfl) rfl (fun K hK => ?_)
    go_simp
    refine (HJ.out.eight (.head _) (by simp only [List.length_append, List.length_cons, List.length_nil, List.flatMap_cons, List.flatMap_nil, be_length, HH.out, id]; omega)).mono ?_
    rintro e W ⟨v21, rfl, hJ, hkb⟩
    have HJ := Lib.hid hJ
    clear hJ
    refine hK _ _ hkb ?_
    clear hK K
    exact relist (by kernel_rfl) (hM66 v11 v14 v15 v20 v21 v24 v28 v29 _ (HJ.out.sub (by intro x hx; simp only [List.mem_cons, List.not_mem_nil, or_false] at hx; rcases hx with rfl | rfl | rfl <;> first | exact (.tail _ (.head _)) | exact (.tail _ (.tail _ (.head _))) | exact (.tail _ (.tail _ (.tail _ (.head _)))))))
  · intro v11 v14 v15 v20 v21 v24 v25 v28 W hJ
    have HJ := Lib.hid hJ
    clear hJ
    refine stepM 18 rfl (by kernel_rfl) rfl (fun K hK => ?_)
    refine HJ.out.mkS (p := note.data.toList) (u := v28) (by repeat (first | exact List.Mem.head _ | refine List.Mem.tail _ ?_)) 83 (.tmp 28) rfl Tryd.underlying83 rfl sl_size1 sl_zero1 ?_
    intro v29 W hJ hkb
    have HJ := Lib.hid hJ
    clear hJ
    refine hK _ _ hkb ?_
    clear hK K
    (try simp only [Act.put, List.setIfInBounds_toArray, List.set_cons_succ, List.set_cons_zero])
    exact hM67 v11 v14 v15 v20 v21 v24 v25 v28 v29 _ (HJ.out.sub (by intro x hx; simp only [List.mem_cons, List.not_mem_nil, or_false] at hx; rcases hx with rfl | rfl <;> first | exact (.tail _ (.head _)) | exact (.head _)))
  · intro v11 v14 v15 v20 v21 v24 v28 v29 W hJ
    have HJ := Lib.hid hJ
    clear hJ
    refine stepM 14 rfl (by kernel_rfl) rfl (fun K hK => ?_)
    go_simp
    refine (HJ.out.sum (.head _) (by simp only [List.length_append, List.length_cons, List.length_nil, List.flatMap_cons, List.flatMap_nil, be_length, HH.out, id]; omega)).mono ?_
    rintro e W ⟨v25, rfl, hJ, hkb⟩
    have HJ := Lib.hid hJ
    clear hJ
    refine hK _ _ hkb ?_
    clear hK K
    exact relist (by kernel_rfl) (hM67 v11 v14 v15 v20 v21 v24 v25 v28 v29 _ (HJ.out.sub (by intro x hx; simp only [List.mem_cons, List.not_mem_nil, or_false] at hx; rcases hx with rfl | rfl <;> first | exact (.tail _ (.head _)) | exact (.tail _ (.tail _ (.head _))))))
  · intro v11 v14 v15 v20 v21 v24 v25 v28 v29 W hJ
    have HJ := Lib.hid hJ
    clear hJ
    refine stepM 19 rfl (by kernel_rfl) rfl (fun K hK => ?_)
    go_simp
    refine (HJ.out.blb (l := [note.data.toList]) (u := v28) (vl := v29) (by repeat (first | exact List.Mem.head _ | refine List.Mem.tail _ ?_)) (by intro p hp; obtain rfl := List.mem_singleton.1 hp; have := HNM.out; omega) (by have := HNM.out; simp only [List.length_append, List.length_cons, List.length_nil, List.flatMap_cons, List.flatMap_nil, be_length, HH.out, id, blob]; omega)).mono ?_
    rintro e W ⟨v30, rfl, hJ, hkb⟩
    have HJ := Lib.hid hJ
    clear hJ
    refine hK _ _ hkb ?_
    clear hK K
    exact hM68 v11 v14 v15 v20 v21 v24 v25 v28 v29 v30 _ (HJ.out.sub (by intro x hx; simp only [List.mem_cons, List.not_mem_nil, or_false] at hx; rcases hx with rfl <;> first | exact (.head _)))
  intro v11 v14 v15 v20 v21 v24 v25 v28 v29 v30 W hJ
  have HJ := Lib.hid hJ
  clear hJ
  refine stepM 20 rfl (by kernel_rfl) rfl (fun K hK => ?_)
  go_simp
  have hgw := HJ.out.ltw
  refine (QFives _ _ _ (fun b => v30.ownBlock = some b) (OwnB.holds HJ.out.own) (OwnB.lt HJ.out.own) (by have := HNM.out; simp only [List.length_append, List.length_cons, List.length_nil, List.flatMap_cons, List.flatMap_nil, be_length, HH.out, id, blob]; omega)).mono ?_
  rintro e W ⟨v31, out, rfl, hfv, ho31, hf31⟩
  obtain ⟨A31, c31, rfl⟩ := OwnB.form ho31
  have hkb : KeepB (fun b => b = w.heap.size) _ W := fun b hb => hf31.ext.block b (by subst hb; exact hgw) (by simp)
  have H31 := Lib.hid (And.intro hfv (And.intro ho31 (And.intro hf31 HJ.out.mv)))
  clear HJ hfv ho31 hf31
  refine hK _ _ hkb ?_
  clear hK K hkb hgw
  refine takeK 21 rfl (by kernel_rfl) (by kernel_rfl) (by kernel_rfl) rfl (fun _ _ _ _ h => h) rfl (fun K hK => ?_)
  go_big_quiet_op
  first | refine hK _ ?_ | refine ⟨_, fun _ _ => rfl, hK _ ?_⟩
  clear hK K
  refine doneM (by kernel_rfl) ?_ _
  go_wp2_with fail
  obtain ⟨hfv, ho31, hf31, hmv⟩ := H31.out
  have hbl : (b8 out).length = out.length := by simp [b8]
  rw [hbl] at ho31 hf31
  have hxw := HX.out.trans (Moved.ext hmv)
  have hxW : Ext w W := hxw.trans (Fresh.ext hf31)
  have hlow : ∀ g, (Value.slice A31 out.length c31).ownBlock = some g → w.heap.size ≤ g := fun g e => Nat.le_trans hxw.size (Fresh.new hf31 g e)
  have hlt31 := OwnB.lt ho31
  have hlen : out.length ≤ 1000 := by
    have h1 := hfv.length
    have h2 := HNM.out
    rw [bitsP_length] at h1
    simp only [List.length_append, List.length_cons, List.length_nil, List.flatMap_cons, List.flatMap_nil, be_length, HH.out, id, blob] at h1
    omega
  have hsm : ∀ x ∈ out, x < 256 := fun x hx => by have := hfv.small x hx; omega
  have HFV := Lib.hid hfv
  have HXW := Lib.hid hxW
  have HG2 := Lib.hid (HG.out.keep (hxW.block 0 (HG.out.lt (by decide)) (by simp)))
  have H0 := Lib.hid (show 0 < w.heap.size from HG.out.lt (by decide))
  clear H31 HX hmv hxw hf31 HG1 HG HNM HKH HK0 HK1 HK2 HK35 HAM HEX HN
  refine (Bd_WriteString W.heap.size W.heap.size _ _ (BAt.new W) (by simp) (by decide)).mono ?_
  rintro e W2 ⟨rfl, vb, hbt, hbf, hbn⟩
  have hgW : (W.alloc (.cells #[.pointer none, .slice none 0 0] 52)).grownBy W2 (some W.heap.size) := ⟨hbf.os, hbf.tape, hbf.output, hbf.size, fun i hi hne => hbf.block i hi (by rintro rfl; exact hne rfl) (by simp)⟩
  have ho2 := ((OwnB.ext ho31 ((Ext.refl W).alloc _)).keep hgW (.inr (by intro e; have := hlt31 _ e; omega)))
  have hx2 : Ext w W2 := grown_then (hxW.alloc _) hgW (.inr (by rintro g ⟨⟩; exact hxW.size))
  have hg2 : Cells W2 ⟨0, 0, none⟩ turnsC := HG2.out.keep (by
    have h := hgW.block 0 (by rw [World.size_alloc]; have := H0.out; have := hxW.size; omega) (by intro e; injection e with e; have := H0.out; have := hxW.size; omega)
    exact h.trans ((Ext.refl W).alloc _ |>.block 0 (by have := H0.out; have := hxW.size; omega) (by simp)))
  have hvb : ∀ g, vb.ownBlock = some g → W.heap.size < g := fun g e => by have := hbn g e; rw [World.size_alloc] at this; omega
  have HBT := Lib.hid hbt
  have HX2 := Lib.hid hx2
  have HVB := Lib.hid hvb
  have HO2 := Lib.hid ho2
  have HG3 := Lib.hid hg2
  have HS2 := Lib.hid (show W.heap.size < W2.heap.size from hbt.lt)
  have HWS := Lib.hid hxW.size
  have HLOW := Lib.hid hlow
  have HLT := Lib.hid hlt31
  have HLEN := Lib.hid hlen
  have HBL := Lib.hid hbl
  have HSM := Lib.hid hsm
  clear hbt hbf hbn hgW ho2 hx2 hg2 hvb ho31 hxW hlow hlt31 hlen hbl hsm hfv HG2 HXW
  generalize W.heap.size = b at *
  go_wp2_with fail
  refine (QCheck _ out W2 (fun b => (Value.slice A31 out.length c31).ownBlock = some b) (OwnB.holds HO2.out) (OwnB.lt HO2.out) HSM.out (by have := HLEN.out; omega) HG3.out).mono ?_
  rintro e W3 ⟨vc, rfl, hoc, hfc⟩
  obtain ⟨Ac, cc, rfl⟩ := OwnB.form hoc
  have HO3 := Lib.hid (OwnB.ext HO2.out (Fresh.ext hfc))
  have hcl : (b8 (checkM out)).length = 6 := by simp [b8, checkM, six_len]
  have hsr := hoc.src
  rw [hcl] at hsr
  have HC3 := Lib.hid hsr
  have HF3 := Lib.hid (Fresh.ext hfc)
  have HCL := Lib.hid (show (bv (b8 (checkM out))).length = 6 * 1 by rw [bv_length, hcl])
  rw [hcl]
  clear hoc hfc hcl
  go_wp2_with (first
    | ((with_reducible refine wpDst 36 rfl ?_)
       refine wpList_app _ rfl (.tmp 33) (.tmp 35) _ _ rfl 5 5 i0 _ 1 1 Tryd.underlying40 Tryd.underlying40 hi hz0 hz1 hz2 rfl (by decide) _ _ _ rfl HO3.out _ 6 _ (bv (b8 (checkM out))) rfl HCL.out HC3.out (bv_one _) (by rw [HBL.out]; have := HLEN.out; unfold maxLen; omega) (by rw [HBL.out]; have := HLEN.out; omega) ?_
       intro v36 W4 ho36 hm36
       have ho37 : OwnB W4 v36 (b8 (out ++ checkM out)) := by
         have h6 : (b8 (checkM out)).length = 6 := by simp [b8, checkM, six_len]
         rw [← h6] at ho36
         have h := OwnB.app (a := b8 out) (b := b8 (checkM out)) ho36
         simpa [b8] using h
       obtain ⟨A36, c36, rfl⟩ := OwnB.form ho37
       have hl7 : (b8 (out ++ checkM out)).length = out.length + 6 := by simp [b8, checkM, six_len]
       obtain ⟨N, hN⟩ : ∃ N, N = out.length + 6 := ⟨_, rfl⟩
       rw [hl7, ← hN] at ho37 hm36
       rw [hl7, ← hN]
       have HNE := Lib.hid hN
       clear hN
       have HO4 := Lib.hid ho37
       have HM4 := Lib.hid hm36
       clear ho36 ho37 hm36)
    | fail)
  have hal : ∀ x ∈ out ++ checkM out, x < 32 := fun x hx => by
    rcases List.mem_append.1 hx with h | h
    · exact HFV.out.small x h
    · exact sixOf_lt _ x h
  have hln : (out ++ checkM out).length = N := by rw [HNE.out]; simp [checkM, six_len]
  have htx : textR out = headK ++ (out ++ checkM out).map letter := rfl
  have hbt4 : BAt b b (.pointer (some ⟨b, 0, none⟩)) vb (bv headK) W4 := by
    have h3 := BAt.keep HBT.out HF3.out (by simp) (by cases vb.ownBlock <;> simp)
    exact BAt.keep h3 HM4.out.grown (fun e => by have := HLT.out b e.symm; omega) (by
      cases hv : vb.ownBlock with
      | none => exact .inl rfl
      | some g => exact .inr (fun e => by have := HLT.out g e.symm; have := HVB.out g hv; omega))
  have hx4 : Ext w W4 := grown_then (HX2.out.trans HF3.out) HM4.out.grown (.inr HLOW.out)
  have hb4 : b < W4.heap.size := hbt4.lt
  obtain ⟨ad, rfl, hcell⟩ : ∃ ad, A36 = some ad ∧ Cells W4 ad (bv (b8 (out ++ checkM out))) := by
    have ho4 : Own W4 5 1 (.slice A36 N c36) N (bv (b8 (out ++ checkM out))) := by
      have h := HO4.out
      unfold OwnB at h
      rwa [show (b8 (out ++ checkM out)).length = N by rw [HNE.out]; simp [b8, checkM, six_len]] at h
    have h := own_src ho4
    exact h (by have := HNE.out; omega)
  have hlad : ad.block < W4.heap.size := OwnB.lt HO4.out _ rfl
  have hadb : ad.block ≠ b ∧ some ad.block ≠ vb.ownBlock := by
    have hvs : ∀ g, vb.ownBlock = some g → g < W3.heap.size := fun g e => Nat.lt_of_lt_of_le (World.ownsRow.lt HBT.out.own g e).2 HF3.out.size
    have hbs : b < W3.heap.size := Nat.lt_of_lt_of_le HS2.out HF3.out.size
    rcases HM4.out.at_ with e | hn
    · have h1 := HLT.out ad.block (e.symm.trans rfl)
      exact ⟨by omega, fun e2 => by have := HVB.out _ e2.symm; omega⟩
    · have h1 := hn ad.block rfl
      exact ⟨by omega, fun e2 => by have := hvs _ e2.symm; omega⟩
  have HTX := Lib.hid htx
  have HBT4 := Lib.hid hbt4
  have HX4 := Lib.hid hx4
  have HCE := Lib.hid hcell
  have HAD := Lib.hid (And.intro hlad hadb)
  have HWB := Lib.hid (Nat.lt_of_le_of_lt HWS.out hb4)
  have HLB := Lib.hid hb4
  have HAL := Lib.hid hal
  have HLN := Lib.hid (And.intro hln (show N ≤ 1006 by have := HLEN.out; have := HNE.out; omega))
  clear htx hbt4 hx4 hcell hlad hadb hb4 hal hln HO4 HM4 HO3 HC3 HCL HO2 HG3 HSM HLT HLOW HS2 HX2 HBT HBL HLEN
  generalize out ++ checkM out = al at *
  clear HNE
  go_loopw [38] (fun i wr => ∃ k : Nat, k ≤ N ∧ i = .int .i64 k ∧ ∃ v, BAt b b (.pointer (some ⟨b, 0, none⟩)) v (bv (headK ++ (al.take k).map letter)) wr ∧ BFr b vb.ownBlock W4 wr ∧ (v.ownBlock = vb.ownBlock ∨ ∀ g, v.ownBlock = some g → W4.heap.size ≤ g)) (fun i _ => N - (intOf i).toNat)
  case atStart => exact ⟨0, by omega, rfl, vb, by simpa using HBT4.out, BFr.refl _ _ _, .inl rfl⟩
  case round =>
    obtain ⟨k, hk, rfl, v, hbt, hbf, hvo⟩ := hrel
    by_cases hkn : k < N
    · have hkl : k < al.length := by have := HLN.out.1; omega
      obtain ⟨x, hxk⟩ : ∃ x, al[k]? = some x := ⟨_, List.getElem?_eq_getElem hkl⟩
      have hx32 : x < 32 := HAL.out x (List.mem_of_getElem? hxk)
      have hck := HCE.out.keep (hbf.block ad.block HAD.out.1 HAD.out.2.1 HAD.out.2.2)
      have hcx : wr.cell? (ad.add k) = some (.int .u8 (x : Int)) := hck k _ (by
        simp [bv, b8, hxk]; omega)
      have htk : (al.take (k + 1)).map letter = (al.take k).map letter ++ [letter x] := by rw [List.take_add_one, hxk]; simp
      have HTK := Lib.hid htk
      have HBT5 := Lib.hid hbt
      have HBF := Lib.hid (And.intro hbf hvo)
      have HXK := Lib.hid hx32
      clear hck htk hbt hbf hvo hkl hxk
      go_wp2_with fail
      rw [letters_at x HXK.out]
      refine (Bd_WriteByte b b v _ _ wr HBT5.out (by have := HLN.out; rw [bv_length, List.length_append, List.length_map, List.length_take, show headK.length = 5 from rfl]; omega)).mono ?_
      rintro e w6 ⟨rfl, v6, hb6, hf6, hn6⟩
      have HB6 := Lib.hid hb6
      have HF6 := Lib.hid (And.intro hf6 hn6)
      clear hb6 hf6 hn6
      have hN6 : N ≤ 1006 := HLN.out.2
      go_wp2
      go_roundw
      case rel =>
        refine ⟨k + 1, by omega, by go_num, v6, ?_, HBF.out.1.then HF6.out.1 HBF.out.2, ?_⟩
        · rw [HTK.out, ← List.append_assoc, bv_append (headK ++ (al.take k).map letter)]
          exact HB6.out
        · rcases HF6.out.2 with e | hn
          · rw [e]; exact HBF.out.2
          · exact .inr fun g e => Nat.le_trans HBF.out.1.size (hn g e)
      case measure => simp [intOf]; omega
    · obtain rfl : k = N := by omega
      rw [List.take_of_length_le (by rw [HLN.out.1]; exact Nat.le_refl _)] at hbt
      have HBT5 := Lib.hid hbt
      have HBF := Lib.hid hbf
      clear hbt hbf hvo
      go_wp2_with fail
      refine (Sh_Builder_String b b (headK ++ al.map letter) wr (.inr HBT5.out.at_) (by simp [headK])).mono ?_
      rintro e w7 ⟨rfl, hbw⟩
      go_wp2
      go_ret2
      refine ⟨.inr ⟨rfl, out, HFV.out, ?_⟩, ?_⟩
      · rw [HTX.out]
        rfl
      · exact ⟨hbw.os.trans (HBF.out.os.trans HX4.out.os), hbw.tape.trans (HBF.out.tape.trans HX4.out.tape), hbw.output.trans (HBF.out.output.trans HX4.out.output), Nat.le_trans HX4.out.size (Nat.le_trans HBF.out.size hbw.size), fun i hi _ =>
          (hbw.block i (by have := HWS.out; omega)).trans ((HBF.out.block i (Nat.lt_of_lt_of_le hi HX4.out.size) (by have := HWS.out; omega) (fun e => by have := HVB.out i e.symm; have := HWS.out; omega)).trans (HX4.out.block i hi (by simp)))⟩
end Go.Proofs.YtchnjcghbbacoaaDoor

/- The walk of the document's Bytes of layer 25. Conditions: the request's numbers are in their bounds, the note isn't too long. -/
import Derived.Test.YtchnjcghbbacoaaDoorQModel
import Derived.Test.YtchnjcghbbacoaaDoorQLat
import Derived.Test.YtchnjcghbbacoaaDoorLayU
set_option linter.unusedVariables false
set_option linter.unusedSimpArgs false
set_option linter.unnecessarySimpa false
namespace Go.Proofs.YtchnjcghbbacoaaDoor
open Go.RowKit

set_option maxRecDepth 100000 in
set_option maxHeartbeats 8000000 in
theorem QRBytes (r : Rq) (w : World) (hok : RqOk r) (hn : r.2.2.2.2.size ≤ 100000) :
    Calls Tryd.prog 23 #[.agg (rqC r).toArray] w fun e w' => ∃ v', e = .returned v' ∧ OwnB w' v' (bytesR r) ∧ Fresh w w' v' := by
  have HH := Lib.hid hok.hash
  have ham := wf_ltQ hok.am
  have hex := wf_ltQ hok.ex
  have HN := Lib.hid hok.note
  have HNM := Lib.hid (show r.2.2.2.2.data.toList.length ≤ 100000 by rw [← noteL_length] at hn; exact hn)
  have hb0 : Blk (w.alloc (.cells (rqC r).toArray 25)) w.heap.size 25 (rqC r) := Blk.new _ _ _
  have hx0 : Ext w (w.alloc (.cells (rqC r).toArray 25)) := (Ext.refl w).alloc _
  have HNT := Lib.hid (rqC_note hok)
  have HCH := Lib.hid (rqC_hash hok)
  have HBS := Lib.hid (show bytesR r = (((([] ++ ([r.1] ++ be 8 r.2.1)) ++ be 8 r.2.2.1) ++ r.2.2.2.1) ++ blob r.2.2.2.2.data.toList) by simp [bytesR, noteL])
  have c0 : (rqC r)[0]? = some (.int .u8 (r.1.toNat : Int)) := rfl
  have c1 : (rqC r)[1]? = some (.int .u64 (r.2.1 : Int)) := rfl
  have c2 : (rqC r)[2]? = some (.int .u64 (r.2.2.1 : Int)) := rfl
  rw [HBS.out]
  generalize rqC r = CC at *
  obtain ⟨to, am, ex, hash, note⟩ := r
  dsimp only at *
  have HB0 := Lib.hid hb0
  have HX0 := Lib.hid hx0
  clear hb0 hx0 HBS hok hn
  go_enter Tryd.func23, Tryd.ntmps23
  go_wp2
  have hb0 : Blk (w.alloc (.cells CC.toArray 25)).drew w.heap.size 25 CC := HB0.out
  have hx : Ext w (w.alloc (.cells CC.toArray 25)).drew := HX0.out.drew
  refine startM (KeepB fun b => b = w.heap.size) (by kernel_rfl) ?_
  (try simp only [Act.put, List.setIfInBounds_toArray, List.set_cons_succ, List.set_cons_zero])
  generalize (w.alloc (.cells CC.toArray 25)).drew = w0 at *
  have HK0 := Lib.hid ((hb0.cell 0).trans c0)
  have HK1 := Lib.hid ((hb0.cell 1).trans c1)
  have HK2 := Lib.hid ((hb0.cell 2).trans c2)
  have hJ0 : QJ w.heap.size w0 (Value.slice none 0 0) (Value.slice none 0 0) [] [] w0 := QJ.start hb0.lt (Own.nil _ _ _) (by simp [Value.ownBlock])
  have HX := Lib.hid hx
  have HBB := Lib.hid hb0
  clear hb0 hx c0 c1 c2
  refine takeK 0 rfl (by kernel_rfl) (by kernel_rfl) (by kernel_rfl) rfl (fun _ _ _ _ h => h) rfl (fun K hK => ?_)
  go_big_quiet_op
  first | refine hK _ ?_ | refine ⟨_, fun _ _ => rfl, hK _ ?_⟩
  clear hK K
  refine takeK 1 rfl (by kernel_rfl) (by kernel_rfl) (by kernel_rfl) rfl (fun _ _ _ _ h => h) rfl (fun K hK => ?_)
  refine quiet_cell _ _ rfl _ rfl _ _ Tryd.underlying5 rfl (fun W' h => KeepB.cell h HK0.out rfl) ?_
  refine hK _ ?_
  simp only [Act.put, List.setIfInBounds_toArray, List.set_cons_succ, List.set_cons_zero]
  clear hK K
  refine takeK 3 rfl (by kernel_rfl) (by kernel_rfl) (by kernel_rfl) rfl (fun _ _ _ _ h => h) rfl (fun K hK => ?_)
  go_big_quiet_op
  first | refine hK _ ?_ | refine ⟨_, fun _ _ => rfl, hK _ ?_⟩
  clear hK K
  refine takeK 4 rfl (by kernel_rfl) (by kernel_rfl) (by kernel_rfl) rfl (fun _ _ _ _ h => h) rfl (fun K hK => ?_)
  refine quiet_cell _ _ rfl _ rfl _ _ Tryd.underlying22 rfl (fun W' h => KeepB.cell h HK1.out rfl) ?_
  refine hK _ ?_
  simp only [Act.put, List.setIfInBounds_toArray, List.set_cons_succ, List.set_cons_zero]
  clear hK K
  refine takeK 6 rfl (by kernel_rfl) (by kernel_rfl) (by kernel_rfl) rfl (fun _ _ _ _ h => h) rfl (fun K hK => ?_)
  go_big_quiet_op
  first | refine hK _ ?_ | refine ⟨_, fun _ _ => rfl, hK _ ?_⟩
  clear hK K
  refine takeK 7 rfl (by kernel_rfl) (by kernel_rfl) (by kernel_rfl) rfl (fun _ _ _ _ h => h) rfl (fun K hK => ?_)
  refine quiet_cell _ _ rfl _ rfl _ _ Tryd.underlying22 rfl (fun W' h => KeepB.cell h HK2.out rfl) ?_
  refine hK _ ?_
  simp only [Act.put, List.setIfInBounds_toArray, List.set_cons_succ, List.set_cons_zero]
  clear hK K
  apply lat2 (fun v6 v9 W => QJ w.heap.size w0 (.slice none 0 0) v9 ([] ++ ([to] ++ be 8 am)) [] W)
  intro hM1
  apply lat1 (fun v6 W => QJ w.heap.size w0 (Value.slice none 0 0) (Value.slice none 0 0) [] [It.sl .u8 [to] v6] W)
  intro hM0
  · have HJ := Lib.hid hJ0
    refine stepM 2 rfl (by kernel_rfl) rfl (fun K hK => ?_)
    refine HJ.out.mk1 40 (.tmp 5) rfl 5 Tryd.underlying40 .u8 to _ [Value.int .u8 (to.toNat : Int)] rfl rfl (fun _ _ => rfl) u8_sizeU u8_zeroU (show 1 ≤ 16777216 by decide) (show 0 < 1 by decide) ?_
    intro v6 W hJ hkb
    have HJ := Lib.hid hJ
    clear hJ
    refine hK _ _ hkb ?_
    clear hK K
    (try simp only [Act.put, List.setIfInBounds_toArray, List.set_cons_succ, List.set_cons_zero])
    exact hM0 v6 _ (HJ.out.sub (by intro x hx; simp only [List.mem_cons, List.not_mem_nil, or_false] at hx; rcases hx with rfl <;> first | exact (.head _)))
  · intro v6 W hJ
    have HJ := Lib.hid hJ
    clear hJ
    refine stepM 5 rfl (by kernel_rfl) rfl (fun K hK => ?_)
    go_simp
    refine (HJ.out.numI (.head _) am 8 ham (by omega) (by simp only [List.length_append, List.length_cons, List.length_nil, be_length]; omega)).mono ?_
    rintro e W ⟨v9, rfl, hJ, hkb⟩
    have HJ := Lib.hid hJ
    clear hJ
    refine hK _ _ hkb ?_
    clear hK K
    exact hM1 v6 v9 _ (HJ.out.sub (by intro x hx; cases hx))
  intro v6 v9 W hJ
  have HJ := Lib.hid hJ
  clear hJ
  refine stepM 8 rfl (by kernel_rfl) rfl (fun K hK => ?_)
  go_simp
  refine (HJ.out.num ex 8 hex (by omega) (by simp only [List.length_append, List.length_cons, List.length_nil, be_length]; omega)).mono ?_
  rintro e W ⟨v12, rfl, hJ, hkb⟩
  have HJ := Lib.hid hJ
  clear hJ
  refine hK _ _ hkb ?_
  clear hK K
  refine takeK 9 rfl (by kernel_rfl) (by kernel_rfl) (by kernel_rfl) rfl (fun _ _ _ _ h => h) rfl (fun K hK => ?_)
  go_big_quiet_op
  first | refine hK _ ?_ | refine ⟨_, fun _ _ => rfl, hK _ ?_⟩
  clear hK K
  refine doneM (by kernel_rfl) ?_ _
  have ho12 := HJ.out.own
  have hx12 : Ext w W := HX.out.trans HJ.out.ext
  have hb12 : Blk W w.heap.size 25 CC := by
    show W.heap[w.heap.size]? = _
    rw [HJ.out.blk (by simp [Value.ownBlock])]; exact HBB.out
  have hf12 : ∀ b, v12.ownBlock = some b → w.heap.size < b := fun b hb => by
    have h1 := (Fresh.new (w := w0) (w' := W) HJ.out.mv) b hb
    have h2 := HJ.out.lt
    omega
  have HO12 := Lib.hid ho12
  have HX12 := Lib.hid hx12
  have HB12 := Lib.hid hb12
  have HF12 := Lib.hid hf12
  clear HJ ho12 hx12 hb12 hf12
  go_wp2
  have hbq : Blk W.drew w.heap.size 25 CC := HB12.out
  have hxq : Ext w W.drew := HX12.out.drew
  have hoq : OwnB W.drew v12 (([] ++ ([to] ++ be 8 am)) ++ be 8 ex) := HO12.out.ext (Ext.refl _).drew
  refine startM (KeepB fun b => b = w.heap.size) (by kernel_rfl) ?_
  (try simp only [Act.put, List.setIfInBounds_toArray, List.set_cons_succ, List.set_cons_zero])
  generalize W.drew = wq at *
  have HK35 := Lib.hid ((hbq.cell 35).trans HNT.out)
  have hkh : Cells wq ⟨w.heap.size, 3, none⟩ (bv hash) := by have h := (hbq.cells.drop 3).take 32; rw [HCH.out, addr_atQ] at h; exact h
  have HKH := Lib.hid hkh
  have hne : ∀ b, v12.ownBlock = some b → b ≠ w.heap.size := fun b hb e => by have := HF12.out b hb; omega
  have HNE := Lib.hid hne
  have hJ0 : QJ w.heap.size wq v12 v12 (([] ++ ([to] ++ be 8 am)) ++ be 8 ex) [] wq := QJ.start hbq.lt hoq hne
  have HXQ := Lib.hid hxq
  clear hbq hxq hoq hkh hne
  refine takeK 0 rfl (by kernel_rfl) (by kernel_rfl) (by kernel_rfl) rfl (fun _ _ _ _ h => h) rfl (fun K hK => ?_)
  go_big_quiet_op
  first | refine hK _ ?_ | refine ⟨_, fun _ _ => rfl, hK _ ?_⟩
  clear hK K
  refine takeK 1 rfl (by kernel_rfl) (by kernel_rfl) (by kernel_rfl) rfl (fun _ _ _ _ h => h) rfl (fun K hK => ?_)
  go_big_quiet_op
  first | refine hK _ ?_ | refine ⟨_, fun _ _ => rfl, hK _ ?_⟩
  clear hK K
  refine takeK 2 rfl (by kernel_rfl) (by kernel_rfl) (by kernel_rfl) rfl (fun _ _ _ _ h => h) rfl (fun K hK => ?_)
  go_big_quiet_op
  first | refine hK _ ?_ | refine ⟨_, fun _ _ => rfl, hK _ ?_⟩
  clear hK K
  refine takeK 4 rfl (by kernel_rfl) (by kernel_rfl) (by kernel_rfl) rfl (fun _ _ _ _ h => h) rfl (fun K hK => ?_)
  go_big_quiet_op
  first | refine hK _ ?_ | refine ⟨_, fun _ _ => rfl, hK _ ?_⟩
  clear hK K
  refine takeK 5 rfl (by kernel_rfl) (by kernel_rfl) (by kernel_rfl) rfl (fun _ _ _ _ h => h) rfl (fun K hK => ?_)
  refine quiet_cell _ _ rfl _ rfl _ _ Tryd.underlying9 rfl (fun W' h => KeepB.cell h HK35.out rfl) ?_
  refine hK _ ?_
  simp only [Act.put, List.setIfInBounds_toArray, List.set_cons_succ, List.set_cons_zero]
  clear hK K
  apply lat2 (fun v16 v19 W => QJ w.heap.size wq v12 v16 ((([] ++ ([to] ++ be 8 am)) ++ be 8 ex) ++ hash) [It.sl .u8 note.data.toList v19] W)
  intro hM2
  apply lat1 (fun v19 W => QJ w.heap.size wq v12 v12 (([] ++ ([to] ++ be 8 am)) ++ be 8 ex) [It.sl .u8 note.data.toList v19] W)
  intro hM1
  apply lat1 (fun v16 W => QJ w.heap.size wq v12 v16 ((([] ++ ([to] ++ be 8 am)) ++ be 8 ex) ++ hash) [] W)
  intro hM0
  · have HJ := Lib.hid hJ0
    refine anyofM 3 [6] (by kernel_rfl) ⟨oneM rfl rfl (fun K hK => ?_), oneM rfl rfl (fun K hK => ?_), trivial⟩
    · refine HJ.out.appS (.tmp 13) (.tmp 15) _ _ rfl Tryd.underlying40 Tryd.underlying40 rfl _ 32 32 hash rfl HH.out (fun _ => ⟨_, rfl, HKH.out.keep (HJ.out.blk HNE.out)⟩) (by simp only [List.length_append, List.length_cons, List.length_nil, be_length]; omega) ?_
      intro v16 W hJ hkb
      have HJ := Lib.hid hJ
      clear hJ
      refine hK _ _ hkb ?_
      clear hK K
      (try simp only [Act.put, List.setIfInBounds_toArray, List.set_cons_succ, List.set_cons_zero])
      exact hM0 v16 _ (HJ.out.sub (by intro x hx; cases hx))
    · refine HJ.out.mkStr 9 40 (.tmp 18) rfl Tryd.underlying9 Tryd.underlying40 note rfl HN.out ?_
      intro v19 W hJ hkb
      have HJ := Lib.hid hJ
      clear hJ
      refine hK _ _ hkb ?_
      clear hK K
      (try simp only [Act.put, List.setIfInBounds_toArray, List.set_cons_succ, List.set_cons_zero])
      exact hM1 v19 _ (HJ.out.sub (by intro x hx; simp only [List.mem_cons, List.not_mem_nil, or_false] at hx; rcases hx with rfl <;> first | exact (.head _)))
  · intro v16 W hJ
    have HJ := Lib.hid hJ
    clear hJ
    refine stepM 6 rfl (by kernel_rfl) rfl (fun K hK => ?_)
    refine HJ.out.mkStr 9 40 (.tmp 18) rfl Tryd.underlying9 Tryd.underlying40 note rfl HN.out ?_
    intro v19 W hJ hkb
    have HJ := Lib.hid hJ
    clear hJ
    refine hK _ _ hkb ?_
    clear hK K
    (try simp only [Act.put, List.setIfInBounds_toArray, List.set_cons_succ, List.set_cons_zero])
    exact hM2 v16 v19 _ (HJ.out.sub (by intro x hx; simp only [List.mem_cons, List.not_mem_nil, or_false] at hx; rcases hx with rfl <;> first | exact (.head _)))
  · intro v19 W hJ
    have HJ := Lib.hid hJ
    clear hJ
    refine stepM 3 rfl (by kernel_rfl) rfl (fun K hK => ?_)
    refine HJ.out.appS (.tmp 13) (.tmp 15) _ _ rfl Tryd.underlying40 Tryd.underlying40 rfl _ 32 32 hash rfl HH.out (fun _ => ⟨_, rfl, HKH.out.keep (HJ.out.blk HNE.out)⟩) (by simp only [List.length_append, List.length_cons, List.length_nil, be_length]; omega) ?_
    intro v16 W hJ hkb
    have HJ := Lib.hid hJ
    clear hJ
    refine hK _ _ hkb ?_
    clear hK K
    (try simp only [Act.put, List.setIfInBounds_toArray, List.set_cons_succ, List.set_cons_zero])
    exact relist (by kernel_rfl) (hM2 v16 v19 _ (HJ.out.sub (by intro x hx; simp only [List.mem_cons, List.not_mem_nil, or_false] at hx; rcases hx with rfl <;> first | exact (.head _))))
  intro v16 v19 W hJ
  have HJ := Lib.hid hJ
  clear hJ
  refine stepM 7 rfl (by kernel_rfl) rfl (fun K hK => ?_)
  go_simp
  refine (HJ.out.blobR (p := note.data.toList) (vp := v19) (.head _) (by have := HNM.out; simp only [List.length_append, List.length_cons, List.length_nil, be_length, HH.out]; omega)).mono ?_
  rintro e W ⟨v20, rfl, ho20, hf20⟩
  have hgw := HJ.out.ltw
  have hkb : KeepB (fun b => b = w.heap.size) _ W := fun b hb => hf20.ext.block b (by subst hb; exact hgw) (by simp)
  have H20 := Lib.hid (And.intro ho20 (And.intro hf20 HJ.out.mv))
  clear HJ ho20 hf20
  refine hK _ _ hkb ?_
  clear hK K hkb hgw
  refine takeK 8 rfl (by kernel_rfl) (by kernel_rfl) (by kernel_rfl) rfl (fun _ _ _ _ h => h) rfl (fun K hK => ?_)
  go_big_quiet_op
  first | refine hK _ ?_ | refine ⟨_, fun _ _ => rfl, hK _ ?_⟩
  clear hK K
  refine doneM (by kernel_rfl) ?_ _
  obtain ⟨ho20, hf20, hmv⟩ := H20.out
  have hfr : ∀ b, v12.ownBlock = some b → w.heap.size ≤ b := fun b hb => Nat.le_of_lt (HF12.out b hb)
  have hx20 : Ext w _ := grown_then HXQ.out hmv.grown (.inr hfr)
  go_wp2
  go_ret
  exact ⟨_, rfl, ho20, ⟨hx20.trans (Fresh.ext hf20), .inr fun b hb => Nat.le_trans hx20.size (Fresh.new hf20 b hb)⟩⟩
end Go.Proofs.YtchnjcghbbacoaaDoor

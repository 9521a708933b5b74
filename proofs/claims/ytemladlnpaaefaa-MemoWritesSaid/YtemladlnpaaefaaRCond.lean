/- The walk of the document's Cond of layer 13: a payment's bytes. Conditions: the numbers are in their bounds. -/
import Derived.Test.YtemladlnpaaefaaLatR
import Derived.Test.YtemladlnpaaefaaLayCond
set_option linter.unusedVariables false
set_option linter.unusedSimpArgs false
set_option linter.unnecessarySimpa false
namespace Go.Proofs.Ytemladlnpaaefaa
open Go.RowKit

theorem wf_lt {n : Nat} (h : (Lit.int .u64 (n : Int)).wf = true) : n < 18446744073709551616 := by have := bounds_u64 h; omega
set_option maxRecDepth 100000 in
set_option maxHeartbeats 8000000 in
theorem RCond (c : Cd) (vb : Value) (bs : List UInt8) (w : World) (F : Fp) (hok : CondOk c) (hv : (Ty.sl .u8).holds w F [vb] bs) (hF : ∀ b, F b → b < w.heap.size) (hb : bs.length ≤ 140737488354304) :
    Calls Try.prog 38 #[vb, .agg (condCells c).toArray] w fun e w' => ∃ v', e = .returned v' ∧ OwnB w' v' (bs ++ condB c) ∧ Fresh w w' v' := by
  have HH := Lib.hid hok.hash
  have hid := wf_lt hok.id
  have ham := wf_lt hok.am
  have hex := wf_lt hok.exp
  have hb0 : Blk (w.alloc (.cells (condCells c).toArray 26)) w.heap.size 26 (condCells c) := Blk.new _ _ _
  have hx0 : Ext w (w.alloc (.cells (condCells c).toArray 26)) := (Ext.refl w).alloc _
  have c35 : (condCells c)[35]? = some (.int .u64 (c.2.2.2.2.1 : Int)) := by
    show (bv c.2.2.2.1 ++ [Value.int .u64 (c.2.2.2.2.1 : Int)])[32]? = _
    rw [List.getElem?_append_right (by rw [bv_length, HH.out]; omega), bv_length, HH.out]
    rfl
  have ch : ((condCells c).drop 3).take 32 = bv c.2.2.2.1 := List.take_left' (by rw [bv_length, HH.out])
  have c0 : (condCells c)[0]? = some (.int .u64 (c.1 : Int)) := rfl
  have c1 : (condCells c)[1]? = some (.int .i64 c.2.1) := rfl
  have c2 : (condCells c)[2]? = some (.int .u64 (c.2.2.1 : Int)) := rfl
  generalize condCells c = CC at *
  have HB0 := Lib.hid hb0
  have HX0 := Lib.hid hx0
  have HW := Lib.hid hv
  have HFW := Lib.hid hF
  have HC2 := Lib.hid c2
  have HC35 := Lib.hid c35
  have HCH := Lib.hid ch
  clear hb0 hx0 hv hF c2 c35 ch
  go_enter Try.func38, Try.ntmps38
  go_wp2
  have hb0 : Blk (w.alloc (.cells CC.toArray 26)).drew w.heap.size 26 CC := HB0.out
  have hx : Ext w (w.alloc (.cells CC.toArray 26)).drew := HX0.out.drew
  refine startM (KeepB fun b => b = w.heap.size) (by kernel_rfl) ?_
  (try simp only [Act.put, List.setIfInBounds_toArray, List.set_cons_succ, List.set_cons_zero])
  generalize (w.alloc (.cells CC.toArray 26)).drew = w0 at *
  have HK0 := Lib.hid ((hb0.cell 0).trans c0)
  have HK1 := Lib.hid ((hb0.cell 1).trans c1)
  have hJ0 : CJ w.heap.size w0 (Value.slice none 0 0) (Value.slice none 0 0) [] [] w0 := CJ.start hb0.lt (Own.nil _ _ _) (by simp [Value.ownBlock])
  have HX := Lib.hid hx
  have HBB := Lib.hid hb0
  have HV : Hid (∀ {cur : Value} {l : List UInt8} {xs : List Item} {W : World}, CJ w.heap.size w0 (Value.slice none 0 0) cur l xs W → (Ty.sl .u8).holds W F [vb] bs) := Lib.hid (fun h => (HX.out.trans h.ext).holds HFW.out HW.out)
  have HVF : Hid (∀ {cur : Value} {l : List UInt8} {xs : List Item} {W : World}, CJ w.heap.size w0 (Value.slice none 0 0) cur l xs W → ∀ b, F b → b < W.heap.size) := Lib.hid (fun h b hb => Nat.lt_of_lt_of_le (HFW.out b hb) (HX.out.trans h.ext).size)
  clear hb0 hx c0 c1
  refine takeK 0 rfl (by kernel_rfl) (by kernel_rfl) (by kernel_rfl) rfl (fun _ _ _ _ h => h) rfl (fun K hK => ?_)
  go_big_quiet_op
  first | refine hK _ ?_ | refine ⟨_, fun _ _ => rfl, hK _ ?_⟩
  clear hK K
  refine takeK 1 rfl (by kernel_rfl) (by kernel_rfl) (by kernel_rfl) rfl (fun _ _ _ _ h => h) rfl (fun K hK => ?_)
  go_big_quiet_op
  first | refine hK _ ?_ | refine ⟨_, fun _ _ => rfl, hK _ ?_⟩
  clear hK K
  refine takeK 2 rfl (by kernel_rfl) (by kernel_rfl) (by kernel_rfl) rfl (fun _ _ _ _ h => h) rfl (fun K hK => ?_)
  refine quiet_cell _ _ rfl _ rfl _ _ Try.underlying23 rfl (fun W' h => KeepB.cell h HK0.out rfl) ?_
  refine hK _ ?_
  simp only [Act.put, List.setIfInBounds_toArray, List.set_cons_succ, List.set_cons_zero]
  clear hK K
  refine takeK 4 rfl (by kernel_rfl) (by kernel_rfl) (by kernel_rfl) rfl (fun _ _ _ _ h => h) rfl (fun K hK => ?_)
  go_big_quiet_op
  first | refine hK _ ?_ | refine ⟨_, fun _ _ => rfl, hK _ ?_⟩
  clear hK K
  refine takeK 5 rfl (by kernel_rfl) (by kernel_rfl) (by kernel_rfl) rfl (fun _ _ _ _ h => h) rfl (fun K hK => ?_)
  refine quiet_cell _ _ rfl _ rfl _ _ Try.underlying3 rfl (fun W' h => KeepB.cell h HK1.out rfl) ?_
  refine hK _ ?_
  simp only [Act.put, List.setIfInBounds_toArray, List.set_cons_succ, List.set_cons_zero]
  clear hK K
  refine takeK 6 rfl (by kernel_rfl) (by kernel_rfl) (by kernel_rfl) rfl (fun _ _ _ _ h => h) rfl (fun K hK => ?_)
  go_big_quiet_op
  first | refine hK _ ?_ | refine ⟨_, fun _ _ => rfl, hK _ ?_⟩
  clear hK K
  apply lat2 (fun v8 v12 W => CJ w.heap.size w0 (.slice none 0 0) v8 (bs ++ be 8 c.1) [⟨.u8, [byteOf c.2.1], v12⟩] W)
  intro hM2
  apply lat1 (fun v12 W => CJ w.heap.size w0 (Value.slice none 0 0) (Value.slice none 0 0) [] [⟨.u8, [byteOf c.2.1], v12⟩] W)
  intro hM1
  apply lat1 (fun v8 W => CJ w.heap.size w0 (.slice none 0 0) v8 (bs ++ be 8 c.1) [] W)
  intro hM0
  · have HJ := Lib.hid hJ0
    refine manyM 3 [7] (by kernel_rfl) ⟨oneM rfl rfl (fun K hK => ?_), oneM rfl rfl (fun K hK => ?_), trivial⟩
    · go_simp
      refine (HJ.out.num0 vb bs F (HV.out HJ.out) (HVF.out HJ.out) c.1 8 hid (by omega) (by omega)).mono ?_
      rintro e W ⟨v8, rfl, hJ, hkb⟩
      have HJ := Lib.hid hJ
      clear hJ
      refine hK _ _ hkb ?_
      clear hK K
      exact hM0 v8 _ (HJ.out.sub (by intro x hx; cases hx))
    · refine HJ.out.mk1 42 (.tmp 11) rfl 5 Try.underlying42 .u8 (byteOf c.2.1) _ [Value.int .u8 ((byteOf c.2.1).toNat : Int)] rfl (by rw [byteOf_eq]; rfl) (fun _ _ => rfl) u8_size1 u8_zero1 (show 1 ≤ 16777216 by decide) (show 0 < 1 by decide) ?_
      intro v12 W hJ hkb
      have HJ := Lib.hid hJ
      clear hJ
      refine hK _ _ hkb ?_
      clear hK K
      (try simp only [Act.put, List.setIfInBounds_toArray, List.set_cons_succ, List.set_cons_zero])
      exact hM1 v12 _ (HJ.out.sub (by intro x hx; simp only [List.mem_cons, List.not_mem_nil, or_false] at hx; rcases hx with rfl <;> first | exact (.head _)))
  · intro v8 W hJ
    have HJ := Lib.hid hJ
    clear hJ
    refine stepM 7 rfl (by kernel_rfl) rfl (fun K hK => ?_)
    refine HJ.out.mk1 42 (.tmp 11) rfl 5 Try.underlying42 .u8 (byteOf c.2.1) _ [Value.int .u8 ((byteOf c.2.1).toNat : Int)] rfl (by rw [byteOf_eq]; rfl) (fun _ _ => rfl) u8_size1 u8_zero1 (show 1 ≤ 16777216 by decide) (show 0 < 1 by decide) ?_
    intro v12 W hJ hkb
    have HJ := Lib.hid hJ
    clear hJ
    refine hK _ _ hkb ?_
    clear hK K
    (try simp only [Act.put, List.setIfInBounds_toArray, List.set_cons_succ, List.set_cons_zero])
    exact hM2 v8 v12 _ (HJ.out.sub (by intro x hx; simp only [List.mem_cons, List.not_mem_nil, or_false] at hx; rcases hx with rfl <;> first | exact (.head _)))
  · intro v12 W hJ
    have HJ := Lib.hid hJ
    clear hJ
    refine stepM 3 rfl (by kernel_rfl) rfl (fun K hK => ?_)
    go_simp
    refine (HJ.out.num0 vb bs F (HV.out HJ.out) (HVF.out HJ.out) c.1 8 hid (by omega) (by omega)).mono ?_
    rintro e W ⟨v8, rfl, hJ, hkb⟩
    have HJ := Lib.hid hJ
    clear hJ
    refine hK _ _ hkb ?_
    clear hK K
    exact relist (by kernel_rfl) (hM2 v8 v12 _ (HJ.out.sub (by intro x hx; simp only [List.mem_cons, List.not_mem_nil, or_false] at hx; rcases hx with rfl <;> first | exact (.head _))))
  intro v8 v12 W hJ
  have HJ := Lib.hid hJ
  clear hJ
  refine stepM 8 rfl (by kernel_rfl) rfl (fun K hK => ?_)
  refine HJ.out.appI (.tmp 8) (.tmp 12) _ _ rfl Try.underlying42 Try.underlying42 rfl (.head _) rfl (by simp only [List.length_append, List.length_cons, List.length_nil, be_length]; omega) ?_
  intro v13 W hJ hkb
  have HJ := Lib.hid hJ
  clear hJ
  refine hK _ _ hkb ?_
  clear hK K
  (try simp only [Act.put, List.setIfInBounds_toArray, List.set_cons_succ, List.set_cons_zero])
  refine takeK 9 rfl (by kernel_rfl) (by kernel_rfl) (by kernel_rfl) rfl (fun _ _ _ _ h => h) rfl (fun K hK => ?_)
  go_big_quiet_op
  first | refine hK _ ?_ | refine ⟨_, fun _ _ => rfl, hK _ ?_⟩
  clear hK K
  refine doneM (by kernel_rfl) ?_ _
  have ho13 := HJ.out.own
  have hx13 : Ext w W := HX.out.trans HJ.out.ext
  have hb13 : Blk W w.heap.size 26 CC := by
    show W.heap[w.heap.size]? = _
    rw [HJ.out.blk (by simp [Value.ownBlock])]; exact HBB.out
  have hf13 : ∀ b, v13.ownBlock = some b → w.heap.size < b := fun b hb => by
    have h1 := (Fresh.new (w := w0) (w' := W) HJ.out.mv) b hb
    have h2 := HJ.out.lt
    omega
  have HO13 := Lib.hid ho13
  have HX13 := Lib.hid hx13
  have HB13 := Lib.hid hb13
  have HF13 := Lib.hid hf13
  clear HJ ho13 hx13 hb13 hf13 HV HVF
  go_wp2
  have hbq : Blk W.drew w.heap.size 26 CC := HB13.out
  have hxq : Ext w W.drew := HX13.out.drew
  have hoq : OwnB W.drew v13 ((bs ++ be 8 c.1) ++ [byteOf c.2.1]) := HO13.out.ext (Ext.refl _).drew
  refine startM (KeepB fun b => b = w.heap.size) (by kernel_rfl) ?_
  (try simp only [Act.put, List.setIfInBounds_toArray, List.set_cons_succ, List.set_cons_zero])
  generalize W.drew = wq at *
  have HK2 := Lib.hid ((hbq.cell 2).trans HC2.out)
  have hkh : Cells wq ⟨w.heap.size, 3, none⟩ (bv c.2.2.2.1) := by have h := (hbq.cells.drop 3).take 32; rw [HCH.out, addr_at] at h; exact h
  have HKH := Lib.hid hkh
  have hne : ∀ b, v13.ownBlock = some b → b ≠ w.heap.size := fun b hb e => by have := HF13.out b hb; omega
  have HNE := Lib.hid hne
  have hJ0 : CJ w.heap.size wq v13 v13 ((bs ++ be 8 c.1) ++ [byteOf c.2.1]) [] wq := CJ.start hbq.lt hoq hne
  have HXQ := Lib.hid hxq
  have HBQ := Lib.hid hbq
  clear hbq hxq hoq hkh hne
  refine takeK 0 rfl (by kernel_rfl) (by kernel_rfl) (by kernel_rfl) rfl (fun _ _ _ _ h => h) rfl (fun K hK => ?_)
  go_big_quiet_op
  first | refine hK _ ?_ | refine ⟨_, fun _ _ => rfl, hK _ ?_⟩
  clear hK K
  refine takeK 1 rfl (by kernel_rfl) (by kernel_rfl) (by kernel_rfl) rfl (fun _ _ _ _ h => h) rfl (fun K hK => ?_)
  go_big_quiet_op
  first | refine hK _ ?_ | refine ⟨_, fun _ _ => rfl, hK _ ?_⟩
  clear hK K
  refine takeK 2 rfl (by kernel_rfl) (by kernel_rfl) (by kernel_rfl) rfl (fun _ _ _ _ h => h) rfl (fun K hK => ?_)
  refine quiet_cell _ _ rfl _ rfl _ _ Try.underlying23 rfl (fun W' h => KeepB.cell h HK2.out rfl) ?_
  refine hK _ ?_
  simp only [Act.put, List.setIfInBounds_toArray, List.set_cons_succ, List.set_cons_zero]
  clear hK K
  refine takeK 4 rfl (by kernel_rfl) (by kernel_rfl) (by kernel_rfl) rfl (fun _ _ _ _ h => h) rfl (fun K hK => ?_)
  go_big_quiet_op
  first | refine hK _ ?_ | refine ⟨_, fun _ _ => rfl, hK _ ?_⟩
  clear hK K
  refine takeK 5 rfl (by kernel_rfl) (by kernel_rfl) (by kernel_rfl) rfl (fun _ _ _ _ h => h) rfl (fun K hK => ?_)
  go_big_quiet_op
  first | refine hK _ ?_ | refine ⟨_, fun _ _ => rfl, hK _ ?_⟩
  clear hK K
  apply lat1 (fun v17 W => CJ w.heap.size wq v13 v17 (((bs ++ be 8 c.1) ++ [byteOf c.2.1]) ++ be 8 c.2.2.1) [] W)
  intro hM0
  · have HJ := Lib.hid hJ0
    refine stepM 3 rfl (by kernel_rfl) rfl (fun K hK => ?_)
    go_simp
    refine (HJ.out.num c.2.2.1 8 ham (by omega) (by simp only [List.length_append, List.length_cons, List.length_nil, be_length]; omega)).mono ?_
    rintro e W ⟨v17, rfl, hJ, hkb⟩
    have HJ := Lib.hid hJ
    clear hJ
    refine hK _ _ hkb ?_
    clear hK K
    exact hM0 v17 _ (HJ.out.sub (by intro x hx; cases hx))
  intro v17 W hJ
  have HJ := Lib.hid hJ
  clear hJ
  refine stepM 6 rfl (by kernel_rfl) rfl (fun K hK => ?_)
  refine HJ.out.appS (.tmp 17) (.tmp 19) _ _ rfl Try.underlying42 Try.underlying42 rfl _ 32 32 c.2.2.2.1 rfl HH.out (fun _ => ⟨_, rfl, HKH.out.keep (HJ.out.blk HNE.out)⟩) (by simp only [List.length_append, List.length_cons, List.length_nil, be_length]; omega) ?_
  intro v20 W hJ hkb
  have HJ := Lib.hid hJ
  clear hJ
  refine hK _ _ hkb ?_
  clear hK K
  (try simp only [Act.put, List.setIfInBounds_toArray, List.set_cons_succ, List.set_cons_zero])
  refine takeK 7 rfl (by kernel_rfl) (by kernel_rfl) (by kernel_rfl) rfl (fun _ _ _ _ h => h) rfl (fun K hK => ?_)
  go_big_quiet_op
  first | refine hK _ ?_ | refine ⟨_, fun _ _ => rfl, hK _ ?_⟩
  clear hK K
  refine doneM (by kernel_rfl) ?_ _
  have ho20 := HJ.out.own
  have hfr : ∀ b, v13.ownBlock = some b → w.heap.size ≤ b := fun b hb => Nat.le_of_lt (HF13.out b hb)
  have hx20 : Ext w W := grown_then HXQ.out HJ.out.mv.grown (.inr hfr)
  have c35 : W.cell? ⟨w.heap.size, 35, none⟩ = some (.int .u64 (c.2.2.2.2.1 : Int)) := (World.cell?_of_block (HJ.out.blk HNE.out)).trans ((HBQ.out.cell 35).trans HC35.out)
  have HX20 := Lib.hid hx20
  have HO20 := Lib.hid ho20
  clear HJ hx20 ho20 hfr
  go_wp2_with (first
    | (go_at_call 23; refine (Ref_Num v20 _ c.2.2.2.2.1 8 _ _ (OwnB.holds HO20.out) (OwnB.lt HO20.out) hex (by omega) (by simp only [List.length_append, List.length_cons, List.length_nil, be_length, HH.out]; omega)).mono ?_; rintro e w24 ⟨v24, rfl, ho24, hf24⟩)
    | fail)
  go_ret
  exact ⟨_, rfl, by simpa [condB] using ho24, ⟨HX20.out.trans (Fresh.ext hf24), .inr fun b hb => Nat.le_trans HX20.out.size (Fresh.new hf24 b hb)⟩⟩
end Go.Proofs.Ytemladlnpaaefaa

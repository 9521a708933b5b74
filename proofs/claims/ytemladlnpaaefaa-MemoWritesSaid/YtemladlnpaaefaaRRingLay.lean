/- The walk of the document's Lay of layer 5. Conditions: the pieces are 1024 bytes; the bytes aren't too many. -/
import Derived.Test.YtemladlnpaaefaaRCond
import Derived.Test.YtemladlnpaaefaaRLampLay
import Derived.Test.YtemladlnpaaefaaRingLay
set_option linter.unusedVariables false
set_option linter.unusedSimpArgs false
set_option linter.unnecessarySimpa false
namespace Go.Proofs.Ytemladlnpaaefaa
open Go.RowKit

theorem szRLampL {n : Nat} (h : n = 1024) : (Try.prog.info? 34).map (·.size) = some n := by subst h; kernel_rfl
theorem flat_digs : ∀ ds : List Dg, (∀ d ∈ ds, List.length (α := UInt8) d = 32) → (List.flatMap id ds).length = 32 * List.length (α := Dg) ds
  | [], _ => rfl
  | d :: ds, h => by
    show (d ++ List.flatMap id ds).length = 32 * (List.length (α := Dg) ds + 1)
    have h1 := h d (by simp)
    have h2 := flat_digs ds (fun x hx => h x (by simp [hx]))
    rw [List.length_append, h2]
    have h1 : (d : List UInt8).length = 32 := h1
    omega
set_option maxRecDepth 100000 in
set_option maxHeartbeats 8000000 in
theorem RRing_Lay (BB : List UInt8) (key : Nat) (u : Value) (ds : List Dg) (vb : Value) (bs : List UInt8) (w : World) (F : Fp) (hB : BB.length = 1024) (hkey : (Lit.int .u32 (key : Int)).wf = true) (hu : Ways w F u ds) (hv : (Ty.sl .u8).holds w F [vb] bs) (hF : ∀ b, F b → b < w.heap.size) (hb : bs.length + 32 * List.length (α := Dg) ds ≤ 140737488350000) :
    Calls Try.prog 26 #[vb, .agg (sigC (bv BB) key u).toArray] w fun e w' => ∃ v', e = .returned v' ∧ OwnB w' v' (bs ++ sigB BB key ds) ∧ Fresh w w' v' := by
  obtain ⟨i0, hi, hz0, hz1, hz2⟩ := info_parts u8_info
  obtain ⟨A, d, xs, hvu, hld, hdm, hA, hcell, hall⟩ := ways_open hu
  subst hvu
  clear hu
  unfold maxLen at hdm
  have hdig := (digs_iff.1 hall).2
  have hk32 := bounds_u32 hkey
  have hk64 : key < 18446744073709551616 := by omega
  have hkw : ((key : Nat) : Int) % 18446744073709551616 = key := by omega
  have hcl : (bv BB).length = 1024 := by rw [bv_length]; exact hB
  have hls : (layS BB 32).length = 1024 := layS_len hB 32 (by omega)
  have k1024 := sigC_key hcl key (.slice A (List.length (α := Dg) ds) d)
  have k1025 := sigC_way hcl key (.slice A (List.length (α := Dg) ds) d)
  have kc := sigC_take hcl key (.slice A (List.length (α := Dg) ds) d)
  generalize sigC (bv BB) key (.slice A (List.length (α := Dg) ds) d) = SC at *
  have hb0 : Blk (w.alloc (.cells SC.toArray 37)) w.heap.size 37 SC := Blk.new _ _ _
  have hx0 : Ext w (w.alloc (.cells SC.toArray 37)) := (Ext.refl w).alloc _
  have HB := Lib.hid hB
  have HLS := Lib.hid hls
  have HB0 := Lib.hid hb0
  have HX0 := Lib.hid hx0
  have HW := Lib.hid hv
  have HFW := Lib.hid hF
  have HK25 := Lib.hid k1025
  have HKC := Lib.hid kc
  have HDIG := Lib.hid hdig
  clear hb0 hx0 hv hcl hls k1025 kc hdig
  go_enter Try.func26, Try.ntmps26
  go_wp2
  have hb0 : Blk (w.alloc (.cells SC.toArray 37)).drew w.heap.size 37 SC := HB0.out
  have hx : Ext w (w.alloc (.cells SC.toArray 37)).drew := HX0.out.drew
  refine startM (KeepB fun b => b = w.heap.size) (by kernel_rfl) ?_
  (try simp only [Act.put, List.setIfInBounds_toArray, List.set_cons_succ, List.set_cons_zero])
  generalize (w.alloc (.cells SC.toArray 37)).drew = w0 at *
  have HK1024 := Lib.hid ((hb0.cell 1024).trans k1024)
  have HK1025 := Lib.hid ((hb0.cell 1025).trans HK25.out)
  have hJ0 : CJ w.heap.size w0 (Value.slice none 0 0) (Value.slice none 0 0) [] [] w0 := CJ.start hb0.lt (Own.nil _ _ _) (by simp [Value.ownBlock])
  have HX := Lib.hid hx
  have HBB := Lib.hid hb0
  have HV : Hid (∀ {cur : Value} {l : List UInt8} {xs : List Item} {W : World}, CJ w.heap.size w0 (Value.slice none 0 0) cur l xs W → (Ty.sl .u8).holds W F [vb] bs) := Lib.hid (fun h => (HX.out.trans h.ext).holds HFW.out HW.out)
  have HVF : Hid (∀ {cur : Value} {l : List UInt8} {xs : List Item} {W : World}, CJ w.heap.size w0 (Value.slice none 0 0) cur l xs W → ∀ b, F b → b < W.heap.size) := Lib.hid (fun h b hb => Nat.lt_of_lt_of_le (HFW.out b hb) (HX.out.trans h.ext).size)
  clear hb0 hx k1024
  refine takeK 0 rfl (by kernel_rfl) (by kernel_rfl) (by kernel_rfl) rfl (fun _ _ _ _ h => h) rfl (fun K hK => ?_)
  go_big_quiet_op
  first | refine hK _ ?_ | refine ⟨_, fun _ _ => rfl, hK _ ?_⟩
  clear hK K
  refine takeK 1 rfl (by kernel_rfl) (by kernel_rfl) (by kernel_rfl) rfl (fun _ _ _ _ h => h) rfl (fun K hK => ?_)
  go_big_quiet_op
  first | refine hK _ ?_ | refine ⟨_, fun _ _ => rfl, hK _ ?_⟩
  clear hK K
  refine takeK 2 rfl (by kernel_rfl) (by kernel_rfl) (by kernel_rfl) rfl (fun _ _ _ _ h => h) rfl (fun K hK => ?_)
  refine quiet_cell _ _ rfl _ rfl _ _ Try.underlying22 rfl (fun W' h => KeepB.cell h HK1024.out rfl) ?_
  refine hK _ ?_
  simp only [Act.put, List.setIfInBounds_toArray, List.set_cons_succ, List.set_cons_zero]
  clear hK K
  refine takeK 3 rfl (by kernel_rfl) (by kernel_rfl) (by kernel_rfl) rfl (fun _ _ _ _ h => h) rfl (fun K hK => ?_)
  go_big_quiet_op
  first | refine hK _ ?_ | refine ⟨_, fun _ _ => rfl, hK _ ?_⟩
  clear hK K
  refine takeK 5 rfl (by kernel_rfl) (by kernel_rfl) (by kernel_rfl) rfl (fun _ _ _ _ h => h) rfl (fun K hK => ?_)
  go_big_quiet_op
  first | refine hK _ ?_ | refine ⟨_, fun _ _ => rfl, hK _ ?_⟩
  clear hK K
  refine takeK 6 rfl (by kernel_rfl) (by kernel_rfl) (by kernel_rfl) rfl (fun _ _ _ _ h => h) rfl (fun K hK => ?_)
  refine quiet_cell _ _ rfl _ rfl _ _ Try.underlying35 rfl (fun W' h => KeepB.cell h HK1025.out rfl) ?_
  refine hK _ ?_
  simp only [Act.put, List.setIfInBounds_toArray, List.set_cons_succ, List.set_cons_zero]
  clear hK K
  refine takeK 7 rfl (by kernel_rfl) (by kernel_rfl) (by kernel_rfl) rfl (fun _ _ _ _ h => h) rfl (fun K hK => ?_)
  go_big_quiet_op
  first | refine hK _ ?_ | refine ⟨_, fun _ _ => rfl, hK _ ?_⟩
  clear hK K
  refine takeK 8 rfl (by kernel_rfl) (by kernel_rfl) (by kernel_rfl) rfl (fun _ _ _ _ h => h) rfl (fun K hK => ?_)
  go_big_quiet_op
  first | refine hK _ ?_ | refine ⟨_, fun _ _ => rfl, hK _ ?_⟩
  clear hK K
  apply lat2 (fun v11 v16 W => CJ w.heap.size w0 (.slice none 0 0) v11 (bs ++ be 4 key) [⟨.u8, [byteOf ((List.length (α := Dg) ds : Nat) : Int)], v16⟩] W)
  intro hM2
  apply lat1 (fun v16 W => CJ w.heap.size w0 (Value.slice none 0 0) (Value.slice none 0 0) [] [⟨.u8, [byteOf ((List.length (α := Dg) ds : Nat) : Int)], v16⟩] W)
  intro hM1
  apply lat1 (fun v11 W => CJ w.heap.size w0 (.slice none 0 0) v11 (bs ++ be 4 key) [] W)
  intro hM0
  · have HJ := Lib.hid hJ0
    refine manyM 4 [9] (by kernel_rfl) ⟨oneM rfl rfl (fun K hK => ?_), oneM rfl rfl (fun K hK => ?_), trivial⟩
    · go_simp
      (try simp only [hkw])
      refine (HJ.out.num0 vb bs F (HV.out HJ.out) (HVF.out HJ.out) key 4 hk64 (by omega) (by omega)).mono ?_
      rintro e W ⟨v11, rfl, hJ, hkb⟩
      have HJ := Lib.hid hJ
      clear hJ
      refine hK _ _ hkb ?_
      clear hK K
      exact hM0 v11 _ (HJ.out.sub (by intro x hx; cases hx))
    · refine HJ.out.mk1 42 (.tmp 15) rfl 5 Try.underlying42 .u8 (byteOf ((List.length (α := Dg) ds : Nat) : Int)) _ [Value.int .u8 ((byteOf ((List.length (α := Dg) ds : Nat) : Int)).toNat : Int)] rfl (by rw [byteOf_eq]; rfl) (fun _ _ => rfl) u8_size1 u8_zero1 (show 1 ≤ 16777216 by decide) (show 0 < 1 by decide) ?_
      intro v16 W hJ hkb
      have HJ := Lib.hid hJ
      clear hJ
      refine hK _ _ hkb ?_
      clear hK K
      (try simp only [Act.put, List.setIfInBounds_toArray, List.set_cons_succ, List.set_cons_zero])
      exact hM1 v16 _ (HJ.out.sub (by intro x hx; simp only [List.mem_cons, List.not_mem_nil, or_false] at hx; rcases hx with rfl <;> first | exact (.head _)))
  · intro v11 W hJ
    have HJ := Lib.hid hJ
    clear hJ
    refine stepM 9 rfl (by kernel_rfl) rfl (fun K hK => ?_)
    refine HJ.out.mk1 42 (.tmp 15) rfl 5 Try.underlying42 .u8 (byteOf ((List.length (α := Dg) ds : Nat) : Int)) _ [Value.int .u8 ((byteOf ((List.length (α := Dg) ds : Nat) : Int)).toNat : Int)] rfl (by rw [byteOf_eq]; rfl) (fun _ _ => rfl) u8_size1 u8_zero1 (show 1 ≤ 16777216 by decide) (show 0 < 1 by decide) ?_
    intro v16 W hJ hkb
    have HJ := Lib.hid hJ
    clear hJ
    refine hK _ _ hkb ?_
    clear hK K
    (try simp only [Act.put, List.setIfInBounds_toArray, List.set_cons_succ, List.set_cons_zero])
    exact hM2 v11 v16 _ (HJ.out.sub (by intro x hx; simp only [List.mem_cons, List.not_mem_nil, or_false] at hx; rcases hx with rfl <;> first | exact (.head _)))
  · intro v16 W hJ
    have HJ := Lib.hid hJ
    clear hJ
    refine stepM 4 rfl (by kernel_rfl) rfl (fun K hK => ?_)
    go_simp
    (try simp only [hkw])
    refine (HJ.out.num0 vb bs F (HV.out HJ.out) (HVF.out HJ.out) key 4 hk64 (by omega) (by omega)).mono ?_
    rintro e W ⟨v11, rfl, hJ, hkb⟩
    have HJ := Lib.hid hJ
    clear hJ
    refine hK _ _ hkb ?_
    clear hK K
    exact relist (by kernel_rfl) (hM2 v11 v16 _ (HJ.out.sub (by intro x hx; simp only [List.mem_cons, List.not_mem_nil, or_false] at hx; rcases hx with rfl <;> first | exact (.head _))))
  intro v11 v16 W hJ
  have HJ := Lib.hid hJ
  clear hJ
  refine stepM 10 rfl (by kernel_rfl) rfl (fun K hK => ?_)
  refine HJ.out.appI (.tmp 11) (.tmp 16) _ _ rfl Try.underlying42 Try.underlying42 rfl (.head _) rfl (by simp only [List.length_append, List.length_cons, List.length_nil, be_length]; omega) ?_
  intro v17 W hJ hkb
  have HJ := Lib.hid hJ
  clear hJ
  refine hK _ _ hkb ?_
  clear hK K
  (try simp only [Act.put, List.setIfInBounds_toArray, List.set_cons_succ, List.set_cons_zero])
  refine takeK 11 rfl (by kernel_rfl) (by kernel_rfl) (by kernel_rfl) rfl (fun _ _ _ _ h => h) rfl (fun K hK => ?_)
  go_big_quiet_op
  first | refine hK _ ?_ | refine ⟨_, fun _ _ => rfl, hK _ ?_⟩
  clear hK K
  refine doneM (by kernel_rfl) ?_ _
  have ho17 := HJ.out.own
  have hx17 : Ext w W := HX.out.trans HJ.out.ext
  have hb17 : Blk W w.heap.size 37 SC := by
    show W.heap[w.heap.size]? = _
    rw [HJ.out.blk (by simp [Value.ownBlock])]; exact HBB.out
  have hcs : Cells W ⟨w.heap.size, 0, none⟩ (bv BB) := by have h := hb17.cells.take 1024; rw [HKC.out] at h; exact h
  obtain ⟨bs1, hbs1⟩ : ∃ bs1, bs1 = ((bs ++ be 4 key) ++ [byteOf ((List.length (α := Dg) ds : Nat) : Int)]) := ⟨_, rfl⟩
  rw [← hbs1] at ho17
  have hl1 : bs1.length = bs.length + 5 := by rw [hbs1]; simp [be_length]
  have HO17 := Lib.hid ho17
  have HX17 := Lib.hid hx17
  have HB17 := Lib.hid hb17
  have HBS1 := Lib.hid hbs1
  have HL1 := Lib.hid hl1
  clear HJ ho17 hx17 hb17 HV HVF hbs1 hl1
  go_wp2_with (first
    | (refine wpList_load_agg _ rfl 34 (.tmp 19) rfl _ rfl (bv BB) _ Try.underlying34 rfl (szRLampL (by rw [bv_length]; exact HB.out)) hcs ?_)
    | (go_at_call 39; refine (RLamp_Lay BB v17 bs1 _ _ HB.out (OwnB.holds HO17.out) (OwnB.lt HO17.out) (by have := HL1.out; omega)).mono ?_; rintro e w21 ⟨v21, rfl, ho21, hx21, hn21⟩)
    | fail)
  have hb21 := HB17.out.keep hx21 (by simp)
  have hxw : Ext w w21 := HX17.out.trans hx21
  have hfr : ∀ b, v21.ownBlock = some b → w.heap.size + 1 ≤ b := fun b hb => by have h1 := hn21 b hb; have h2 := HB17.out.lt; omega
  have HO21 := Lib.hid ho21
  have HB21 := Lib.hid hb21
  have HXW := Lib.hid hxw
  have HFR := Lib.hid hfr
  clear ho21 hx21 hn21 hb21 hxw hfr hcs
  go_loopw [5, 6] (fun t i wr => ∃ k : Nat, k ≤ List.length (α := Dg) ds ∧ i = .int .i64 k ∧ OwnB wr t ((bs1 ++ layS BB 32) ++ List.flatMap id (ds.take k)) ∧ Ext w wr ∧ Blk wr w.heap.size 37 SC ∧ (∀ b, t.ownBlock = some b → w.heap.size + 1 ≤ b)) (fun _ i _ => List.length (α := Dg) ds - (intOf i).toNat)
  case atStart => exact ⟨0, by omega, rfl, by simpa using HO21.out, HXW.out, HB21.out, HFR.out⟩
  case round =>
    clear HO21 HXW HB21 HFR
    obtain ⟨k, hk, rfl, hot, hxt, hbt, hft⟩ := hrel
    have c1025 := (hbt.cell 1025).trans HK25.out
    by_cases hlt : k < List.length (α := Dg) ds
    · obtain ⟨ad, rfl, hf, hcells⟩ := hcell (by omega)
      obtain ⟨hcc, hdl⟩ := digs_at hall (hcells.keep (hxt.same HFW.out _ hf)) hlt
      have htk : ds.take (k + 1) = ds.take k ++ [ds[k]] := List.take_succ_eq_append_getElem hlt
      have htl : List.length (α := Dg) (ds.take k) = k := by rw [List.length_take]; omega
      have hfl : (List.flatMap id (ds.take k)).length = 32 * k := by rw [flat_digs _ (fun d hd => HDIG.out d (List.mem_of_mem_take hd)), htl]
      have hll : ((bs1 ++ layS BB 32) ++ List.flatMap id (ds.take k)).length = bs.length + 1029 + 32 * k := by rw [List.length_append, List.length_append, hfl, HLS.out, HL1.out]
      have hstep : List.flatMap id (ds.take (k + 1)) = List.flatMap id (ds.take k) ++ ds[k] := by rw [htk, List.flatMap_append]; simp
      have hdl' : (ds[k] : List UInt8).length = 32 := hdl
      generalize hdk : ds[k] = dk at *
      obtain ⟨bs2, hbs2⟩ : ∃ bs2, bs2 = (bs1 ++ layS BB 32) ++ List.flatMap id (ds.take k) := ⟨_, rfl⟩
      rw [← hbs2] at hot hll
      have HO := Lib.hid hot
      have HX2 := Lib.hid hxt
      have HB2 := Lib.hid hbt
      have HF2 := Lib.hid hft
      have HLL := Lib.hid hll
      have HST := Lib.hid hstep
      have HDL := Lib.hid hdl'
      have HBS2 := Lib.hid hbs2
      clear hot hxt hbt hft hll hstep hdl hdl' hbs2 htk htl hfl hcells hdk
      go_wp2_with (first
        | (at_builtin
           go_must (refine wpList_app _ rfl (.tmp 29) (.tmp 34) _ _ rfl 5 5 i0 _ 1 1 Try.underlying42 Try.underlying42 hi hz0 hz1 hz2 rfl (by decide) u5 _ _ rfl HO.out _ 32 32 (bv dk) rfl (by simp [HDL.out]) (fun _ => ⟨_, rfl, hcc⟩) (bv_one _) (by have := HLL.out; unfold maxLen; omega) (by have := HLL.out; omega) ?_)
           intro v8 w8 ho8 hm8)
        | fail)
      have ho8' : OwnB w8 v8 ((bs1 ++ layS BB 32) ++ List.flatMap id (ds.take (k + 1))) := by
        rw [HST.out, ← List.append_assoc, ← HBS2.out]
        exact OwnB.app (by rw [HDL.out]; exact ho8)
      have hne8 : some w.heap.size ≠ u5.ownBlock := fun e => absurd (HF2.out _ e.symm) (by omega)
      have hb8 := HB2.out.keep hm8.grown hne8
      have hx8 : Ext w w8 := grown_then HX2.out hm8.grown (.inr fun b hb => by have := HF2.out b hb; omega)
      have hf8 : ∀ b, v8.ownBlock = some b → w.heap.size + 1 ≤ b := fun b hb => by
        rcases hm8.at_ with e | hn
        · exact HF2.out b (e.symm.trans hb)
        · have h1 := hn b hb
          have h2 := HB2.out.lt
          omega
      have HO8 := Lib.hid ho8'
      have HB8 := Lib.hid hb8
      have HX8 := Lib.hid hx8
      have HF8 := Lib.hid hf8
      clear ho8 ho8' hb8 hx8 hf8 hm8
      go_roundw
      case rel => exact ⟨k + 1, by omega, by go_num, HO8.out, HX8.out, HB8.out, HF8.out⟩
      case measure => simp [intOf]; omega
    · obtain rfl : k = List.length (α := Dg) ds := by omega
      go_wp2
      go_ret
      have htk : ds.take (List.length (α := Dg) ds) = ds := List.take_length
      rw [htk] at hot
      exact ⟨_, rfl, by simpa [sigB, HBS1.out] using hot, ⟨hxt, .inr fun b hb => by have := hft b hb; omega⟩⟩
end Go.Proofs.Ytemladlnpaaefaa

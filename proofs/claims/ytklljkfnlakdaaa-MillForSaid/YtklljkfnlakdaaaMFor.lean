/- MillFor: for every input the law returns true. -/
import Derived.Test.YtklljkfnlakdaaaRlock
import Derived.Test.YtklljkfnlakdaaaRmake
import Derived.Test.YtklljkfnlakdaaaQuiet
import Derived.Test.YtklljkfnlakdaaaMAwake
import Derived.Outline
set_option linter.unusedVariables false
set_option linter.unusedSimpArgs false
set_option linter.unnecessarySimpa false
namespace Go.Proofs.Ytklljkfnlakdaaa
open Go.RowKit

/-- How many bytes the first parts have. -/
def totalF (ps : List (List UInt8)) : Nat := (ps.flatMap id).length
theorem totalF_step (ps : List (List UInt8)) (k : Nat) (h : k < ps.length) : totalF (ps.take (k + 1)) = totalF (ps.take k) + ps[k].length := by
  unfold totalF; rw [flat_step _ _ _ h, List.length_append]; rfl
theorem totalF_le (ps : List (List UInt8)) (M : Nat) (h : ∀ p ∈ ps, p.length ≤ M) : ∀ k, k ≤ ps.length → totalF (ps.take k) ≤ k * M
  | 0, _ => by simp [totalF]
  | k + 1, hk => by
    have := totalF_le ps M h k (by omega)
    rw [totalF_step ps k (by omega), Nat.succ_mul]
    have := h ps[k] (List.getElem_mem _)
    omega
theorem blob_total (ps : List (List UInt8)) : (ps.flatMap blob).length = totalF ps + 4 * ps.length := by
  induction ps with
  | nil => rfl
  | cons p ps ih =>
    unfold totalF at *
    rw [List.flatMap_cons, List.length_append, ih, List.flatMap_cons, List.length_append, List.length_cons]
    simp [blob, be_length]; omega

set_option maxHeartbeats 1000000 in
theorem mfor_big (d : UInt8) (v : Value) (ps : List (List UInt8)) (s : List UInt8) (w : World) (F : Fp) (hp : (Ty.sl (.sl .u8)).holds w F [v] ps) (hF : ∀ b, F b → b < w.heap.size) (h300 : 300 < ps.length) :
    Calls Try.prog 6 #[.int .u8 d.toNat, v, .agg (bv s).toArray] w fun e w' => e = .returned (.bool true) ∧ Ext w w' := by
  obtain ⟨A, c, xs, hv, hlc, hc, hA, hcell, hall⟩ := hp
  cases hv
  unfold maxLen at hc
  generalize bv s = B
  go_enter Try.func6, Try.ntmps6
  go_wp2
  have hx0 : Ext w (w.alloc (.cells B.toArray 24)) := (Ext.refl w).alloc _
  go_loopw [7, 13] (fun n i wr => ∃ k : Nat, k ≤ ps.length ∧ i = .int .i64 k ∧ Ext w wr ∧ ∃ m : Int, n = .int .i64 m) (fun _ i _ => ps.length - (intOf i).toNat)
  case atStart => exact ⟨0, by omega, rfl, hx0, _, rfl⟩
  case round =>
    clear hx0
    obtain ⟨k, hk, rfl, hx, m, rfl⟩ := hrel
    by_cases hlt : k < ps.length
    · obtain ⟨ad, rfl, hf, hcells⟩ := hcell (by rintro rfl; simp at hlt)
      obtain ⟨y, hy, hyh⟩ := AllH.sl_at hall hlt
      have hcx := (hcells.keep (hx.same hF _ hf)) k _ hy
      obtain ⟨A1, c1, xs1, hv1, hlc1, hc1, _⟩ := hyh
      cases hv1
      go_wp2
      go_roundw
      case rel => exact ⟨k + 1, by omega, by go_num, hx, _, rfl⟩
      case measure => simp [intOf]; omega
    · obtain rfl : k = ps.length := by omega
      by_cases hm : 5000 < m
      all_goals
        go_wp2_with fail
        refine (awake_true _).mono ?_
        rintro e w2 ⟨rfl, hx2⟩
        go_wp2
        go_ret
        exact ⟨rfl, hx.trans hx2⟩

set_option maxRecDepth 100000 in
set_option maxHeartbeats 2000000 in
theorem mfor_small (d : UInt8) (v : Value) (ps : List (List UInt8)) (s : List UInt8) (hs : s.length = 32) (w : World) (F : Fp) (hp : (Ty.sl (.sl .u8)).holds w F [v] ps) (hF : ∀ b, F b → b < w.heap.size) (h300 : ps.length ≤ 300) (hr : ∀ p ∈ ps, p.length ≤ 140737488351232) :
    Calls Try.prog 6 #[.int .u8 d.toNat, v, .agg (bv s).toArray] w fun e w' => e = .returned (.bool true) ∧ Ext w w' := by
  have hp0 := hp
  obtain ⟨A, c, xs, hv, hlc, hc, hA, hcell, hall⟩ := hp
  cases hv
  unfold maxLen at hc
  have hu8 : (Try.prog.info? 5).map (·.size) = some 1 := by kernel_rfl
  have hgt : Try.prog.eqGuardType Try.prog.depth 25 = false := by kernel_rfl
  have hgt2 : Try.prog.eqGuardType Try.prog.depth 42 = false := by kernel_rfl
  have hbs : ∀ {n : Nat}, n = 2 → (Try.prog.info? 28).map (·.size) = some n := by rintro _ rfl; kernel_rfl
  have htl := totalF_le ps _ hr
  have HTL := Lib.hid htl
  have HP0 := Lib.hid hp0
  have hBl : (bv s).length = 32 := by rw [bv_length, hs]
  have HBL := Lib.hid hBl
  have HS := Lib.hid hs
  clear htl hp0 hBl hs
  go_enter Try.func6, Try.ntmps6
  go_wp2
  have hx0 : Ext w (w.alloc (.cells (bv s).toArray 24)) := (Ext.refl w).alloc _
  have hb0 : Blk (w.alloc (.cells (bv s).toArray 24)) w.heap.size 24 (bv s) := Blk.new _ _ _
  go_loopw [7, 13] (fun n i wr => ∃ k : Nat, k ≤ ps.length ∧ i = .int .i64 k ∧ Ext w wr ∧ Blk wr w.heap.size 24 (bv s) ∧ n = .int .i64 (totalF (ps.take k) : Nat)) (fun _ i _ => ps.length - (intOf i).toNat)
  case atStart => exact ⟨0, by omega, rfl, hx0, hb0, rfl⟩
  case round =>
    clear hx0 hb0
    obtain ⟨k, hk, rfl, hx, hb, rfl⟩ := hrel
    by_cases hlt : k < ps.length
    · obtain ⟨ad, rfl, hf, hcells⟩ := hcell (by rintro rfl; simp at hlt)
      obtain ⟨y, hy, hyh⟩ := AllH.sl_at hall hlt
      have hcx := (hcells.keep (hx.same hF _ hf)) k _ hy
      obtain ⟨A1, c1, xs1, hv1, hlc1, hc1, _⟩ := hyh
      cases hv1
      have hst := totalF_step ps k hlt
      have hb1 := HTL.out k hk
      have hb2 := hr ps[k] (List.getElem_mem hlt)
      have hb3 : k * 140737488351232 ≤ 300 * 140737488351232 := Nat.mul_le_mul_right _ (by omega)
      have HST := Lib.hid hst
      have HB := Lib.hid hb
      clear hst hb
      generalize totalF (ps.take k) = T at hb1 HST ⊢
      go_wp2
      go_roundw
      case rel => exact ⟨k + 1, by omega, by go_num, hx, HB.out, by rw [HST.out]; go_num⟩
      case measure => simp [intOf]; omega
    · obtain rfl : k = ps.length := by omega
      have ht : totalF (ps.take ps.length) = totalF ps := by rw [List.take_length]
      rw [ht]
      have htb := blob_total ps
      generalize hT : totalF ps = T at htb ⊢
      have HTB := Lib.hid htb
      have HB := Lib.hid hb
      clear hT ht htb hb
      by_cases hbig : 5000 < T
      · go_wp2_with fail
        refine (awake_true _).mono ?_
        rintro e w2 ⟨rfl, hx2⟩
        go_wp2
        go_ret
        exact ⟨rfl, hx.trans hx2⟩
      · go_wp2_with fail
        refine (Ref_Make _).mono ?_
        rintro e w1 ⟨rfl, hx1⟩
        have hb1 := HB.out.keep hx1 (by simp)
        go_wp2
        have hx2 : Ext w (w1.alloc (.cells #[Value.string tabFirst, Value.string tabRounds] 28)) := (hx.trans hx1).alloc _
        have hb2 : Blk (w1.alloc (.cells #[Value.string tabFirst, Value.string tabRounds] 28)) w.heap.size 24 (bv s) := Blk.keep hb1 ((Ext.refl _).alloc _) (by simp)
        have ht2 : Blk (w1.alloc (.cells #[Value.string tabFirst, Value.string tabRounds] 28)) w1.heap.size 28 [Value.string tabFirst, Value.string tabRounds] := Blk.new _ _ _
        generalize w1.alloc (.cells #[Value.string tabFirst, Value.string tabRounds] 28) = W2 at hx2 hb2 ht2 ⊢
        have hbl : (ps.flatMap blob).length ≤ 6200 := by have := HTB.out; omega
        have hA : ∀ W, Since W2 W → Calls Try.prog 9 #[] W fun e W' => e = .returned (.bool true) ∧ Since W2 W' := fun W h => (awake_true W).mono fun e W' ⟨h1, h2⟩ => ⟨h1, Ext.trans h h2⟩
        have hB : ∀ W, Since W2 W → Calls Try.prog 17 #[.int .u8 d.toNat, .slice A ps.length c] W fun e W' => e = .returned (.agg (bv (sha (textM d ps))).toArray) ∧ Since W2 W' := fun W h => (For d _ ps W F ((hx2.trans h).holds hF HP0.out) (fun b hb => Nat.lt_of_lt_of_le (hF b hb) (hx2.trans h).size) (by omega)).mono fun e W' ⟨h1, h2⟩ => ⟨h1, Ext.trans h h2⟩
        have hC : ∀ W, Since W2 W → Calls Try.prog 18 #[.agg #[.string tabFirst, .string tabRounds], .int .u8 d.toNat, .slice A ps.length c] W fun e W' => e = .returned (.agg (bv (sha (textM d ps))).toArray) ∧ Since W2 W' := fun W h => (Ref_For tabFirst tabRounds d _ ps W F tab_first tab_rounds ((hx2.trans h).holds hF HP0.out) (fun b hb => Nat.lt_of_lt_of_le (hF b hb) (hx2.trans h).size) (by omega)).mono fun e W' ⟨h1, h2⟩ => ⟨h1, Ext.trans h h2⟩
        have hL : ∀ W, Since W2 W → Calls Try.prog 19 #[.agg (bv s).toArray] W fun e W' => e = .returned (.agg (bv (sha (textM 6 [s]))).toArray) ∧ Since W2 W' := fun W h => (Lock s HS.out W).mono fun e W' ⟨h1, h2⟩ => ⟨h1, Ext.trans h h2⟩
        have hM : ∀ W, Since W2 W → Calls Try.prog 20 #[.agg #[.string tabFirst, .string tabRounds], .agg (bv s).toArray] W fun e W' => e = .returned (.agg (bv (sha (textM 6 [s]))).toArray) ∧ Since W2 W' := fun W h => (Ref_Lock tabFirst tabRounds s HS.out W tab_first tab_rounds).mono fun e W' ⟨h1, h2⟩ => ⟨h1, Ext.trans h h2⟩
        have hl1 : (sha (textM d ps)).length = 32 := sha_length _
        have hl2 : (sha (textM 6 [s])).length = 32 := sha_length _
        generalize sha (textM d ps) = D1 at hB hC hl1
        generalize sha (textM 6 [s]) = D2 at hL hM hl2
        have HA := Lib.hid hA
        have HB1 := Lib.hid hB
        have HC := Lib.hid hC
        have HL := Lib.hid hL
        have HM := Lib.hid hM
        have H1 := Lib.hid hl1
        have H2 := Lib.hid hl2
        have HX := Lib.hid hx2
        have HB2 := Lib.hid hb2
        have HT2 := Lib.hid ht2
        clear hA hB hC hL hM hl1 hl2 hx hx1 hx2 hb1 hb2 ht2
        have lay : True := trivial
        refine wp_region_since (by kernel_rfl) (by kernel_rfl) ?_
        go_big_quiet_step (exact HA.out _)
        repeat (go_big_quiet_step (exact HB1.out _))
        go_big_quiet_want
        refine quiet_agg 28 (.tmp 10) rfl _ rfl [Value.string tabFirst, Value.string tabRounds] _ Try.underlying28 rfl (hbs rfl) (fun W h => HT2.out.cells.keep (h.ext.block _ HT2.out.lt (by simp))) ?_
        simp only [Act.put, List.setIfInBounds_toArray, List.set_cons_succ, List.set_cons_zero]
        go_big_quiet_on
        repeat (go_big_quiet_step (exact HC.out _))
        go_big_quiet_want
        refine quiet_eqSame 25 _ (.tmp 35) (.tmp 39) rfl 5 32 Try.underlying25 Try.underlying5 hu8 hgt D1 rfl rfl H1.out ?_
        simp only [Act.put, List.setIfInBounds_toArray, List.set_cons_succ, List.set_cons_zero]
        go_big_quiet_on
        repeat (go_big_quiet_step (exact fun _ => rfl))
        go_big_quiet_want
        refine quiet_agg 24 (.tmp 5) rfl _ rfl (bv s) _ Try.underlying24 rfl (by rw [HBL.out]; kernel_rfl) (fun W h => HB2.out.cells.keep (h.ext.block _ HB2.out.lt (by simp))) ?_
        simp only [Act.put, List.setIfInBounds_toArray, List.set_cons_succ, List.set_cons_zero]
        go_big_quiet_on
        repeat (go_big_quiet_step (first | exact fun _ => rfl | exact HL.out _))
        go_big_quiet_want
        refine quiet_agg 28 (.tmp 10) rfl _ rfl [Value.string tabFirst, Value.string tabRounds] _ Try.underlying28 rfl (hbs rfl) (fun W h => HT2.out.cells.keep (h.ext.block _ HT2.out.lt (by simp))) ?_
        simp only [Act.put, List.setIfInBounds_toArray, List.set_cons_succ, List.set_cons_zero]
        go_big_quiet_on
        go_big_quiet_want
        refine quiet_agg 24 (.tmp 5) rfl _ rfl (bv s) _ Try.underlying24 rfl (by rw [HBL.out]; kernel_rfl) (fun W h => HB2.out.cells.keep (h.ext.block _ HB2.out.lt (by simp))) ?_
        simp only [Act.put, List.setIfInBounds_toArray, List.set_cons_succ, List.set_cons_zero]
        go_big_quiet_on
        repeat (go_big_quiet_step (first | exact fun _ => rfl | exact HM.out _))
        go_big_quiet_want
        refine quiet_eqSame 42 _ (.tmp 44) (.tmp 47) rfl 5 32 Try.underlying42 Try.underlying5 hu8 hgt2 D2 rfl rfl H2.out ?_
        simp only [Act.put, List.setIfInBounds_toArray, List.set_cons_succ, List.set_cons_zero]
        go_big_quiet_on
        repeat (go_big_quiet_step (exact fun _ => rfl))
        refine wpQuiet_nil ?_
        rintro W hW
        have hfin := HX.out.trans hW.ext
        go_wp2
        go_ret
        exact ⟨rfl, hfin⟩
theorem mfor_walk (d : UInt8) (v : Value) (ps : List (List UInt8)) (s : List UInt8) (hs : s.length = 32) (w : World) (F : Fp) (hp : (Ty.sl (.sl .u8)).holds w F [v] ps) (hF : ∀ b, F b → b < w.heap.size) (hr : ∀ p ∈ ps, p.length ≤ 140737488351232) :
    Calls Try.prog 6 #[.int .u8 d.toNat, v, .agg (bv s).toArray] w fun e w' => e = .returned (.bool true) ∧ Ext w w' := by
  by_cases h : ps.length ≤ 300
  · exact mfor_small d v ps s hs w F hp hF h hr
  · exact mfor_big d v ps s w F hp hF (by omega)
end Go.Proofs.Ytklljkfnlakdaaa

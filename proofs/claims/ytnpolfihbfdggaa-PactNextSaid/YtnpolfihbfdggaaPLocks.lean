/- Walk of the law PactLocks. Conditions: the numbers are in their bounds. -/
import Derived.Test.YtnpolfihbfdggaaPAwake
import Derived.Test.YtnpolfihbfdggaaPLocksM
set_option linter.unusedVariables false
set_option linter.unusedSimpArgs false
set_option linter.unnecessarySimpa false
namespace Go.Proofs.Ytnpolfihbfdggaa
open Go.RowKit

set_option maxRecDepth 100000 in
set_option maxHeartbeats 2000000 in
theorem Locks1 (done : Bool) (w : World) (PC OC DC C OL Z ZO : List Value) (n : St) (z : Int) (hin : LocksIn PC OC DC C OL Z ZO)
    (hnew : ∀ W, Calls Try.prog 16 #[.int .u32 1] W fun e w' => e = .returned (.agg S1.toArray) ∧ Ext W w')
    (hnx : ∀ (w0 : World) (al : Option Nat) (W : World), NJ w0 Z al W (.slice none 0 0) [] → Calls Try.prog 11 #[.agg S1.toArray, .agg PC.toArray, .int .i64 0, .agg OL.toArray] W fun e w' => ∃ (R : List Value) (v2 : Value), e = .returned (.tuple #[.agg R.toArray, .int .i64 z]) ∧ R = stc n v2 ∧
      NJ w0 Z al w' v2 n.cs ∧ KeepB (fun b => b < w0.heap.size) W w')
    (hin2 : z = 0 → LocksTail done PC DC Z ZO n) :
    Calls Try.prog 7 #[.agg PC.toArray, .agg OC.toArray, .bool done] w fun e w' => e = .returned (.bool true) ∧ Ext w w' := by
  have HIN2 := Lib.hid hin2
  clear hin2
  obtain ⟨fields, hfu, hfp⟩ := op_fields
  have hz := hin.z
  have hzo := hin.zo
  have HPL := Lib.hid hin.pl
  have HDL := Lib.hid hin.dl
  have HZL := Lib.hid hin.zl
  have HPC2 := Lib.hid hin.piece
  have HFL := Lib.hid hin.fill
  have HOP := Lib.hid hin.op
  have HSET := Lib.hid hin.set
  have HNEW := Lib.hid hnew
  have HNX := Lib.hid hnx
  have hb0 : Blk ((w.alloc (.cells PC.toArray 24)).alloc (.cells OC.toArray 32)) w.heap.size 24 PC := (Blk.new _ _ _).keep ((Ext.refl _).alloc _) (by simp)
  have hb1 : Blk ((w.alloc (.cells PC.toArray 24)).alloc (.cells OC.toArray 32)) (w.heap.size + 1) 32 OC := Blk.new_at (by simp) _ _
  have hx2 : Ext w ((w.alloc (.cells PC.toArray 24)).alloc (.cells OC.toArray 32)) := ((Ext.refl w).alloc _).alloc _
  have hf3 := hb1.free 3
  obtain ⟨v3, hv3⟩ := hin.o3
  have c3 := (hb1.cell 3).trans hv3
  clear hnew hnx hb0 hb1 hx2 hin
  go_enter Try.func7, Try.ntmps7
  go_wp2
  rw [HSET.out]
  have hx3 : Ext w ((w.alloc (.cells PC.toArray 24)).alloc (.cells DC.toArray 32)).drew := (((Ext.refl w).alloc _).alloc _).drew
  have hb0 : Blk ((w.alloc (.cells PC.toArray 24)).alloc (.cells DC.toArray 32)) w.heap.size 24 PC := (Blk.new _ _ _).keep ((Ext.refl _).alloc _) (by simp)
  have hb1 : Blk ((w.alloc (.cells PC.toArray 24)).alloc (.cells DC.toArray 32)) (w.heap.size + 1) 32 DC := Blk.new_at (by simp) _ _
  have hb0 : Blk ((w.alloc (.cells PC.toArray 24)).alloc (.cells DC.toArray 32)).drew w.heap.size 24 PC := hb0
  have hb1 : Blk ((w.alloc (.cells PC.toArray 24)).alloc (.cells DC.toArray 32)).drew (w.heap.size + 1) 32 DC := hb1
  have hlt2 : w.heap.size + 2 ≤ ((w.alloc (.cells PC.toArray 24)).alloc (.cells DC.toArray 32)).drew.heap.size := by have := hb1.lt; omega
  refine startM (KeepB fun b => b < ((w.alloc (.cells PC.toArray 24)).alloc (.cells DC.toArray 32)).drew.heap.size) (by kernel_rfl) ?_
  generalize ((w.alloc (.cells PC.toArray 24)).alloc (.cells DC.toArray 32)).drew = w0 at *
  have hcp := hb0.cells
  have hco := hb1.cells
  have HCP := Lib.hid hcp
  have HCO := Lib.hid hco
  have HC0 := Lib.hid hb0
  have HC1 := Lib.hid hb1
  have HX3 := Lib.hid hx3
  have hJ := NJ.start w0 Z
  have HJ := Lib.hid hJ
  clear hJ hcp hco hb0 hb1 hx3
  apply sharedL (fun g R W => ∃ v2, R = stc n v2 ∧ NJ w0 Z (some g) W v2 n.cs)
  · intro hM
    refine takeK 1 rfl (by kernel_rfl) (by kernel_rfl) (by kernel_rfl) rfl (fun _ _ _ _ h => h) rfl (fun K hK => ?_)
    refine quiet_agg 24 (.tmp 3) rfl _ rfl PC _ Try.underlying24 rfl (by rw [HPL.out]; kernel_rfl) (fun W' h => KeepB.cells h HCP.out (by simp only; omega)) ?_
    refine hK _ ?_
    simp only [Act.put, List.setIfInBounds_toArray, List.set_cons_succ, List.set_cons_zero]
    clear hK K
    refine takeK 2 rfl (by kernel_rfl) (by kernel_rfl) (by kernel_rfl) rfl (fun _ _ _ _ h => h) rfl (fun K hK => ?_)
    refine quiet_agg 32 (.tmp 4) rfl _ rfl DC _ Try.underlying32 rfl (rop_size HDL.out) (fun W' h => KeepB.cells h HCO.out (by simp only; omega)) ?_
    refine hK _ ?_
    simp only [Act.put, List.setIfInBounds_toArray, List.set_cons_succ, List.set_cons_zero]
    clear hK K
    refine bothM 0 10 rfl rfl (by kernel_rfl) rfl rfl (fun K hK => ?_) (fun K hK => ?_)
    · go_simp
      refine (HNEW.out _).mono ?_
      rintro e w5 ⟨rfl, hx5⟩
      have HJ := Lib.hid (HJ.out.step hx5)
      have hkb := HJ.out.2
      have HJ := Lib.hid HJ.out.1
      refine hK _ _ (hkb) ?_
      clear hK K
      refine bothM 3 10 rfl rfl (by kernel_rfl) rfl rfl (fun K hK => ?_) (fun K hK => ?_)
      · go_simp
        refine (HOP.out _).mono ?_
        rintro e w6 ⟨rfl, hx6⟩
        have HJ := Lib.hid (HJ.out.step hx6)
        have hkb := HJ.out.2
        have HJ := Lib.hid HJ.out.1
        refine hK _ _ (hkb) ?_
        clear hK K
        refine takeK 4 rfl (by kernel_rfl) (by kernel_rfl) (by kernel_rfl) rfl (fun _ _ _ _ h => h) rfl (fun K hK => ?_)
        refine quiet_field 46 (.tmp 21) 2 rfl 2 36 DC C op_field2 rfl HPC2.out ?_
        refine hK _ ?_
        simp only [Act.put, List.setIfInBounds_toArray, List.set_cons_succ, List.set_cons_zero]
        clear hK K
        refine takeK 5 rfl (by kernel_rfl) (by kernel_rfl) (by kernel_rfl) rfl (fun _ _ _ _ h => h) rfl (fun K hK => ?_)
        refine quiet_build_st 46 #[(0, .const (.int .i64 2)), (2, .tmp 22)] rfl fields ZO OL _ _ hfu hzo hfp (by simp [Value.cells, Act.eval]) HFL.out ?_
        refine hK _ ?_
        simp only [Act.put, List.setIfInBounds_toArray, List.set_cons_succ, List.set_cons_zero]
        clear hK K
        refine bothM 6 10 rfl rfl (by kernel_rfl) rfl rfl (fun K hK => ?_) (fun K hK => ?_)
        · go_simp
          refine (HNX.out w0 _ _ HJ.out).mono ?_
          rintro e w7 ⟨R, v2, rfl, hR, hJ, hkb2⟩
          have HJ := Lib.hid hJ
          clear hJ
          have HRR := Lib.hid hR
          clear hR
          refine hK _ _ (hkb2) ?_
          clear hK K
          refine takeK 7 rfl (by kernel_rfl) (by kernel_rfl) (by kernel_rfl) rfl (fun _ _ _ _ h => h) rfl (fun K hK => ?_)
          go_big_quiet_op
          first | refine hK _ ?_ | refine ⟨_, fun _ _ => rfl, hK _ ?_⟩
          clear hK K
          refine takeK 8 rfl (by kernel_rfl) (by kernel_rfl) (by kernel_rfl) rfl (fun _ _ _ _ h => h) rfl (fun K hK => ?_)
          go_big_quiet_op
          first | refine hK _ ?_ | refine ⟨_, fun _ _ => rfl, hK _ ?_⟩
          clear hK K
          refine takeK 9 rfl (by kernel_rfl) (by kernel_rfl) (by kernel_rfl) rfl (fun _ _ _ _ h => h) rfl (fun K hK => ?_)
          go_big_quiet_op
          first | refine hK _ ?_ | refine ⟨_, fun _ _ => rfl, hK _ ?_⟩
          clear hK K
          refine stepM 10 rfl (by kernel_rfl) rfl (fun K hK => ?_)
          refine wp_alloc_agg 36 rfl Z hz ?_
          refine hK _ _ (HJ.out.keepAlloc _) ?_
          clear hK K
          (try simp only [Act.put, List.setIfInBounds_toArray, List.set_cons_succ, List.set_cons_zero])
          have HJ := Lib.hid HJ.out.alloc
          have hJf := HJ.out
          revert hJf
          generalize w7.alloc (.cells Z.toArray 36) = W9
          generalize w7.heap.size = g9
          intro hJf
          exact hM g9 R W9 ⟨v2, HRR.out, hJf⟩
        · refine wp_alloc_agg 36 rfl Z hz ?_
          refine hK _ _ (HJ.out.keepAlloc _) ?_
          clear hK K
          (try simp only [Act.put, List.setIfInBounds_toArray, List.set_cons_succ, List.set_cons_zero])
          have HJ := Lib.hid HJ.out.alloc
          refine stepM 6 rfl (by kernel_rfl) rfl (fun K hK => ?_)
          go_simp
          refine (HNX.out w0 _ _ HJ.out).mono ?_
          rintro e w7 ⟨R, v2, rfl, hR, hJ, hkb2⟩
          have HJ := Lib.hid hJ
          clear hJ
          have HRR := Lib.hid hR
          clear hR
          refine hK _ _ (hkb2) ?_
          clear hK K
          refine takeK 7 rfl (by kernel_rfl) (by kernel_rfl) (by kernel_rfl) rfl (fun _ _ _ _ h => h) rfl (fun K hK => ?_)
          go_big_quiet_op
          first | refine hK _ ?_ | refine ⟨_, fun _ _ => rfl, hK _ ?_⟩
          clear hK K
          refine takeK 8 rfl (by kernel_rfl) (by kernel_rfl) (by kernel_rfl) rfl (fun _ _ _ _ h => h) rfl (fun K hK => ?_)
          go_big_quiet_op
          first | refine hK _ ?_ | refine ⟨_, fun _ _ => rfl, hK _ ?_⟩
          clear hK K
          refine takeK 9 rfl (by kernel_rfl) (by kernel_rfl) (by kernel_rfl) rfl (fun _ _ _ _ h => h) rfl (fun K hK => ?_)
          go_big_quiet_op
          first | refine hK _ ?_ | refine ⟨_, fun _ _ => rfl, hK _ ?_⟩
          clear hK K
          refine relist (by kernel_rfl) (hM _ R _ ⟨v2, HRR.out, HJ.out⟩)
      · refine wp_alloc_agg 36 rfl Z hz ?_
        refine hK _ _ (HJ.out.keepAlloc _) ?_
        clear hK K
        (try simp only [Act.put, List.setIfInBounds_toArray, List.set_cons_succ, List.set_cons_zero])
        have HJ := Lib.hid HJ.out.alloc
        refine stepM 3 rfl (by kernel_rfl) rfl (fun K hK => ?_)
        go_simp
        refine (HOP.out _).mono ?_
        rintro e w6 ⟨rfl, hx6⟩
        have HJ := Lib.hid (HJ.out.step hx6)
        have hkb := HJ.out.2
        have HJ := Lib.hid HJ.out.1
        refine hK _ _ (hkb) ?_
        clear hK K
        refine takeK 4 rfl (by kernel_rfl) (by kernel_rfl) (by kernel_rfl) rfl (fun _ _ _ _ h => h) rfl (fun K hK => ?_)
        refine quiet_field 46 (.tmp 21) 2 rfl 2 36 DC C op_field2 rfl HPC2.out ?_
        refine hK _ ?_
        simp only [Act.put, List.setIfInBounds_toArray, List.set_cons_succ, List.set_cons_zero]
        clear hK K
        refine takeK 5 rfl (by kernel_rfl) (by kernel_rfl) (by kernel_rfl) rfl (fun _ _ _ _ h => h) rfl (fun K hK => ?_)
        refine quiet_build_st 46 #[(0, .const (.int .i64 2)), (2, .tmp 22)] rfl fields ZO OL _ _ hfu hzo hfp (by simp [Value.cells, Act.eval]) HFL.out ?_
        refine hK _ ?_
        simp only [Act.put, List.setIfInBounds_toArray, List.set_cons_succ, List.set_cons_zero]
        clear hK K
        refine stepM 6 rfl (by kernel_rfl) rfl (fun K hK => ?_)
        go_simp
        refine (HNX.out w0 _ _ HJ.out).mono ?_
        rintro e w7 ⟨R, v2, rfl, hR, hJ, hkb2⟩
        have HJ := Lib.hid hJ
        clear hJ
        have HRR := Lib.hid hR
        clear hR
        refine hK _ _ (hkb2) ?_
        clear hK K
        refine takeK 7 rfl (by kernel_rfl) (by kernel_rfl) (by kernel_rfl) rfl (fun _ _ _ _ h => h) rfl (fun K hK => ?_)
        go_big_quiet_op
        first | refine hK _ ?_ | refine ⟨_, fun _ _ => rfl, hK _ ?_⟩
        clear hK K
        refine takeK 8 rfl (by kernel_rfl) (by kernel_rfl) (by kernel_rfl) rfl (fun _ _ _ _ h => h) rfl (fun K hK => ?_)
        go_big_quiet_op
        first | refine hK _ ?_ | refine ⟨_, fun _ _ => rfl, hK _ ?_⟩
        clear hK K
        refine takeK 9 rfl (by kernel_rfl) (by kernel_rfl) (by kernel_rfl) rfl (fun _ _ _ _ h => h) rfl (fun K hK => ?_)
        go_big_quiet_op
        first | refine hK _ ?_ | refine ⟨_, fun _ _ => rfl, hK _ ?_⟩
        clear hK K
        refine relist (by kernel_rfl) (hM _ R _ ⟨v2, HRR.out, HJ.out⟩)
    · refine wp_alloc_agg 36 rfl Z hz ?_
      refine hK _ _ (HJ.out.keepAlloc _) ?_
      clear hK K
      (try simp only [Act.put, List.setIfInBounds_toArray, List.set_cons_succ, List.set_cons_zero])
      have HJ := Lib.hid HJ.out.alloc
      refine stepM 0 rfl (by kernel_rfl) rfl (fun K hK => ?_)
      go_simp
      refine (HNEW.out _).mono ?_
      rintro e w5 ⟨rfl, hx5⟩
      have HJ := Lib.hid (HJ.out.step hx5)
      have hkb := HJ.out.2
      have HJ := Lib.hid HJ.out.1
      refine hK _ _ (hkb) ?_
      clear hK K
      refine stepM 3 rfl (by kernel_rfl) rfl (fun K hK => ?_)
      go_simp
      refine (HOP.out _).mono ?_
      rintro e w6 ⟨rfl, hx6⟩
      have HJ := Lib.hid (HJ.out.step hx6)
      have hkb := HJ.out.2
      have HJ := Lib.hid HJ.out.1
      refine hK _ _ (hkb) ?_
      clear hK K
      refine takeK 4 rfl (by kernel_rfl) (by kernel_rfl) (by kernel_rfl) rfl (fun _ _ _ _ h => h) rfl (fun K hK => ?_)
      refine quiet_field 46 (.tmp 21) 2 rfl 2 36 DC C op_field2 rfl HPC2.out ?_
      refine hK _ ?_
      simp only [Act.put, List.setIfInBounds_toArray, List.set_cons_succ, List.set_cons_zero]
      clear hK K
      refine takeK 5 rfl (by kernel_rfl) (by kernel_rfl) (by kernel_rfl) rfl (fun _ _ _ _ h => h) rfl (fun K hK => ?_)
      refine quiet_build_st 46 #[(0, .const (.int .i64 2)), (2, .tmp 22)] rfl fields ZO OL _ _ hfu hzo hfp (by simp [Value.cells, Act.eval]) HFL.out ?_
      refine hK _ ?_
      simp only [Act.put, List.setIfInBounds_toArray, List.set_cons_succ, List.set_cons_zero]
      clear hK K
      refine stepM 6 rfl (by kernel_rfl) rfl (fun K hK => ?_)
      go_simp
      refine (HNX.out w0 _ _ HJ.out).mono ?_
      rintro e w7 ⟨R, v2, rfl, hR, hJ, hkb2⟩
      have HJ := Lib.hid hJ
      clear hJ
      have HRR := Lib.hid hR
      clear hR
      refine hK _ _ (hkb2) ?_
      clear hK K
      refine takeK 7 rfl (by kernel_rfl) (by kernel_rfl) (by kernel_rfl) rfl (fun _ _ _ _ h => h) rfl (fun K hK => ?_)
      go_big_quiet_op
      first | refine hK _ ?_ | refine ⟨_, fun _ _ => rfl, hK _ ?_⟩
      clear hK K
      refine takeK 8 rfl (by kernel_rfl) (by kernel_rfl) (by kernel_rfl) rfl (fun _ _ _ _ h => h) rfl (fun K hK => ?_)
      go_big_quiet_op
      first | refine hK _ ?_ | refine ⟨_, fun _ _ => rfl, hK _ ?_⟩
      clear hK K
      refine takeK 9 rfl (by kernel_rfl) (by kernel_rfl) (by kernel_rfl) rfl (fun _ _ _ _ h => h) rfl (fun K hK => ?_)
      go_big_quiet_op
      first | refine hK _ ?_ | refine ⟨_, fun _ _ => rfl, hK _ ?_⟩
      clear hK K
      refine relist (by kernel_rfl) (hM _ R _ ⟨v2, HRR.out, HJ.out⟩)
  rintro g R W ⟨v2, hR, hJ⟩
  have hgb := hJ.blk g rfl
  have hrl : R.length = 7 := by rw [hR]; rfl
  have hro : ∀ u ∈ R, u.oneCell' = true := by obtain ⟨A2, c2, h⟩ := hJ.own.form; rw [hR, h]; exact stc_one _ _ _ _
  have HRL := Lib.hid hrl
  have HGB := Lib.hid hgb
  have HJ := Lib.hid hJ
  have HRE := Lib.hid hR
  clear hrl hgb hJ hR
  refine stepM 11 rfl (by kernel_rfl) rfl (fun K hK => ?_)
  refine wp_store_row 36 (.tmp 7) (.tmp 25) rfl g rfl Z R _ rfl HGB.out.2 (state_size HRL.out) (by rw [HRL.out, HZL.out]) hro ?_
  refine hK _ _ (fun b hb => (setRow_only _).block _ (Nat.lt_of_lt_of_le hb HJ.out.ext.size) (by have := HGB.out.1; simp; omega)) ?_
  clear hK K
  (try simp only [Act.put, List.setIfInBounds_toArray, List.set_cons_succ, List.set_cons_zero])
  refine takeK 12 rfl (by kernel_rfl) (by kernel_rfl) (by kernel_rfl) rfl (fun _ _ _ _ h => h) rfl (fun K hK => ?_)
  go_big_quiet_op
  first | refine hK _ ?_ | refine ⟨_, fun _ _ => rfl, hK _ ?_⟩
  clear hK K
  refine doneM (by kernel_rfl) ?_ _
  have hX8 : Ext w (W.setRow g R.toArray) := grown_then (HX3.out.trans HJ.out.ext) (setRow_only _) (.inr (by rintro b ⟨⟩; have := HGB.out.1; omega))
  have hR8 : Blk (W.setRow g R.toArray) g 36 R := setRow_at HGB.out.2
  have hP8 : Blk (W.setRow g R.toArray) w.heap.size 24 PC := (HC0.out.keep HJ.out.ext (by simp)).keep (setRow_only _) (by have := HGB.out.1; simp; omega)
  have hO8 : Blk (W.setRow g R.toArray) (w.heap.size + 1) 32 DC := (HC1.out.keep HJ.out.ext (by simp)).keep (setRow_only _) (by have := HGB.out.1; simp; omega)
  have hv8 : OwnC (W.setRow g R.toArray) v2 n.cs := HJ.out.own.keep (setRow_only _) (fun b hb e => (HJ.out.far b hb).2 e.symm)
  have hgn : g ≠ w.heap.size ∧ g ≠ w.heap.size + 1 := by have := HGB.out.1; omega
  have HX8 := Lib.hid hX8
  have HR8 := Lib.hid hR8
  have HP8 := Lib.hid hP8
  have HO8 := Lib.hid hO8
  have HV8 := Lib.hid hv8
  clear hX8 hR8 hP8 hO8 hv8
  generalize W.setRow g R.toArray = V at *
  by_cases hz0 : z = 0
  · subst hz0
    obtain ⟨z2, n2, kd, id, am, OK, ht⟩ := HIN2.out (by first | trivial | rfl)
    have hR := HRE.out
    obtain ⟨A2, c2, hform⟩ := HV8.out.form
    rw [ht.len] at hform
    have r6 : R[6]? = some (.slice A2 1 c2) := by rw [hR, hform]; rfl
    have HFL2 := Lib.hid ht.fill
    have HNX2 := Lib.hid ht.nx
    have HHELD := Lib.hid ht.held
    have HSAME := Lib.hid ht.same
    have o2 := ht.o2
    have o4 := ht.o4
    have HAM := Lib.hid ht.eam
    have hkd := ht.ekd
    have HF := Lib.hid ht.f
    have hne : ((am : Int) != (am : Int)) = false := by simp
    have HO2 := Lib.hid o2
    have HO4 := Lib.hid o4
    have HR6 := Lib.hid r6
    have hcs := HR8.out.cells
    have hcp := HP8.out.cells
    have hco2 := (HO8.out.cell 2).trans o2
    clear ht hR hform o2 o4 r6
    have hdn : ∃ dn, dn = done := ⟨_, rfl⟩
    obtain ⟨dn, hdn⟩ := hdn
    rw [← hdn] at HSAME
    cases done
    all_goals
      obtain rfl := hkd
      obtain rfl := hdn
      go_wp2_with (first
        | (refine wpList_load_agg _ rfl 36 (.tmp 7) rfl _ rfl R _ Try.underlying36 rfl (state_size HRL.out) hcs ?_)
        | (refine wpList_load_agg _ rfl 24 (.tmp 3) rfl _ rfl PC _ Try.underlying24 rfl (by rw [HPL.out]; kernel_rfl) hcp ?_)
        | (refine wpList_build_st (.inl rfl) 46 #[(0, .tmp 34), (3, .tmp 37)] rfl fields ZO OK _ _ hfu hzo hfp (by simp [Value.cells, Act.eval]) HFL2.out ?_)
        | fail)
      refine (show Calls _ _ #[.agg R.toArray, _, _, _] _ _ from HRE.out ▸ HNX2.out V v2 HV8.out).mono ?_
      rintro e w9 ⟨R3, v3, rfl, hR3, ho3, hx9⟩
      have hrl3 : R3.length = 7 := by rw [hR3]; rfl
      have hro3 : ∀ u ∈ R3, u.oneCell' = true := by obtain ⟨A2, c2, h⟩ := ho3.form; rw [hR3, h]; exact stc_one _ _ _ _
      have HRL3 := Lib.hid hrl3
      have hxA : Ext V (w9.alloc (.cells R3.toArray 36)) := hx9.alloc _
      have hcs9 := (HR8.out.keep hxA (by simp)).cells
      have HR3 := Lib.hid hR3
      have HO3 := Lib.hid ho3
      have HXA := Lib.hid hxA
      clear hR3 ho3 hxA hrl3 hx9 hcs hcp hco2
      go_wp2_with (first
        | (refine wpList_alloc _ rfl 36 rfl _ hz ?_)
        | (refine wpList_store_new _ rfl 36 (.tmp 10) (.tmp 40) rfl rfl Z R3 _ rfl (state_size HRL3.out) (by rw [HRL3.out, HZL.out]) hro3 ?_)
        | (refine wpList_load_agg _ rfl 36 (.tmp 7) rfl _ rfl R _ Try.underlying36 rfl (state_size HRL.out) hcs9 ?_)
        | fail)
      refine (show Calls _ _ #[.agg R.toArray, _] _ _ from HRE.out ▸ HHELD.out _ v2 (HV8.out.ext HXA.out)).mono ?_
      rintro e w10 ⟨rfl, hx10⟩
      have hB9 : Blk w10 w9.heap.size 36 R3 := (Blk.new _ _ _).keep hx10 (by simp)
      have hxB : Ext V w10 := HXA.out.trans hx10
      have ho10 : OwnC w10 v3 n2.cs := (HO3.out.ext ((Ext.refl w9).alloc _)).ext hx10
      have hd4 : w10.cell? ⟨w.heap.size + 1, 4, none⟩ = some (.int .u64 (am : Int)) := ((HO8.out.keep hxB (by simp)).cell 4).trans HO4.out
      have hr6 : w10.cell? ⟨g, 6, none⟩ = some (.slice A2 1 c2) := ((HR8.out.keep hxB (by simp)).cell 6).trans HR6.out
      have HB9 := Lib.hid hB9
      have HXB := Lib.hid hxB
      have HO10 := Lib.hid ho10
      generalize w9.heap.size = gt at *
      clear hB9 hxB ho10 hx10 hcs9 HXA HO3
      by_cases hz2 : z2 = 0
      · subst hz2
        have hsm := fun W h => HSAME.out rfl W v3 h
        rw [← HR3.out] at hsm
        have HSM := Lib.hid hsm
        clear hsm
        go_wp2_with (first
          | (go_at_call 16; refine (New 1 _ (by decide)).mono ?_; rintro e w11 ⟨rfl, hx11⟩; have hd5 : w11.cell? ⟨w.heap.size + 1, 4, none⟩ = some (.int .u64 (am : Int)) := World.grownBy.cell hx11 hd4 (by simp))
          | (go_at_call 9; refine (Awake _).mono ?_; rintro e w12 ⟨rfl, hx12⟩)
          | (refine wpList_cell (.inl rfl) 23 (.tmp 76) rfl _ rfl _ _ Try.underlying23 rfl (World.grownBy.cell ((Ext.refl w11).alloc _) hd5 (by simp)) ?_)
          | (refine wpList_loadG (.inr rfl) 36 (.tmp 10) rfl _ rfl R3 _ Try.underlying36 rfl (state_size HRL3.out) (HB9.out.keep (hx11.trans (((Ext.refl w11).alloc _).trans hx12)) (by simp)).cells ?_)
          | (refine wpList_loadG (.inr rfl) 36 (.tmp 14) rfl _ rfl _ _ Try.underlying36 rfl (state_size rfl) ((Blk.new w11 36 (stc { s1 with round := 2, m0 := if false = true then am else 0 } (.slice none 0 0))).keep hx12 (by simp)).cells ?_)
          | (refine wpList_loadG (.inr rfl) 36 (.tmp 14) rfl _ rfl _ _ Try.underlying36 rfl (state_size rfl) ((Blk.new w11 36 (stc { s1 with round := 2, m0 := if true = true then am else 0 } (.slice none 0 0))).keep hx12 (by simp)).cells ?_)
          | (go_at_call 28; refine (HSM.out w12 (HO10.out.ext (hx11.trans (((Ext.refl w11).alloc _).trans hx12)))).mono ?_; rintro e w13 ⟨rfl, hx13⟩)
          | fail)
        go_ret
        exact ⟨rfl, HX8.out.trans (HXB.out.trans (hx11.trans (((Ext.refl w11).alloc _).trans (hx12.trans hx13))))⟩
      · have hzb2 : (z2 != 0) = true := by simpa using hz2
        have hff := HF.out hz2
        clear hz2
        first
          | exact absurd hff.1 Bool.false_ne_true
          | (obtain ⟨_, rfl⟩ := hff
             go_wp2_with (first
               | (go_at_call 9; refine (Awake _).mono ?_; rintro e w11 ⟨rfl, hx11⟩)
               | fail)
             go_ret
             exact ⟨rfl, HX8.out.trans (HXB.out.trans hx11)⟩)
  · have hzb : (z != 0) = true := by simpa using hz0
    clear hz0 HIN2
    go_wp2_with (first
      | (go_at_call 9; refine (Awake _).mono ?_; rintro e w9 ⟨rfl, hx9⟩)
      | fail)
    go_ret
    exact ⟨rfl, HX8.out.trans hx9⟩
end Go.Proofs.Ytnpolfihbfdggaa

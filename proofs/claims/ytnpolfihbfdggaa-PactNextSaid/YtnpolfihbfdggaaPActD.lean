/- Walk of the pact's act: a payment is done, or taken out. Conditions: the numbers are in their bounds; the payments lie in a row of their own. -/
import Derived.Test.YtnpolfihbfdggaaPAct
set_option linter.unusedVariables false
set_option linter.unusedSimpArgs false
set_option linter.unnecessarySimpa false
namespace Go.Proofs.Ytnpolfihbfdggaa
open Go.RowKit

set_option maxRecDepth 100000 in
set_option maxHeartbeats 1000000 in
theorem Act4 (id : Nat) (w : World) (SC PC OC Z Y : List Value) (sd : Int) (G : World → World → List Value → List Value → Int → Int → Nat → Nat → Prop) (hin : ActIn SC PC OC Z) (hy : (Try.prog.info? 44).bind (fun i => i.zero.map (·.cells)) = some Y.toArray) (hyl : Y.length = 36) (o0 : OC[0]? = some (.int .i64 4)) (o38 : OC[38]? = some (.int .u64 (id : Int))) (row : Option Nat) (hrow : ∀ g, row = some g → g < w.heap.size)
    (hdr : ∀ W, Ext w W → Calls Try.prog 49 #[.agg SC.toArray, .int .u64 (id : Int)] W fun e w' => ∃ R C z cs am m, e = .returned (.tuple #[.agg R.toArray, .agg C.toArray, .int .i64 z]) ∧ R.length = 7 ∧ C.length = 36 ∧ (∀ u ∈ R, u.oneCell' = true) ∧ (∀ u ∈ C, u.oneCell' = true) ∧ W.grownBy w' row ∧
      (z = 0 → (cs = 0 ∨ cs = 1) ∧ C[1]? = some (.int .i64 cs) ∧ C[2]? = some (.int .u64 (am : Int)) ∧ R[2 + cs.toNat]? = some (.int .u64 (m : Int)) ∧ m < M64 ∧ am < M64) ∧ G W w' R C z cs am m) :
    Calls Try.prog 34 #[.agg SC.toArray, .agg PC.toArray, .int .i64 sd, .agg OC.toArray] w fun e w' => ∃ W w1 R C z cs am m, Ext w W ∧ w.heap.size + 5 ≤ W.heap.size ∧ W.grownBy w1 row ∧ G W w1 R C z cs am m ∧ (∀ p : World → Prop, (∀ a b g, w.heap.size ≤ g → g < w.heap.size + 5 → a.grownBy b (some g) → p a → p b) → p w1 → p w') ∧
      e = .returned (.tuple #[.agg R.toArray, .int .i64 z]) := by
  refine (?_ : ∀ Q : Ending → World → Prop, (∀ e w', (∃ W w1 R C z cs am m, Ext w W ∧ w.heap.size + 5 ≤ W.heap.size ∧ W.grownBy w1 row ∧ G W w1 R C z cs am m ∧ (∀ p : World → Prop, (∀ a b g, w.heap.size ≤ g → g < w.heap.size + 5 → a.grownBy b (some g) → p a → p b) → p w1 → p w') ∧
      e = .returned (.tuple #[.agg R.toArray, .int .i64 z])) → Q e w') → Calls Try.prog 34 #[.agg SC.toArray, .agg PC.toArray, .int .i64 sd, .agg OC.toArray] w Q) _ (fun _ _ h => h)
  intro Q hQ
  have HQ := Lib.hid hQ
  clear hQ
  have hz := hin.zi
  have hzo := hin.zo
  have hso := hin.so
  have HZB := Lib.hid hin.zb
  have HSL := Lib.hid hin.sl
  have HPL := Lib.hid hin.pl
  have HOL := Lib.hid hin.ol
  have HZL := Lib.hid hin.zl
  obtain ⟨hx0, hb0, hb1, hb2, hb3, hsz⟩ := pre4 w SC PC OC Z
  have c0 : ((((w.alloc (.cells SC.toArray 36)).alloc (.cells PC.toArray 24)).alloc (.cells OC.toArray 46)).alloc (.cells Z.toArray 36)).cell? ⟨w.heap.size + 2, 0, none⟩ = some (.int .i64 4) := (hb2.cell 0).trans o0
  have HX0 := Lib.hid hx0
  have HB0 := Lib.hid hb0
  have HB1 := Lib.hid hb1
  have HB2 := Lib.hid hb2
  have HB3 := Lib.hid hb3
  have HSZ := Lib.hid hsz
  have hscw := hb0.cells
  have hpcw := hb1.cells
  clear hx0 hb0 hb1 hb2 hb3 hsz hin
  have HYL := Lib.hid hyl
  have HDR := Lib.hid hdr
  have hx5 : Ext w (((((w.alloc (.cells SC.toArray 36)).alloc (.cells PC.toArray 24)).alloc (.cells OC.toArray 46)).alloc (.cells Z.toArray 36)).alloc (.cells Y.toArray 44)) := HX0.out.alloc _
  have b0 : Blk (((((w.alloc (.cells SC.toArray 36)).alloc (.cells PC.toArray 24)).alloc (.cells OC.toArray 46)).alloc (.cells Z.toArray 36)).alloc (.cells Y.toArray 44)) w.heap.size 36 SC := HB0.out.keep ((Ext.refl _).alloc _) (by simp)
  have b2 : Blk (((((w.alloc (.cells SC.toArray 36)).alloc (.cells PC.toArray 24)).alloc (.cells OC.toArray 46)).alloc (.cells Z.toArray 36)).alloc (.cells Y.toArray 44)) (w.heap.size + 2) 46 OC := HB2.out.keep ((Ext.refl _).alloc _) (by simp)
  have b3 : Blk (((((w.alloc (.cells SC.toArray 36)).alloc (.cells PC.toArray 24)).alloc (.cells OC.toArray 46)).alloc (.cells Z.toArray 36)).alloc (.cells Y.toArray 44)) (w.heap.size + 3) 36 Z := HB3.out.keep ((Ext.refl _).alloc _) (by simp)
  have b4 : Blk (((((w.alloc (.cells SC.toArray 36)).alloc (.cells PC.toArray 24)).alloc (.cells OC.toArray 46)).alloc (.cells Z.toArray 36)).alloc (.cells Y.toArray 44)) (w.heap.size + 4) 44 Y := Blk.new_at HSZ.out _ _
  have hs5 : w.heap.size + 5 ≤ (((((w.alloc (.cells SC.toArray 36)).alloc (.cells PC.toArray 24)).alloc (.cells OC.toArray 46)).alloc (.cells Z.toArray 36)).alloc (.cells Y.toArray 44)).heap.size := by have := HSZ.out; simp only [World.alloc, Array.size_push] at this ⊢; omega
  have c38 : (((((w.alloc (.cells SC.toArray 36)).alloc (.cells PC.toArray 24)).alloc (.cells OC.toArray 46)).alloc (.cells Z.toArray 36)).alloc (.cells Y.toArray 44)).cell? ⟨w.heap.size + 2, 38, none⟩ = some (.int .u64 (id : Int)) := (b2.cell 38).trans o38
  have hsc5 := b0.cells
  have HX5 := Lib.hid hx5
  have HC0 := Lib.hid b0
  have HC2 := Lib.hid b2
  have HC3 := Lib.hid b3
  have HC4 := Lib.hid b4
  have HS5 := Lib.hid hs5
  clear hyl hdr hx5 b0 b2 b3 b4 hs5 hscw hpcw
  go_enter Try.func34, Try.ntmps34
  go_wp2_with (first
    | (refine wpList_alloc _ rfl 36 rfl _ hz ?_)
    | (refine wpList_alloc _ rfl 44 rfl _ hy ?_)
    | (refine wpList_load_agg _ rfl 36 (.tmp 4) rfl _ rfl SC _ Try.underlying36 rfl (state_size HSL.out) hsc5 ?_)
    | fail)
  refine (HDR.out _ HX5.out).mono ?_
  rintro e w1 ⟨R, C, z, cs, am, m, rfl, hrl, hcl, hro, hco, hg1, hzz, hG⟩
  have nr : ∀ g, w.heap.size ≤ g → some g ≠ row := fun g hg e => by have := hrow _ e.symm; omega
  have hr4 : w1.heap[w.heap.size]? = some (.cells SC.toArray 36 (0, 0)) := HC0.out.keep hg1 (nr _ (by omega))
  have hr12 : (w1.setRow w.heap.size R.toArray).heap[w.heap.size + 4]? = some (.cells Y.toArray 44 (0, 0)) := (HC4.out.keep hg1 (nr _ (by omega))).keep (setRow_only _) (by simp)
  have hr8 : ((w1.setRow w.heap.size R.toArray).setRow (w.heap.size + 4) C.toArray).heap[w.heap.size + 3]? = some (.cells Z.toArray 36 (0, 0)) := ((HC3.out.keep hg1 (nr _ (by omega))).keep (setRow_only _) (by simp)).keep (setRow_only _) (by simp)
  have ho2 : Blk ((w1.setRow w.heap.size R.toArray).setRow (w.heap.size + 4) C.toArray) (w.heap.size + 2) 46 OC := ((HC2.out.keep hg1 (nr _ (by omega))).keep (setRow_only _) (by simp)).keep (setRow_only _) (by simp)
  have hR2 : Blk ((w1.setRow w.heap.size R.toArray).setRow (w.heap.size + 4) C.toArray) w.heap.size 36 R := Blk.keep (setRow_at (cs' := R.toArray) hr4) (setRow_only _) (by simp)
  have hC2 : Blk ((w1.setRow w.heap.size R.toArray).setRow (w.heap.size + 4) C.toArray) (w.heap.size + 4) 44 C := setRow_at (cs' := C.toArray) hr12
  have d0 : ((w1.setRow w.heap.size R.toArray).setRow (w.heap.size + 4) C.toArray).cell? ⟨w.heap.size + 2, 0, none⟩ = some (.int .i64 4) := (ho2.cell 0).trans o0
  have hrcw := hR2.cells
  have HRL := Lib.hid hrl
  have HCL := Lib.hid hcl
  have HG1 := Lib.hid hg1
  have HG := Lib.hid hG
  have HZZ := Lib.hid hzz
  have HR2 := Lib.hid hR2
  have HC22 := Lib.hid hC2
  have hpp : ∀ p : World → Prop, (∀ a b g, w.heap.size ≤ g → g < w.heap.size + 5 → a.grownBy b (some g) → p a → p b) → p w1 → p ((w1.setRow w.heap.size R.toArray).setRow (w.heap.size + 4) C.toArray) := fun p hp h1 =>
    hp _ _ (w.heap.size + 4) (by omega) (by omega) (setRow_only _) (hp _ _ w.heap.size (by omega) (by omega) (setRow_only _) h1)
  have HPP := Lib.hid hpp
  clear hrl hcl hg1 hG hzz hR2 hC2 ho2 hpp
  by_cases hz0 : z = 0
  · subst hz0
    go_wp2_with (first
      | (refine wpList_store_row _ rfl 36 (.tmp 4) (.tmp 74) rfl w.heap.size rfl SC R _ rfl hr4 (state_size HRL.out) (by rw [HRL.out, HSL.out]) hro ?_)
      | (refine wpList_store_row _ rfl 44 (.tmp 12) (.tmp 75) rfl (w.heap.size + 4) rfl Y C _ rfl hr12 (cond_size HCL.out) (by rw [HCL.out, HYL.out]) hco ?_)
      | (refine wpList_load_agg _ rfl 36 (.tmp 4) rfl _ rfl R _ Try.underlying36 rfl (state_size HRL.out) hrcw ?_)
      | (refine wpList_store_row _ rfl 36 (.tmp 8) (.tmp 84) rfl (w.heap.size + 3) rfl Z R _ rfl hr8 (state_size HRL.out) (by rw [HRL.out, HZL.out]) hro ?_)
      | fail)
    have hc9 := Blk.cells (t := 36) (setRow_at (cs' := R.toArray) hr8)
    (try simp only [Exit.inBlock, Exit.then])
    refine bodyPost_ret (results_agg_tmp rfl _ _ _ _ _ rfl Try.underlying36 rfl (state_size HRL.out) hc9) rfl ?_
    exact HQ.out _ _ ⟨_, w1, R, C, 0, cs, am, m, HX5.out, HS5.out, HG1.out, HG.out, fun p hp h1 => hp _ _ (w.heap.size + 3) (by omega) (by omega) (setRow_only _) (HPP.out p hp h1), rfl⟩
  · have hzb : (z != 0) = true := by simpa using hz0
    go_wp2_with (first
      | (refine wpList_store_row _ rfl 36 (.tmp 4) (.tmp 74) rfl w.heap.size rfl SC R _ rfl hr4 (state_size HRL.out) (by rw [HRL.out, HSL.out]) hro ?_)
      | (refine wpList_store_row _ rfl 44 (.tmp 12) (.tmp 75) rfl (w.heap.size + 4) rfl Y C _ rfl hr12 (cond_size HCL.out) (by rw [HCL.out, HYL.out]) hco ?_)
      | (refine wpList_load_agg _ rfl 36 (.tmp 4) rfl _ rfl R _ Try.underlying36 rfl (state_size HRL.out) hrcw ?_)
      | (refine wpList_store_row _ rfl 36 (.tmp 8) (.tmp 84) rfl (w.heap.size + 3) rfl Z R _ rfl hr8 (state_size HRL.out) (by rw [HRL.out, HZL.out]) hro ?_)
      | fail)
    have hc9 := Blk.cells (t := 36) (setRow_at (cs' := R.toArray) hr8)
    (try simp only [Exit.inBlock, Exit.then])
    refine bodyPost_ret (results_agg_tmp rfl _ _ _ _ _ rfl Try.underlying36 rfl (state_size HRL.out) hc9) rfl ?_
    exact HQ.out _ _ ⟨_, w1, R, C, z, cs, am, m, HX5.out, HS5.out, HG1.out, HG.out, fun p hp h1 => hp _ _ (w.heap.size + 3) (by omega) (by omega) (setRow_only _) (HPP.out p hp h1), rfl⟩
set_option maxRecDepth 100000 in
set_option maxHeartbeats 1000000 in
theorem Act3 (id : Nat) (w : World) (SC PC OC Z Y : List Value) (sd : Int) (G : World → World → List Value → List Value → Int → Int → Nat → Nat → Prop) (hin : ActIn SC PC OC Z) (hy : (Try.prog.info? 44).bind (fun i => i.zero.map (·.cells)) = some Y.toArray) (hyl : Y.length = 36) (o0 : OC[0]? = some (.int .i64 3)) (o38 : OC[38]? = some (.int .u64 (id : Int))) (row : Option Nat) (hrow : ∀ g, row = some g → g < w.heap.size)
    (hdr : ∀ W, Ext w W → Calls Try.prog 49 #[.agg SC.toArray, .int .u64 (id : Int)] W fun e w' => ∃ R C z cs am m, e = .returned (.tuple #[.agg R.toArray, .agg C.toArray, .int .i64 z]) ∧ R.length = 7 ∧ C.length = 36 ∧ (∀ u ∈ R, u.oneCell' = true) ∧ (∀ u ∈ C, u.oneCell' = true) ∧ W.grownBy w' row ∧
      (z = 0 → (cs = 0 ∨ cs = 1) ∧ C[1]? = some (.int .i64 cs) ∧ C[2]? = some (.int .u64 (am : Int)) ∧ R[2 + cs.toNat]? = some (.int .u64 (m : Int)) ∧ m < M64 ∧ am < M64) ∧ G W w' R C z cs am m) :
    Calls Try.prog 34 #[.agg SC.toArray, .agg PC.toArray, .int .i64 sd, .agg OC.toArray] w fun e w' => ∃ W w1 R C z cs am m, Ext w W ∧ w.heap.size + 5 ≤ W.heap.size ∧ W.grownBy w1 row ∧ G W w1 R C z cs am m ∧ (∀ p : World → Prop, (∀ a b g, w.heap.size ≤ g → g < w.heap.size + 5 → a.grownBy b (some g) → p a → p b) → p w1 → p w') ∧
      ((z ≠ 0 ∧ e = .returned (.tuple #[.agg R.toArray, .int .i64 z])) ∨ (z = 0 ∧ (addM m am).2 ≠ 0 ∧ e = .returned (.tuple #[.agg Z.toArray, .int .i64 11])) ∨ (z = 0 ∧ (addM m am).2 = 0 ∧ e = .returned (.tuple #[.agg (R.set (2 + cs.toNat) (.int .u64 ((m + am : Nat) : Int))).toArray, .int .i64 0]))) := by
  refine (?_ : ∀ Q : Ending → World → Prop, (∀ e w', (∃ W w1 R C z cs am m, Ext w W ∧ w.heap.size + 5 ≤ W.heap.size ∧ W.grownBy w1 row ∧ G W w1 R C z cs am m ∧ (∀ p : World → Prop, (∀ a b g, w.heap.size ≤ g → g < w.heap.size + 5 → a.grownBy b (some g) → p a → p b) → p w1 → p w') ∧
      ((z ≠ 0 ∧ e = .returned (.tuple #[.agg R.toArray, .int .i64 z])) ∨ (z = 0 ∧ (addM m am).2 ≠ 0 ∧ e = .returned (.tuple #[.agg Z.toArray, .int .i64 11])) ∨ (z = 0 ∧ (addM m am).2 = 0 ∧ e = .returned (.tuple #[.agg (R.set (2 + cs.toNat) (.int .u64 ((m + am : Nat) : Int))).toArray, .int .i64 0])))) → Q e w') → Calls Try.prog 34 #[.agg SC.toArray, .agg PC.toArray, .int .i64 sd, .agg OC.toArray] w Q) _ (fun _ _ h => h)
  intro Q hQ
  have HQ := Lib.hid hQ
  clear hQ
  have hz := hin.zi
  have hzo := hin.zo
  have hso := hin.so
  have HZB := Lib.hid hin.zb
  have HSL := Lib.hid hin.sl
  have HPL := Lib.hid hin.pl
  have HOL := Lib.hid hin.ol
  have HZL := Lib.hid hin.zl
  obtain ⟨hx0, hb0, hb1, hb2, hb3, hsz⟩ := pre4 w SC PC OC Z
  have c0 : ((((w.alloc (.cells SC.toArray 36)).alloc (.cells PC.toArray 24)).alloc (.cells OC.toArray 46)).alloc (.cells Z.toArray 36)).cell? ⟨w.heap.size + 2, 0, none⟩ = some (.int .i64 3) := (hb2.cell 0).trans o0
  have HX0 := Lib.hid hx0
  have HB0 := Lib.hid hb0
  have HB1 := Lib.hid hb1
  have HB2 := Lib.hid hb2
  have HB3 := Lib.hid hb3
  have HSZ := Lib.hid hsz
  have hscw := hb0.cells
  have hpcw := hb1.cells
  clear hx0 hb0 hb1 hb2 hb3 hsz hin
  have HYL := Lib.hid hyl
  have HDR := Lib.hid hdr
  have hx5 : Ext w (((((w.alloc (.cells SC.toArray 36)).alloc (.cells PC.toArray 24)).alloc (.cells OC.toArray 46)).alloc (.cells Z.toArray 36)).alloc (.cells Y.toArray 44)) := HX0.out.alloc _
  have b0 : Blk (((((w.alloc (.cells SC.toArray 36)).alloc (.cells PC.toArray 24)).alloc (.cells OC.toArray 46)).alloc (.cells Z.toArray 36)).alloc (.cells Y.toArray 44)) w.heap.size 36 SC := HB0.out.keep ((Ext.refl _).alloc _) (by simp)
  have b2 : Blk (((((w.alloc (.cells SC.toArray 36)).alloc (.cells PC.toArray 24)).alloc (.cells OC.toArray 46)).alloc (.cells Z.toArray 36)).alloc (.cells Y.toArray 44)) (w.heap.size + 2) 46 OC := HB2.out.keep ((Ext.refl _).alloc _) (by simp)
  have b3 : Blk (((((w.alloc (.cells SC.toArray 36)).alloc (.cells PC.toArray 24)).alloc (.cells OC.toArray 46)).alloc (.cells Z.toArray 36)).alloc (.cells Y.toArray 44)) (w.heap.size + 3) 36 Z := HB3.out.keep ((Ext.refl _).alloc _) (by simp)
  have b4 : Blk (((((w.alloc (.cells SC.toArray 36)).alloc (.cells PC.toArray 24)).alloc (.cells OC.toArray 46)).alloc (.cells Z.toArray 36)).alloc (.cells Y.toArray 44)) (w.heap.size + 4) 44 Y := Blk.new_at HSZ.out _ _
  have hs5 : w.heap.size + 5 ≤ (((((w.alloc (.cells SC.toArray 36)).alloc (.cells PC.toArray 24)).alloc (.cells OC.toArray 46)).alloc (.cells Z.toArray 36)).alloc (.cells Y.toArray 44)).heap.size := by have := HSZ.out; simp only [World.alloc, Array.size_push] at this ⊢; omega
  have c38 : (((((w.alloc (.cells SC.toArray 36)).alloc (.cells PC.toArray 24)).alloc (.cells OC.toArray 46)).alloc (.cells Z.toArray 36)).alloc (.cells Y.toArray 44)).cell? ⟨w.heap.size + 2, 38, none⟩ = some (.int .u64 (id : Int)) := (b2.cell 38).trans o38
  have hsc5 := b0.cells
  have HX5 := Lib.hid hx5
  have HC0 := Lib.hid b0
  have HC2 := Lib.hid b2
  have HC3 := Lib.hid b3
  have HC4 := Lib.hid b4
  have HS5 := Lib.hid hs5
  clear hyl hdr hx5 b0 b2 b3 b4 hs5 hscw hpcw
  go_enter Try.func34, Try.ntmps34
  go_wp2_with (first
    | (refine wpList_alloc _ rfl 36 rfl _ hz ?_)
    | (refine wpList_alloc _ rfl 44 rfl _ hy ?_)
    | (refine wpList_load_agg _ rfl 36 (.tmp 4) rfl _ rfl SC _ Try.underlying36 rfl (state_size HSL.out) hsc5 ?_)
    | fail)
  refine (HDR.out _ HX5.out).mono ?_
  rintro e w1 ⟨R, C, z, cs, am, m, rfl, hrl, hcl, hro, hco, hg1, hzz, hG⟩
  have nr : ∀ g, w.heap.size ≤ g → some g ≠ row := fun g hg e => by have := hrow _ e.symm; omega
  have hr4 : w1.heap[w.heap.size]? = some (.cells SC.toArray 36 (0, 0)) := HC0.out.keep hg1 (nr _ (by omega))
  have hr12 : (w1.setRow w.heap.size R.toArray).heap[w.heap.size + 4]? = some (.cells Y.toArray 44 (0, 0)) := (HC4.out.keep hg1 (nr _ (by omega))).keep (setRow_only _) (by simp)
  have hr8 : ((w1.setRow w.heap.size R.toArray).setRow (w.heap.size + 4) C.toArray).heap[w.heap.size + 3]? = some (.cells Z.toArray 36 (0, 0)) := ((HC3.out.keep hg1 (nr _ (by omega))).keep (setRow_only _) (by simp)).keep (setRow_only _) (by simp)
  have ho2 : Blk ((w1.setRow w.heap.size R.toArray).setRow (w.heap.size + 4) C.toArray) (w.heap.size + 2) 46 OC := ((HC2.out.keep hg1 (nr _ (by omega))).keep (setRow_only _) (by simp)).keep (setRow_only _) (by simp)
  have hR2 : Blk ((w1.setRow w.heap.size R.toArray).setRow (w.heap.size + 4) C.toArray) w.heap.size 36 R := Blk.keep (setRow_at (cs' := R.toArray) hr4) (setRow_only _) (by simp)
  have hC2 : Blk ((w1.setRow w.heap.size R.toArray).setRow (w.heap.size + 4) C.toArray) (w.heap.size + 4) 44 C := setRow_at (cs' := C.toArray) hr12
  have d0 : ((w1.setRow w.heap.size R.toArray).setRow (w.heap.size + 4) C.toArray).cell? ⟨w.heap.size + 2, 0, none⟩ = some (.int .i64 3) := (ho2.cell 0).trans o0
  have hrcw := hR2.cells
  have HRL := Lib.hid hrl
  have HCL := Lib.hid hcl
  have HG1 := Lib.hid hg1
  have HG := Lib.hid hG
  have HZZ := Lib.hid hzz
  have HR2 := Lib.hid hR2
  have HC22 := Lib.hid hC2
  have hpp : ∀ p : World → Prop, (∀ a b g, w.heap.size ≤ g → g < w.heap.size + 5 → a.grownBy b (some g) → p a → p b) → p w1 → p ((w1.setRow w.heap.size R.toArray).setRow (w.heap.size + 4) C.toArray) := fun p hp h1 =>
    hp _ _ (w.heap.size + 4) (by omega) (by omega) (setRow_only _) (hp _ _ w.heap.size (by omega) (by omega) (setRow_only _) h1)
  have HPP := Lib.hid hpp
  clear hrl hcl hg1 hG hzz hR2 hC2 ho2 hpp
  by_cases hz0 : z = 0
  · subst hz0
    obtain ⟨hcs, e1, e2, e3, hm, ham⟩ := HZZ.out rfl
    obtain ⟨⟨x, ea⟩, hadd⟩ : ∃ p, p = addM m am := ⟨_, rfl⟩
    have hmon := fun W => Money_Add m am W hm ham
    rw [← hadd] at hmon
    simp only [numErr] at hmon
    have HADD := Lib.hid hadd
    have HMON := Lib.hid hmon
    clear hadd hmon
    have hx9 : ea = 0 → x = m + am := fun h0 => by
      have h := HADD.out
      unfold addM at h
      split at h <;> simp at h
      · exact h.1
      · omega
    have he11 : ea ≠ 0 → ea = 11 := fun h0 => by
      have h := HADD.out
      unfold addM at h
      split at h <;> simp at h
      · exact absurd h.2 h0
      · exact h.2
    have HX9 := Lib.hid hx9
    have HE11 := Lib.hid he11
    clear hx9 he11
    rcases hcs with rfl | rfl
    · have e3 : R[2]? = some (.int .u64 (m : Int)) := e3
      have q1 : ((w1.setRow w.heap.size R.toArray).setRow (w.heap.size + 4) C.toArray).cell? ⟨w.heap.size + 4, 1, none⟩ = some (.int .i64 0) := (HC22.out.cell 1).trans e1
      go_wp2_with (first
        | (refine wpList_store_row _ rfl 36 (.tmp 4) (.tmp 74) rfl w.heap.size rfl SC R _ rfl hr4 (state_size HRL.out) (by rw [HRL.out, HSL.out]) hro ?_)
        | (refine wpList_store_row _ rfl 44 (.tmp 12) (.tmp 75) rfl (w.heap.size + 4) rfl Y C _ rfl hr12 (cond_size HCL.out) (by rw [HCL.out, HYL.out]) hco ?_)
        | fail)
      have HR8 := Lib.hid hr8
      clear hr8
      generalize hw3 : (w1.setRow w.heap.size R.toArray).setRow (w.heap.size + 4) C.toArray = w3 at *
      refine startL 15 Since (by kernel_rfl) ?_
      refine takeN (fun a => Ext.refl a) 0 rfl (by kernel_rfl) (by kernel_rfl) (by kernel_rfl) rfl (fun _ _ _ _ h => h) rfl (fun K hK => ?_)
      go_big_quiet_op
      first | refine hK _ ?_ | refine ⟨_, fun _ _ => rfl, hK _ ?_⟩
      clear hK K
      refine takeL (fun a => Ext.refl a) (fun a b c h1 h2 => Ext.trans h1 h2) 1 [15] rfl (by kernel_rfl) (by kernel_rfl) (by kernel_rfl) (by kernel_rfl) rfl (fun _ _ _ _ h => h) rfl (fun K hK => ?_)
      refine quiet_cell _ _ rfl _ rfl _ _ Try.underlying41 rfl (fun W' h => World.grownBy.cell h ((HC22.out.cell 1).trans e1) (by simp)) ?_
      refine hK _ ?_
      simp only [Act.put, List.setIfInBounds_toArray, List.set_cons_succ, List.set_cons_zero]
      clear hK K
      refine takeN (fun a => Ext.refl a) 2 rfl (by kernel_rfl) (by kernel_rfl) (by kernel_rfl) rfl (fun _ _ _ _ h => h) rfl (fun K hK => ?_)
      go_big_quiet_op
      first | refine hK _ ?_ | refine ⟨_, fun _ _ => rfl, hK _ ?_⟩
      clear hK K
      refine takeL (fun a => Ext.refl a) (fun a b c h1 h2 => Ext.trans h1 h2) 3 [15] rfl (by kernel_rfl) (by kernel_rfl) (by kernel_rfl) (by kernel_rfl) rfl (fun _ _ _ _ h => h) rfl (fun K hK => ?_)
      refine quiet_cell _ _ rfl _ rfl _ _ Try.underlying41 rfl (fun W' h => World.grownBy.cell h ((HC22.out.cell 1).trans e1) (by simp)) ?_
      refine hK _ ?_
      simp only [Act.put, List.setIfInBounds_toArray, List.set_cons_succ, List.set_cons_zero]
      clear hK K
      refine takeN (fun a => Ext.refl a) 4 rfl (by kernel_rfl) (by kernel_rfl) (by kernel_rfl) rfl (fun _ _ _ _ h => h) rfl (fun K hK => ?_)
      go_big_quiet_op
      first | refine hK _ ?_ | refine ⟨_, fun _ _ => rfl, hK _ ?_⟩
      clear hK K
      refine takeN (fun a => Ext.refl a) 5 rfl (by kernel_rfl) (by kernel_rfl) (by kernel_rfl) rfl (fun _ _ _ _ h => h) rfl (fun K hK => ?_)
      go_big_quiet_op
      first | refine hK _ ?_ | refine ⟨_, fun _ _ => rfl, hK _ ?_⟩
      clear hK K
      refine takeL (fun a => Ext.refl a) (fun a b c h1 h2 => Ext.trans h1 h2) 6 [15] rfl (by kernel_rfl) (by kernel_rfl) (by kernel_rfl) (by kernel_rfl) rfl (fun _ _ _ _ h => h) rfl (fun K hK => ?_)
      refine quiet_cell _ _ rfl _ rfl _ _ Try.underlying23 rfl (fun W' h => World.grownBy.cell h ((HR2.out.cell 2).trans e3) (by simp)) ?_
      refine hK _ ?_
      simp only [Act.put, List.setIfInBounds_toArray, List.set_cons_succ, List.set_cons_zero]
      clear hK K
      refine takeN (fun a => Ext.refl a) 7 rfl (by kernel_rfl) (by kernel_rfl) (by kernel_rfl) rfl (fun _ _ _ _ h => h) rfl (fun K hK => ?_)
      go_big_quiet_op
      first | refine hK _ ?_ | refine ⟨_, fun _ _ => rfl, hK _ ?_⟩
      clear hK K
      refine takeL (fun a => Ext.refl a) (fun a b c h1 h2 => Ext.trans h1 h2) 8 [15] rfl (by kernel_rfl) (by kernel_rfl) (by kernel_rfl) (by kernel_rfl) rfl (fun _ _ _ _ h => h) rfl (fun K hK => ?_)
      refine quiet_cell _ _ rfl _ rfl _ _ Try.underlying23 rfl (fun W' h => World.grownBy.cell h ((HC22.out.cell 2).trans e2) (by simp)) ?_
      refine hK _ ?_
      simp only [Act.put, List.setIfInBounds_toArray, List.set_cons_succ, List.set_cons_zero]
      clear hK K
      refine takeN (fun a => Ext.refl a) 13 rfl (by kernel_rfl) (by kernel_rfl) (by kernel_rfl) rfl (fun _ _ _ _ h => h) rfl (fun K hK => ?_)
      go_big_quiet_op
      first | refine hK _ ?_ | refine ⟨_, fun _ _ => rfl, hK _ ?_⟩
      clear hK K
      refine stepL 9 rfl (by kernel_rfl) rfl (fun K hK => ?_)
      go_simp
      refine (HMON.out _).mono ?_
      rintro e _ ⟨rfl, rfl⟩
      refine hK _ _ (fun _ => Ext.refl _) ?_
      clear hK K
      refine takeN (fun a => Ext.refl a) 10 rfl (by kernel_rfl) (by kernel_rfl) (by kernel_rfl) rfl (fun _ _ _ _ h => h) rfl (fun K hK => ?_)
      go_big_quiet_op
      first | refine hK _ ?_ | refine ⟨_, fun _ _ => rfl, hK _ ?_⟩
      clear hK K
      refine takeN (fun a => Ext.refl a) 11 rfl (by kernel_rfl) (by kernel_rfl) (by kernel_rfl) rfl (fun _ _ _ _ h => h) rfl (fun K hK => ?_)
      go_big_quiet_op
      first | refine hK _ ?_ | refine ⟨_, fun _ _ => rfl, hK _ ?_⟩
      clear hK K
      refine takeN (fun a => Ext.refl a) 12 rfl (by kernel_rfl) (by kernel_rfl) (by kernel_rfl) rfl (fun _ _ _ _ h => h) rfl (fun K hK => ?_)
      go_big_quiet_op
      first | refine hK _ ?_ | refine ⟨_, fun _ _ => rfl, hK _ ?_⟩
      clear hK K
      refine takeN (fun a => Ext.refl a) 14 rfl (by kernel_rfl) (by kernel_rfl) (by kernel_rfl) rfl (fun _ _ _ _ h => h) rfl (fun K hK => ?_)
      go_big_quiet_op
      first | refine hK _ ?_ | refine ⟨_, fun _ _ => rfl, hK _ ?_⟩
      clear hK K
      refine stepL 15 rfl (by kernel_rfl) rfl (fun K hK => ?_)
      have s9 : w3.drew.cell? ⟨w.heap.size, 2, none⟩ = some (.int .u64 (m : Int)) := (HR2.out.cell 2).trans e3
      have f9 : w3.drew.frozen? ⟨w.heap.size, 2, none⟩ = false := HR2.out.free 2
      go_simp
      refine hK _ _ (fun h => absurd rfl h) ?_
      clear hK K
      refine takeN (fun a => Ext.refl a) 16 rfl (by kernel_rfl) (by kernel_rfl) (by kernel_rfl) rfl (fun _ _ _ _ h => h) rfl (fun K hK => ?_)
      go_big_quiet_op
      first | refine hK _ ?_ | refine ⟨_, fun _ _ => rfl, hK _ ?_⟩
      clear hK K
      refine doneL (by kernel_rfl) ?_ _
      have hb5 : Blk (w3.drew.setCell ⟨w.heap.size, 2, none⟩ (.int .u64 (x : Int))) w.heap.size 36 (R.set 2 (.int .u64 (x : Int))) := Blk.set (w := w3.drew) HR2.out 2 _
      have hr8 : (w3.drew.setCell ⟨w.heap.size, 2, none⟩ (.int .u64 (x : Int))).heap[w.heap.size + 3]? = some (.cells Z.toArray 36 (0, 0)) := Blk.keep (w := w3.drew) HR8.out (only_set 2 _) (by simp)
      have hpp : ∀ p : World → Prop, (∀ a b g, w.heap.size ≤ g → g < w.heap.size + 5 → a.grownBy b (some g) → p a → p b) → p w1 → p (w3.drew.setCell ⟨w.heap.size, 2, none⟩ (.int .u64 (x : Int))) := fun p hp h1 =>
        hp _ _ w.heap.size (by omega) (by omega) (only_set 2 _) (hp _ _ w.heap.size (by omega) (by omega) ((Ext.refl w3).drew.any _) (HPP.out p hp h1))
      have HP5 := Lib.hid hpp
      clear hpp
      by_cases hea : ea = 0
      · subst hea
        have hsl2 : (R.set 2 (.int .u64 (x : Int))).length = 7 := by rw [List.length_set]; exact HRL.out
        have hso2 : ∀ u ∈ R.set 2 (.int .u64 (x : Int)), u.oneCell' = true := fun u hu => by
          rcases List.mem_or_eq_of_mem_set hu with h | h
          · exact hro u h
          · rw [h]; rfl
        obtain ⟨D, hD⟩ : ∃ D, D = R.set 2 (.int .u64 (x : Int)) := ⟨_, rfl⟩
        rw [← hD] at hb5 hsl2 hso2
        have HD := Lib.hid hD
        have HDL := Lib.hid hsl2
        have hcs5 := hb5.cells
        clear hD hsl2 hb5
        go_wp2_with (first
          | (refine wpList_load_agg _ rfl 36 (.tmp 4) rfl _ rfl D _ Try.underlying36 rfl (state_size HDL.out) hcs5 ?_)
          | (refine wpList_store_row _ rfl 36 (.tmp 8) (.tmp 105) rfl (w.heap.size + 3) rfl Z D _ rfl hr8 (state_size HDL.out) (by rw [HDL.out, HZL.out]) hso2 ?_)
          | fail)
        have hc9 := Blk.cells (t := 36) (setRow_at (cs' := D.toArray) hr8)
        (try simp only [Exit.inBlock, Exit.then])
        refine bodyPost_ret (results_agg_tmp rfl _ _ _ _ _ rfl Try.underlying36 rfl (state_size HDL.out) hc9) rfl ?_
        refine HQ.out _ _ ⟨_, w1, R, C, 0, 0, am, m, HX5.out, HS5.out, HG1.out, HG.out, fun p hp h1 => hp _ _ (w.heap.size + 3) (by omega) (by omega) (setRow_only _) (HP5.out p hp h1), .inr (.inr ⟨rfl, by rw [← HADD.out], ?_⟩)⟩
        rw [HD.out, HX9.out (by first | trivial | rfl)]
        rfl
      · have hzb : (ea != 0) = true := by simpa using hea
        have HEA := Lib.hid hea
        clear hea hb5
        go_wp2_with (first
          | (refine wpList_build (.inl rfl) 36 _ rfl (.agg zst.toArray) (by kernel_rfl) ?_; rw [HZB.out])
          | (refine wpList_store_row _ rfl 36 (.tmp 8) (.tmp 103) rfl (w.heap.size + 3) rfl Z Z _ rfl hr8 (state_size HZL.out) rfl hzo ?_)
          | fail)
        have hc9 := Blk.cells (t := 36) (setRow_at (cs' := Z.toArray) hr8)
        (try simp only [Exit.inBlock, Exit.then])
        refine bodyPost_ret (results_agg_tmp rfl _ _ _ _ _ rfl Try.underlying36 rfl (state_size HZL.out) hc9) rfl ?_
        refine HQ.out _ _ ⟨_, w1, R, C, 0, 0, am, m, HX5.out, HS5.out, HG1.out, HG.out, fun p hp h1 => hp _ _ (w.heap.size + 3) (by omega) (by omega) (setRow_only _) (HP5.out p hp h1), .inr (.inl ⟨rfl, by rw [← HADD.out]; exact HEA.out, ?_⟩)⟩
        rw [← HE11.out HEA.out]
        rfl
    · have e3 : R[3]? = some (.int .u64 (m : Int)) := e3
      have q1 : ((w1.setRow w.heap.size R.toArray).setRow (w.heap.size + 4) C.toArray).cell? ⟨w.heap.size + 4, 1, none⟩ = some (.int .i64 1) := (HC22.out.cell 1).trans e1
      go_wp2_with (first
        | (refine wpList_store_row _ rfl 36 (.tmp 4) (.tmp 74) rfl w.heap.size rfl SC R _ rfl hr4 (state_size HRL.out) (by rw [HRL.out, HSL.out]) hro ?_)
        | (refine wpList_store_row _ rfl 44 (.tmp 12) (.tmp 75) rfl (w.heap.size + 4) rfl Y C _ rfl hr12 (cond_size HCL.out) (by rw [HCL.out, HYL.out]) hco ?_)
        | fail)
      have HR8 := Lib.hid hr8
      clear hr8
      generalize hw3 : (w1.setRow w.heap.size R.toArray).setRow (w.heap.size + 4) C.toArray = w3 at *
      refine startL 15 Since (by kernel_rfl) ?_
      refine takeN (fun a => Ext.refl a) 0 rfl (by kernel_rfl) (by kernel_rfl) (by kernel_rfl) rfl (fun _ _ _ _ h => h) rfl (fun K hK => ?_)
      go_big_quiet_op
      first | refine hK _ ?_ | refine ⟨_, fun _ _ => rfl, hK _ ?_⟩
      clear hK K
      refine takeL (fun a => Ext.refl a) (fun a b c h1 h2 => Ext.trans h1 h2) 1 [15] rfl (by kernel_rfl) (by kernel_rfl) (by kernel_rfl) (by kernel_rfl) rfl (fun _ _ _ _ h => h) rfl (fun K hK => ?_)
      refine quiet_cell _ _ rfl _ rfl _ _ Try.underlying41 rfl (fun W' h => World.grownBy.cell h ((HC22.out.cell 1).trans e1) (by simp)) ?_
      refine hK _ ?_
      simp only [Act.put, List.setIfInBounds_toArray, List.set_cons_succ, List.set_cons_zero]
      clear hK K
      refine takeN (fun a => Ext.refl a) 2 rfl (by kernel_rfl) (by kernel_rfl) (by kernel_rfl) rfl (fun _ _ _ _ h => h) rfl (fun K hK => ?_)
      go_big_quiet_op
      first | refine hK _ ?_ | refine ⟨_, fun _ _ => rfl, hK _ ?_⟩
      clear hK K
      refine takeL (fun a => Ext.refl a) (fun a b c h1 h2 => Ext.trans h1 h2) 3 [15] rfl (by kernel_rfl) (by kernel_rfl) (by kernel_rfl) (by kernel_rfl) rfl (fun _ _ _ _ h => h) rfl (fun K hK => ?_)
      refine quiet_cell _ _ rfl _ rfl _ _ Try.underlying41 rfl (fun W' h => World.grownBy.cell h ((HC22.out.cell 1).trans e1) (by simp)) ?_
      refine hK _ ?_
      simp only [Act.put, List.setIfInBounds_toArray, List.set_cons_succ, List.set_cons_zero]
      clear hK K
      refine takeN (fun a => Ext.refl a) 4 rfl (by kernel_rfl) (by kernel_rfl) (by kernel_rfl) rfl (fun _ _ _ _ h => h) rfl (fun K hK => ?_)
      go_big_quiet_op
      first | refine hK _ ?_ | refine ⟨_, fun _ _ => rfl, hK _ ?_⟩
      clear hK K
      refine takeN (fun a => Ext.refl a) 5 rfl (by kernel_rfl) (by kernel_rfl) (by kernel_rfl) rfl (fun _ _ _ _ h => h) rfl (fun K hK => ?_)
      go_big_quiet_op
      first | refine hK _ ?_ | refine ⟨_, fun _ _ => rfl, hK _ ?_⟩
      clear hK K
      refine takeL (fun a => Ext.refl a) (fun a b c h1 h2 => Ext.trans h1 h2) 6 [15] rfl (by kernel_rfl) (by kernel_rfl) (by kernel_rfl) (by kernel_rfl) rfl (fun _ _ _ _ h => h) rfl (fun K hK => ?_)
      refine quiet_cell _ _ rfl _ rfl _ _ Try.underlying23 rfl (fun W' h => World.grownBy.cell h ((HR2.out.cell 3).trans e3) (by simp)) ?_
      refine hK _ ?_
      simp only [Act.put, List.setIfInBounds_toArray, List.set_cons_succ, List.set_cons_zero]
      clear hK K
      refine takeN (fun a => Ext.refl a) 7 rfl (by kernel_rfl) (by kernel_rfl) (by kernel_rfl) rfl (fun _ _ _ _ h => h) rfl (fun K hK => ?_)
      go_big_quiet_op
      first | refine hK _ ?_ | refine ⟨_, fun _ _ => rfl, hK _ ?_⟩
      clear hK K
      refine takeL (fun a => Ext.refl a) (fun a b c h1 h2 => Ext.trans h1 h2) 8 [15] rfl (by kernel_rfl) (by kernel_rfl) (by kernel_rfl) (by kernel_rfl) rfl (fun _ _ _ _ h => h) rfl (fun K hK => ?_)
      refine quiet_cell _ _ rfl _ rfl _ _ Try.underlying23 rfl (fun W' h => World.grownBy.cell h ((HC22.out.cell 2).trans e2) (by simp)) ?_
      refine hK _ ?_
      simp only [Act.put, List.setIfInBounds_toArray, List.set_cons_succ, List.set_cons_zero]
      clear hK K
      refine takeN (fun a => Ext.refl a) 13 rfl (by kernel_rfl) (by kernel_rfl) (by kernel_rfl) rfl (fun _ _ _ _ h => h) rfl (fun K hK => ?_)
      go_big_quiet_op
      first | refine hK _ ?_ | refine ⟨_, fun _ _ => rfl, hK _ ?_⟩
      clear hK K
      refine stepL 9 rfl (by kernel_rfl) rfl (fun K hK => ?_)
      go_simp
      refine (HMON.out _).mono ?_
      rintro e _ ⟨rfl, rfl⟩
      refine hK _ _ (fun _ => Ext.refl _) ?_
      clear hK K
      refine takeN (fun a => Ext.refl a) 10 rfl (by kernel_rfl) (by kernel_rfl) (by kernel_rfl) rfl (fun _ _ _ _ h => h) rfl (fun K hK => ?_)
      go_big_quiet_op
      first | refine hK _ ?_ | refine ⟨_, fun _ _ => rfl, hK _ ?_⟩
      clear hK K
      refine takeN (fun a => Ext.refl a) 11 rfl (by kernel_rfl) (by kernel_rfl) (by kernel_rfl) rfl (fun _ _ _ _ h => h) rfl (fun K hK => ?_)
      go_big_quiet_op
      first | refine hK _ ?_ | refine ⟨_, fun _ _ => rfl, hK _ ?_⟩
      clear hK K
      refine takeN (fun a => Ext.refl a) 12 rfl (by kernel_rfl) (by kernel_rfl) (by kernel_rfl) rfl (fun _ _ _ _ h => h) rfl (fun K hK => ?_)
      go_big_quiet_op
      first | refine hK _ ?_ | refine ⟨_, fun _ _ => rfl, hK _ ?_⟩
      clear hK K
      refine takeN (fun a => Ext.refl a) 14 rfl (by kernel_rfl) (by kernel_rfl) (by kernel_rfl) rfl (fun _ _ _ _ h => h) rfl (fun K hK => ?_)
      go_big_quiet_op
      first | refine hK _ ?_ | refine ⟨_, fun _ _ => rfl, hK _ ?_⟩
      clear hK K
      refine stepL 15 rfl (by kernel_rfl) rfl (fun K hK => ?_)
      have s9 : w3.drew.cell? ⟨w.heap.size, 3, none⟩ = some (.int .u64 (m : Int)) := (HR2.out.cell 3).trans e3
      have f9 : w3.drew.frozen? ⟨w.heap.size, 3, none⟩ = false := HR2.out.free 3
      go_simp
      refine hK _ _ (fun h => absurd rfl h) ?_
      clear hK K
      refine takeN (fun a => Ext.refl a) 16 rfl (by kernel_rfl) (by kernel_rfl) (by kernel_rfl) rfl (fun _ _ _ _ h => h) rfl (fun K hK => ?_)
      go_big_quiet_op
      first | refine hK _ ?_ | refine ⟨_, fun _ _ => rfl, hK _ ?_⟩
      clear hK K
      refine doneL (by kernel_rfl) ?_ _
      have hb5 : Blk (w3.drew.setCell ⟨w.heap.size, 3, none⟩ (.int .u64 (x : Int))) w.heap.size 36 (R.set 3 (.int .u64 (x : Int))) := Blk.set (w := w3.drew) HR2.out 3 _
      have hr8 : (w3.drew.setCell ⟨w.heap.size, 3, none⟩ (.int .u64 (x : Int))).heap[w.heap.size + 3]? = some (.cells Z.toArray 36 (0, 0)) := Blk.keep (w := w3.drew) HR8.out (only_set 3 _) (by simp)
      have hpp : ∀ p : World → Prop, (∀ a b g, w.heap.size ≤ g → g < w.heap.size + 5 → a.grownBy b (some g) → p a → p b) → p w1 → p (w3.drew.setCell ⟨w.heap.size, 3, none⟩ (.int .u64 (x : Int))) := fun p hp h1 =>
        hp _ _ w.heap.size (by omega) (by omega) (only_set 3 _) (hp _ _ w.heap.size (by omega) (by omega) ((Ext.refl w3).drew.any _) (HPP.out p hp h1))
      have HP5 := Lib.hid hpp
      clear hpp
      by_cases hea : ea = 0
      · subst hea
        have hsl2 : (R.set 3 (.int .u64 (x : Int))).length = 7 := by rw [List.length_set]; exact HRL.out
        have hso2 : ∀ u ∈ R.set 3 (.int .u64 (x : Int)), u.oneCell' = true := fun u hu => by
          rcases List.mem_or_eq_of_mem_set hu with h | h
          · exact hro u h
          · rw [h]; rfl
        obtain ⟨D, hD⟩ : ∃ D, D = R.set 3 (.int .u64 (x : Int)) := ⟨_, rfl⟩
        rw [← hD] at hb5 hsl2 hso2
        have HD := Lib.hid hD
        have HDL := Lib.hid hsl2
        have hcs5 := hb5.cells
        clear hD hsl2 hb5
        go_wp2_with (first
          | (refine wpList_load_agg _ rfl 36 (.tmp 4) rfl _ rfl D _ Try.underlying36 rfl (state_size HDL.out) hcs5 ?_)
          | (refine wpList_store_row _ rfl 36 (.tmp 8) (.tmp 105) rfl (w.heap.size + 3) rfl Z D _ rfl hr8 (state_size HDL.out) (by rw [HDL.out, HZL.out]) hso2 ?_)
          | fail)
        have hc9 := Blk.cells (t := 36) (setRow_at (cs' := D.toArray) hr8)
        (try simp only [Exit.inBlock, Exit.then])
        refine bodyPost_ret (results_agg_tmp rfl _ _ _ _ _ rfl Try.underlying36 rfl (state_size HDL.out) hc9) rfl ?_
        refine HQ.out _ _ ⟨_, w1, R, C, 0, 1, am, m, HX5.out, HS5.out, HG1.out, HG.out, fun p hp h1 => hp _ _ (w.heap.size + 3) (by omega) (by omega) (setRow_only _) (HP5.out p hp h1), .inr (.inr ⟨rfl, by rw [← HADD.out], ?_⟩)⟩
        rw [HD.out, HX9.out (by first | trivial | rfl)]
        rfl
      · have hzb : (ea != 0) = true := by simpa using hea
        have HEA := Lib.hid hea
        clear hea hb5
        go_wp2_with (first
          | (refine wpList_build (.inl rfl) 36 _ rfl (.agg zst.toArray) (by kernel_rfl) ?_; rw [HZB.out])
          | (refine wpList_store_row _ rfl 36 (.tmp 8) (.tmp 103) rfl (w.heap.size + 3) rfl Z Z _ rfl hr8 (state_size HZL.out) rfl hzo ?_)
          | fail)
        have hc9 := Blk.cells (t := 36) (setRow_at (cs' := Z.toArray) hr8)
        (try simp only [Exit.inBlock, Exit.then])
        refine bodyPost_ret (results_agg_tmp rfl _ _ _ _ _ rfl Try.underlying36 rfl (state_size HZL.out) hc9) rfl ?_
        refine HQ.out _ _ ⟨_, w1, R, C, 0, 1, am, m, HX5.out, HS5.out, HG1.out, HG.out, fun p hp h1 => hp _ _ (w.heap.size + 3) (by omega) (by omega) (setRow_only _) (HP5.out p hp h1), .inr (.inl ⟨rfl, by rw [← HADD.out]; exact HEA.out, ?_⟩)⟩
        rw [← HE11.out HEA.out]
        rfl
  · have hzb : (z != 0) = true := by simpa using hz0
    go_wp2_with (first
      | (refine wpList_store_row _ rfl 36 (.tmp 4) (.tmp 74) rfl w.heap.size rfl SC R _ rfl hr4 (state_size HRL.out) (by rw [HRL.out, HSL.out]) hro ?_)
      | (refine wpList_store_row _ rfl 44 (.tmp 12) (.tmp 75) rfl (w.heap.size + 4) rfl Y C _ rfl hr12 (cond_size HCL.out) (by rw [HCL.out, HYL.out]) hco ?_)
      | (refine wpList_load_agg _ rfl 36 (.tmp 4) rfl _ rfl R _ Try.underlying36 rfl (state_size HRL.out) hrcw ?_)
      | (refine wpList_store_row _ rfl 36 (.tmp 8) (.tmp 84) rfl (w.heap.size + 3) rfl Z R _ rfl hr8 (state_size HRL.out) (by rw [HRL.out, HZL.out]) hro ?_)
      | fail)
    have hc9 := Blk.cells (t := 36) (setRow_at (cs' := R.toArray) hr8)
    (try simp only [Exit.inBlock, Exit.then])
    refine bodyPost_ret (results_agg_tmp rfl _ _ _ _ _ rfl Try.underlying36 rfl (state_size HRL.out) hc9) rfl ?_
    exact HQ.out _ _ ⟨_, w1, R, C, z, cs, am, m, HX5.out, HS5.out, HG1.out, HG.out, fun p hp h1 => hp _ _ (w.heap.size + 3) (by omega) (by omega) (setRow_only _) (HPP.out p hp h1), .inl ⟨hz0, rfl⟩⟩
end Go.Proofs.Ytnpolfihbfdggaa

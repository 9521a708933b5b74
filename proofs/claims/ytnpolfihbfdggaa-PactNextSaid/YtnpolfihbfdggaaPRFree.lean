/- Walks of the document's Free and room of layer 12. Conditions: the state's numbers are in their bounds. -/
import Derived.Test.YtnpolfihbfdggaaPRef12
import Derived.Test.YtnpolfihbfdggaaMonoL
import Derived.Test.YtnpolfihbfdggaaMono2
import Derived.Test.YtnpolfihbfdggaaPTo12
import Derived.Test.YtnpolfihbfdggaaField
set_option linter.unusedVariables false
set_option linter.unusedSimpArgs false
set_option linter.unnecessarySimpa false
namespace Go.Proofs.Ytnpolfihbfdggaa
open Go.RowKit

theorem sum2_add {a b : Nat} (ha : a < M64) : sumM 0 [a, b] = addM a b := by
  unfold addM
  simp only [sumM, Nat.zero_add]
  rw [if_pos ha]
def z3 : List Value := [.int .u64 0, .int .u64 0, .int .u64 0]
theorem z3_zero : (Try.prog.info? 91).bind (fun i => i.zero.map (·.cells)) = some z3.toArray := by kernel_rfl
theorem z3_size : (Try.prog.info? 91).map (·.size) = some 3 := by kernel_rfl
set_option maxRecDepth 100000 in
set_option maxHeartbeats 2000000 in
theorem RFree0 (w : World) (SC PC : List Value) (pk mo mm tk ha : Nat) (he : Int) (hsl : SC.length = 7) (hpl : PC.length = 2) (hP : PC[0]? = some (.int .u64 (pk : Int))) (hM : SC[3]? = some (.int .u64 (mo : Int))) (hN : SC[2]? = some (.int .u64 (mm : Int))) (hT : SC[4]? = some (.int .u64 (tk : Int)))
    (hpk : pk < M64) (hmo : mo < M64) (hmm : mm < M64) (htk : tk < M64) (hha : ha < M64)
    (hhd : ∀ W, Ext w W → Calls Try.prog 22 #[.agg SC.toArray, .int .i64 0] W fun e w' => e = .returned (numErr (ha, he)) ∧ Ext W w') :
    Calls Try.prog 24 #[.agg SC.toArray, .agg PC.toArray, .int .i64 0] w fun e w' => e = .returned (numErr (if he = 0 then (if (addM pk mo).2 = 0 then subL (addM pk mo).1 [mm, tk, ha] else (0, 11)) else (0, he))) ∧ Ext w w' := by
  have hb0 : Blk ((w.alloc (.cells SC.toArray 27)).alloc (.cells PC.toArray 24)) w.heap.size 27 SC := (Blk.new _ _ _).keep ((Ext.refl _).alloc _) (by simp)
  have hb1 : Blk ((w.alloc (.cells SC.toArray 27)).alloc (.cells PC.toArray 24)) (w.heap.size + 1) 24 PC := Blk.new_at (by simp) _ _
  have hx0 : Ext w ((w.alloc (.cells SC.toArray 27)).alloc (.cells PC.toArray 24)) := ((Ext.refl w).alloc _).alloc _
  have hz3 := z3_zero
  obtain ⟨Z3, hZ3⟩ : ∃ Z3, Z3 = z3 := ⟨_, rfl⟩
  rw [← hZ3] at hz3
  have HZ3 := Lib.hid hZ3
  simp only [numErr] at hhd
  have hcs := hb0.cells
  have HSL := Lib.hid hsl
  have HHD := Lib.hid hhd
  have HB0 := Lib.hid hb0
  have HB1 := Lib.hid hb1
  have HX0 := Lib.hid hx0
  have HP := Lib.hid hP
  have HM := Lib.hid hM
  have HN := Lib.hid hN
  have HT := Lib.hid hT
  have hadd := fun W => RAdd pk mo W hpk hmo
  obtain ⟨res, hres⟩ : ∃ res, res = (if he = 0 then (if (addM pk mo).2 = 0 then subL (addM pk mo).1 [mm, tk, ha] else (0, 11)) else (0, he)) := ⟨_, rfl⟩
  rw [← hres]
  clear hb0 hb1 hx0 hsl hpl hhd hP hM hN hT hZ3
  by_cases hz : he = 0
  · subst hz
    rw [if_pos rfl] at hres
    by_cases hov : pk + mo < M64
    · have ea : addM pk mo = (pk + mo, 0) := by unfold addM; rw [if_pos hov]
      rw [ea] at hadd hres
      rw [if_pos rfl] at hres
      simp only [numErr] at hadd hres
      have HADD := Lib.hid hadd
      have HRES := Lib.hid hres
      clear hadd hres ea
      go_enter Try.func24, Try.ntmps24
      go_wp2_with (first
        | (refine wpList_load_agg _ rfl 27 (.tmp 3) rfl _ rfl SC _ Try.underlying27 rfl (szSFrom HSL.out) hcs ?_)
        | fail)
      refine (HHD.out _ HX0.out).mono ?_
      rintro e w1 ⟨rfl, hx1⟩
      have HX1 := Lib.hid hx1
      clear hx1
      go_wp2
      have hx1 := HX1.out.trans (Ext.refl w1).drew
      refine startM Since (by kernel_rfl) ?_
      generalize w1.drew = w2 at *
      have cP := ((HB1.out.keep hx1 (by simp)).cell 0).trans HP.out
      have cM := ((HB0.out.keep hx1 (by simp)).cell 3).trans HM.out
      have HX2 := Lib.hid hx1
      clear hx1
      refine takeE 0 rfl (by kernel_rfl) (by kernel_rfl) (by kernel_rfl) rfl (fun _ _ _ _ h => h) rfl (fun K hK => ?_)
      go_big_quiet_op
      first | refine hK _ ?_ | refine ⟨_, fun _ _ => rfl, hK _ ?_⟩
      clear hK K
      refine takeE 1 rfl (by kernel_rfl) (by kernel_rfl) (by kernel_rfl) rfl (fun _ _ _ _ h => h) rfl (fun K hK => ?_)
      go_big_quiet_op
      first | refine hK _ ?_ | refine ⟨_, fun _ _ => rfl, hK _ ?_⟩
      clear hK K
      refine takeE 2 rfl (by kernel_rfl) (by kernel_rfl) (by kernel_rfl) rfl (fun _ _ _ _ h => h) rfl (fun K hK => ?_)
      refine quiet_cell _ _ rfl _ rfl _ _ Try.underlying23 rfl (fun W' h => World.grownBy.cell h.ext cP (by simp)) ?_
      refine hK _ ?_
      simp only [Act.put, List.setIfInBounds_toArray, List.set_cons_succ, List.set_cons_zero]
      clear hK K
      refine takeE 3 rfl (by kernel_rfl) (by kernel_rfl) (by kernel_rfl) rfl (fun _ _ _ _ h => h) rfl (fun K hK => ?_)
      go_big_quiet_op
      first | refine hK _ ?_ | refine ⟨_, fun _ _ => rfl, hK _ ?_⟩
      clear hK K
      refine takeE 4 rfl (by kernel_rfl) (by kernel_rfl) (by kernel_rfl) rfl (fun _ _ _ _ h => h) rfl (fun K hK => ?_)
      go_big_quiet_op
      first | refine hK _ ?_ | refine ⟨_, fun _ _ => rfl, hK _ ?_⟩
      clear hK K
      refine takeE 5 rfl (by kernel_rfl) (by kernel_rfl) (by kernel_rfl) rfl (fun _ _ _ _ h => h) rfl (fun K hK => ?_)
      go_big_quiet_op
      first | refine hK _ ?_ | refine ⟨_, fun _ _ => rfl, hK _ ?_⟩
      clear hK K
      refine takeE 6 rfl (by kernel_rfl) (by kernel_rfl) (by kernel_rfl) rfl (fun _ _ _ _ h => h) rfl (fun K hK => ?_)
      go_big_quiet_op
      first | refine hK _ ?_ | refine ⟨_, fun _ _ => rfl, hK _ ?_⟩
      clear hK K
      refine takeE 7 rfl (by kernel_rfl) (by kernel_rfl) (by kernel_rfl) rfl (fun _ _ _ _ h => h) rfl (fun K hK => ?_)
      refine quiet_cell _ _ rfl _ rfl _ _ Try.underlying23 rfl (fun W' h => World.grownBy.cell h.ext cM (by simp)) ?_
      refine hK _ ?_
      simp only [Act.put, List.setIfInBounds_toArray, List.set_cons_succ, List.set_cons_zero]
      clear hK K
      refine stepM 8 rfl (by kernel_rfl) rfl (fun K hK => ?_)
      go_simp
      refine (HADD.out _).mono ?_
      rintro e _ ⟨rfl, rfl⟩
      refine hK _ _ (Ext.refl _) ?_
      clear hK K
      refine takeE 9 rfl (by kernel_rfl) (by kernel_rfl) (by kernel_rfl) rfl (fun _ _ _ _ h => h) rfl (fun K hK => ?_)
      go_big_quiet_op
      first | refine hK _ ?_ | refine ⟨_, fun _ _ => rfl, hK _ ?_⟩
      clear hK K
      refine takeE 10 rfl (by kernel_rfl) (by kernel_rfl) (by kernel_rfl) rfl (fun _ _ _ _ h => h) rfl (fun K hK => ?_)
      go_big_quiet_op
      first | refine hK _ ?_ | refine ⟨_, fun _ _ => rfl, hK _ ?_⟩
      clear hK K
      refine takeE 11 rfl (by kernel_rfl) (by kernel_rfl) (by kernel_rfl) rfl (fun _ _ _ _ h => h) rfl (fun K hK => ?_)
      go_big_quiet_op
      first | refine hK _ ?_ | refine ⟨_, fun _ _ => rfl, hK _ ?_⟩
      clear hK K
      refine takeE 12 rfl (by kernel_rfl) (by kernel_rfl) (by kernel_rfl) rfl (fun _ _ _ _ h => h) rfl (fun K hK => ?_)
      go_big_quiet_op
      first | refine hK _ ?_ | refine ⟨_, fun _ _ => rfl, hK _ ?_⟩
      clear hK K
      refine takeE 13 rfl (by kernel_rfl) (by kernel_rfl) (by kernel_rfl) rfl (fun _ _ _ _ h => h) rfl (fun K hK => ?_)
      go_big_quiet_op
      first | refine hK _ ?_ | refine ⟨_, fun _ _ => rfl, hK _ ?_⟩
      clear hK K
      refine doneM (by kernel_rfl) ?_ _
      have HX1 := Lib.hid (HX2.out.trans (Ext.refl w2).drew)
      clear cP cM
      go_wp2
      have hx1 := HX1.out
      have cN := ((HB0.out.keep hx1 (by simp)).cell 2).trans HN.out
      have cT := ((HB0.out.keep hx1 (by simp)).cell 4).trans HT.out
      refine startL 11 Since (by kernel_rfl) ?_
      (try simp only [Act.put, List.setIfInBounds_toArray, List.set_cons_succ, List.set_cons_zero])
      generalize w2.drew = w3 at *
      have HX3 := Lib.hid hx1
      clear hx1
      refine takeN (fun a => Ext.refl a) 0 rfl (by kernel_rfl) (by kernel_rfl) (by kernel_rfl) rfl (fun _ _ _ _ h => h) rfl (fun K hK => ?_)
      go_big_quiet_op
      first | refine hK _ ?_ | refine ⟨_, fun _ _ => rfl, hK _ ?_⟩
      clear hK K
      refine takeN (fun a => Ext.refl a) 1 rfl (by kernel_rfl) (by kernel_rfl) (by kernel_rfl) rfl (fun _ _ _ _ h => h) rfl (fun K hK => ?_)
      go_big_quiet_op
      first | refine hK _ ?_ | refine ⟨_, fun _ _ => rfl, hK _ ?_⟩
      clear hK K
      refine takeN (fun a => Ext.refl a) 2 rfl (by kernel_rfl) (by kernel_rfl) (by kernel_rfl) rfl (fun _ _ _ _ h => h) rfl (fun K hK => ?_)
      go_big_quiet_op
      first | refine hK _ ?_ | refine ⟨_, fun _ _ => rfl, hK _ ?_⟩
      clear hK K
      refine takeL (fun a => Ext.refl a) (fun a b c h1 h2 => Ext.trans h1 h2) 3 [11] rfl (by kernel_rfl) (by kernel_rfl) (by kernel_rfl) (by kernel_rfl) rfl (fun _ _ _ _ h => h) rfl (fun K hK => ?_)
      refine quiet_cell _ _ rfl _ rfl _ _ Try.underlying23 rfl (fun W' h => World.grownBy.cell h cN (by simp)) ?_
      refine hK _ ?_
      simp only [Act.put, List.setIfInBounds_toArray, List.set_cons_succ, List.set_cons_zero]
      clear hK K
      refine takeN (fun a => Ext.refl a) 4 rfl (by kernel_rfl) (by kernel_rfl) (by kernel_rfl) rfl (fun _ _ _ _ h => h) rfl (fun K hK => ?_)
      go_big_quiet_op
      first | refine hK _ ?_ | refine ⟨_, fun _ _ => rfl, hK _ ?_⟩
      clear hK K
      refine takeN (fun a => Ext.refl a) 5 rfl (by kernel_rfl) (by kernel_rfl) (by kernel_rfl) rfl (fun _ _ _ _ h => h) rfl (fun K hK => ?_)
      go_big_quiet_op
      first | refine hK _ ?_ | refine ⟨_, fun _ _ => rfl, hK _ ?_⟩
      clear hK K
      refine takeN (fun a => Ext.refl a) 6 rfl (by kernel_rfl) (by kernel_rfl) (by kernel_rfl) rfl (fun _ _ _ _ h => h) rfl (fun K hK => ?_)
      go_big_quiet_op
      first | refine hK _ ?_ | refine ⟨_, fun _ _ => rfl, hK _ ?_⟩
      clear hK K
      refine takeL (fun a => Ext.refl a) (fun a b c h1 h2 => Ext.trans h1 h2) 7 [11] rfl (by kernel_rfl) (by kernel_rfl) (by kernel_rfl) (by kernel_rfl) rfl (fun _ _ _ _ h => h) rfl (fun K hK => ?_)
      refine quiet_cell _ _ rfl _ rfl _ _ Try.underlying23 rfl (fun W' h => World.grownBy.cell h cT (by simp)) ?_
      refine hK _ ?_
      simp only [Act.put, List.setIfInBounds_toArray, List.set_cons_succ, List.set_cons_zero]
      clear hK K
      refine takeN (fun a => Ext.refl a) 8 rfl (by kernel_rfl) (by kernel_rfl) (by kernel_rfl) rfl (fun _ _ _ _ h => h) rfl (fun K hK => ?_)
      go_big_quiet_op
      first | refine hK _ ?_ | refine ⟨_, fun _ _ => rfl, hK _ ?_⟩
      clear hK K
      refine takeN (fun a => Ext.refl a) 9 rfl (by kernel_rfl) (by kernel_rfl) (by kernel_rfl) rfl (fun _ _ _ _ h => h) rfl (fun K hK => ?_)
      go_big_quiet_op
      first | refine hK _ ?_ | refine ⟨_, fun _ _ => rfl, hK _ ?_⟩
      clear hK K
      refine stepL 10 rfl (by kernel_rfl) rfl (fun K hK => ?_)
      refine wp_alloc_agg 91 rfl Z3 hz3 ?_
      refine hK _ _ (fun _ => (Ext.refl _).alloc _) ?_
      clear hK K
      (try simp only [Act.put, List.setIfInBounds_toArray, List.set_cons_succ, List.set_cons_zero])
      refine stepL 11 rfl (by kernel_rfl) rfl (fun K hK => ?_)
      refine wp_store_row 91 (.tmp 12) (.tmp 53) rfl w3.heap.size rfl Z3 [.int .u64 (mm : Int), .int .u64 (tk : Int), .int .u64 (ha : Int)] _ rfl (Blk.new w3 91 Z3) z3_size (by rw [HZ3.out]; rfl) (by simp [Value.oneCell']) ?_
      refine hK _ _ (fun h => absurd rfl h) ?_
      clear hK K
      (try simp only [Act.put, List.setIfInBounds_toArray, List.set_cons_succ, List.set_cons_zero])
      refine doneL (by kernel_rfl) ?_ _
      have hbo : Blk ((w3.alloc (.cells Z3.toArray 91)).setRow w3.heap.size [.int .u64 (mm : Int), .int .u64 (tk : Int), .int .u64 (ha : Int)].toArray) w3.heap.size 91 [.int .u64 (mm : Int), .int .u64 (tk : Int), .int .u64 (ha : Int)] := setRow_at (Blk.new w3 91 Z3)
      have hx5 : Ext w ((w3.alloc (.cells Z3.toArray 91)).setRow w3.heap.size [.int .u64 (mm : Int), .int .u64 (tk : Int), .int .u64 (ha : Int)].toArray) := grown_then ((HX0.out.trans HX3.out).alloc _) (setRow_only _) (.inr (by rintro b ⟨⟩; have h1 := HX0.out.size; have h2 := HX3.out.size; omega))
      have HBO := Lib.hid hbo
      have HX5 := Lib.hid hx5
      clear hbo hx5
      generalize (w3.alloc (.cells Z3.toArray 91)).setRow w3.heap.size [.int .u64 (mm : Int), .int .u64 (tk : Int), .int .u64 (ha : Int)].toArray = w5 at *
      generalize w3.heap.size = g at *
      go_wp2
      go_loop [10, 11, 13] (fun n f i => ∃ k x : Nat, k ≤ 3 ∧ x < M64 ∧ i = .int .i64 k ∧ n = .int .u64 x ∧ res = subL x ([mm, tk, ha].drop k) ∧ ∃ q, f = q) (fun _ _ i => 3 - (intOf i).toNat)
      case atStart => exact ⟨0, pk + mo, by omega, hov, rfl, by go_num, HRES.out, _, rfl⟩
      case round =>
        clear HRES
        obtain ⟨k, x, hk, hx, rfl, rfl, hr, q, rfl⟩ := hrel
        by_cases hlt : k < 3
        · obtain ⟨y, hy, hyl, hd⟩ : ∃ y : Nat, [Value.int .u64 (mm : Int), .int .u64 (tk : Int), .int .u64 (ha : Int)][k]? = some (.int .u64 (y : Int)) ∧ y < M64 ∧ [mm, tk, ha].drop k = y :: [mm, tk, ha].drop (k + 1) := by
            rcases (by omega : k = 0 ∨ k = 1 ∨ k = 2) with rfl | rfl | rfl
            · exact ⟨mm, rfl, hmm, rfl⟩
            · exact ⟨tk, rfl, htk, rfl⟩
            · exact ⟨ha, rfl, hha, rfl⟩
          have cY := (HBO.out.cell k).trans hy
          have hsub := fun W => RSub x y W hx hyl
          rw [hd] at hr
          by_cases hxy : x < y
          · have es : subM x y = (0, 12) := by unfold subM; rw [if_pos hxy]
            replace hr : res = (0, 12) := by rw [hr, subL, if_pos hxy]
            rw [es] at hsub
            simp only [numErr] at hsub
            have HSUB := Lib.hid hsub
            have HR := Lib.hid hr
            clear hsub es hy hd hr
            rcases (by omega : k = 0 ∨ k = 1 ∨ k = 2) with rfl | rfl | rfl
            all_goals
              go_wp2_with (go_at_call 43; refine (HSUB.out _).mono ?_; rintro e w' ⟨rfl, rfl⟩)
              go_ret2
              exact ⟨by rw [HR.out]; rfl, HX5.out⟩
          · have es : subM x y = (x - y, 0) := by unfold subM; rw [if_neg hxy]
            replace hr : res = subL (x - y) ([mm, tk, ha].drop (k + 1)) := by rw [hr, subL, if_neg hxy]
            rw [es] at hsub
            simp only [numErr] at hsub
            have HSUB := Lib.hid hsub
            have HR := Lib.hid hr
            have hxl : x - y < M64 := by omega
            generalize x - y = d at *
            clear hsub es hy hd hr
            rcases (by omega : k = 0 ∨ k = 1 ∨ k = 2) with rfl | rfl | rfl
            all_goals
              go_wp2_with (go_at_call 43; refine (HSUB.out _).mono ?_; rintro e w' ⟨rfl, rfl⟩)
              go_round
              case rel =>
                refine ⟨trivial, ?_⟩
                repeat apply Exists.intro
                refine ⟨?_, rfl⟩
                exact ⟨_, d, by omega, hxl, by go_num, rfl, HR.out, _, rfl⟩
              case measure => simp [intOf]
        · obtain rfl : k = 3 := by omega
          replace hr : res = (x, 0) := hr
          have HR := Lib.hid hr
          clear hr
          go_wp2
          go_ret2
          exact ⟨by rw [HR.out]; rfl, HX5.out⟩
    · have ea : addM pk mo = (0, 11) := by unfold addM; rw [if_neg hov]
      rw [ea] at hadd hres
      rw [if_neg (by decide)] at hres
      simp only [numErr] at hadd hres
      have HADD := Lib.hid hadd
      have HRES := Lib.hid hres
      clear hadd hres ea
      go_enter Try.func24, Try.ntmps24
      go_wp2_with (first
        | (refine wpList_load_agg _ rfl 27 (.tmp 3) rfl _ rfl SC _ Try.underlying27 rfl (szSFrom HSL.out) hcs ?_)
        | fail)
      refine (HHD.out _ HX0.out).mono ?_
      rintro e w1 ⟨rfl, hx1⟩
      have HX1 := Lib.hid hx1
      clear hx1
      go_wp2
      have hx1 := HX1.out.trans (Ext.refl w1).drew
      refine startM Since (by kernel_rfl) ?_
      generalize w1.drew = w2 at *
      have cP := ((HB1.out.keep hx1 (by simp)).cell 0).trans HP.out
      have cM := ((HB0.out.keep hx1 (by simp)).cell 3).trans HM.out
      have HX2 := Lib.hid hx1
      clear hx1
      refine takeE 0 rfl (by kernel_rfl) (by kernel_rfl) (by kernel_rfl) rfl (fun _ _ _ _ h => h) rfl (fun K hK => ?_)
      go_big_quiet_op
      first | refine hK _ ?_ | refine ⟨_, fun _ _ => rfl, hK _ ?_⟩
      clear hK K
      refine takeE 1 rfl (by kernel_rfl) (by kernel_rfl) (by kernel_rfl) rfl (fun _ _ _ _ h => h) rfl (fun K hK => ?_)
      go_big_quiet_op
      first | refine hK _ ?_ | refine ⟨_, fun _ _ => rfl, hK _ ?_⟩
      clear hK K
      refine takeE 2 rfl (by kernel_rfl) (by kernel_rfl) (by kernel_rfl) rfl (fun _ _ _ _ h => h) rfl (fun K hK => ?_)
      refine quiet_cell _ _ rfl _ rfl _ _ Try.underlying23 rfl (fun W' h => World.grownBy.cell h.ext cP (by simp)) ?_
      refine hK _ ?_
      simp only [Act.put, List.setIfInBounds_toArray, List.set_cons_succ, List.set_cons_zero]
      clear hK K
      refine takeE 3 rfl (by kernel_rfl) (by kernel_rfl) (by kernel_rfl) rfl (fun _ _ _ _ h => h) rfl (fun K hK => ?_)
      go_big_quiet_op
      first | refine hK _ ?_ | refine ⟨_, fun _ _ => rfl, hK _ ?_⟩
      clear hK K
      refine takeE 4 rfl (by kernel_rfl) (by kernel_rfl) (by kernel_rfl) rfl (fun _ _ _ _ h => h) rfl (fun K hK => ?_)
      go_big_quiet_op
      first | refine hK _ ?_ | refine ⟨_, fun _ _ => rfl, hK _ ?_⟩
      clear hK K
      refine takeE 5 rfl (by kernel_rfl) (by kernel_rfl) (by kernel_rfl) rfl (fun _ _ _ _ h => h) rfl (fun K hK => ?_)
      go_big_quiet_op
      first | refine hK _ ?_ | refine ⟨_, fun _ _ => rfl, hK _ ?_⟩
      clear hK K
      refine takeE 6 rfl (by kernel_rfl) (by kernel_rfl) (by kernel_rfl) rfl (fun _ _ _ _ h => h) rfl (fun K hK => ?_)
      go_big_quiet_op
      first | refine hK _ ?_ | refine ⟨_, fun _ _ => rfl, hK _ ?_⟩
      clear hK K
      refine takeE 7 rfl (by kernel_rfl) (by kernel_rfl) (by kernel_rfl) rfl (fun _ _ _ _ h => h) rfl (fun K hK => ?_)
      refine quiet_cell _ _ rfl _ rfl _ _ Try.underlying23 rfl (fun W' h => World.grownBy.cell h.ext cM (by simp)) ?_
      refine hK _ ?_
      simp only [Act.put, List.setIfInBounds_toArray, List.set_cons_succ, List.set_cons_zero]
      clear hK K
      refine stepM 8 rfl (by kernel_rfl) rfl (fun K hK => ?_)
      go_simp
      refine (HADD.out _).mono ?_
      rintro e _ ⟨rfl, rfl⟩
      refine hK _ _ (Ext.refl _) ?_
      clear hK K
      refine takeE 9 rfl (by kernel_rfl) (by kernel_rfl) (by kernel_rfl) rfl (fun _ _ _ _ h => h) rfl (fun K hK => ?_)
      go_big_quiet_op
      first | refine hK _ ?_ | refine ⟨_, fun _ _ => rfl, hK _ ?_⟩
      clear hK K
      refine takeE 10 rfl (by kernel_rfl) (by kernel_rfl) (by kernel_rfl) rfl (fun _ _ _ _ h => h) rfl (fun K hK => ?_)
      go_big_quiet_op
      first | refine hK _ ?_ | refine ⟨_, fun _ _ => rfl, hK _ ?_⟩
      clear hK K
      refine takeE 11 rfl (by kernel_rfl) (by kernel_rfl) (by kernel_rfl) rfl (fun _ _ _ _ h => h) rfl (fun K hK => ?_)
      go_big_quiet_op
      first | refine hK _ ?_ | refine ⟨_, fun _ _ => rfl, hK _ ?_⟩
      clear hK K
      refine takeE 12 rfl (by kernel_rfl) (by kernel_rfl) (by kernel_rfl) rfl (fun _ _ _ _ h => h) rfl (fun K hK => ?_)
      go_big_quiet_op
      first | refine hK _ ?_ | refine ⟨_, fun _ _ => rfl, hK _ ?_⟩
      clear hK K
      refine takeE 13 rfl (by kernel_rfl) (by kernel_rfl) (by kernel_rfl) rfl (fun _ _ _ _ h => h) rfl (fun K hK => ?_)
      go_big_quiet_op
      first | refine hK _ ?_ | refine ⟨_, fun _ _ => rfl, hK _ ?_⟩
      clear hK K
      refine doneM (by kernel_rfl) ?_ _
      clear cP cM
      go_wp2
      go_ret2
      exact ⟨by rw [HRES.out]; rfl, HX0.out.trans HX2.out⟩
  · rw [if_neg hz] at hres
    have HRES := Lib.hid hres
    have hzb : (he != 0) = true := by simpa using hz
    clear hres hadd hz
    go_enter Try.func24, Try.ntmps24
    go_wp2_with (first
      | (refine wpList_load_agg _ rfl 27 (.tmp 3) rfl _ rfl SC _ Try.underlying27 rfl (szSFrom HSL.out) hcs ?_)
      | fail)
    refine (HHD.out _ HX0.out).mono ?_
    rintro e w1 ⟨rfl, hx1⟩
    go_wp2
    go_ret2
    exact ⟨by rw [HRES.out]; rfl, HX0.out.trans hx1⟩
set_option maxRecDepth 100000 in
set_option maxHeartbeats 2000000 in
theorem RFree1 (w : World) (SC PC : List Value) (pk mo mm tk ha : Nat) (he : Int) (hsl : SC.length = 7) (hpl : PC.length = 2) (hP : PC[1]? = some (.int .u64 (pk : Int))) (hM : SC[2]? = some (.int .u64 (mo : Int))) (hN : SC[3]? = some (.int .u64 (mm : Int))) (hT : SC[5]? = some (.int .u64 (tk : Int)))
    (hpk : pk < M64) (hmo : mo < M64) (hmm : mm < M64) (htk : tk < M64) (hha : ha < M64)
    (hhd : ∀ W, Ext w W → Calls Try.prog 22 #[.agg SC.toArray, .int .i64 1] W fun e w' => e = .returned (numErr (ha, he)) ∧ Ext W w') :
    Calls Try.prog 24 #[.agg SC.toArray, .agg PC.toArray, .int .i64 1] w fun e w' => e = .returned (numErr (if he = 0 then (if (addM pk mo).2 = 0 then subL (addM pk mo).1 [mm, tk, ha] else (0, 11)) else (0, he))) ∧ Ext w w' := by
  have hb0 : Blk ((w.alloc (.cells SC.toArray 27)).alloc (.cells PC.toArray 24)) w.heap.size 27 SC := (Blk.new _ _ _).keep ((Ext.refl _).alloc _) (by simp)
  have hb1 : Blk ((w.alloc (.cells SC.toArray 27)).alloc (.cells PC.toArray 24)) (w.heap.size + 1) 24 PC := Blk.new_at (by simp) _ _
  have hx0 : Ext w ((w.alloc (.cells SC.toArray 27)).alloc (.cells PC.toArray 24)) := ((Ext.refl w).alloc _).alloc _
  have hz3 := z3_zero
  obtain ⟨Z3, hZ3⟩ : ∃ Z3, Z3 = z3 := ⟨_, rfl⟩
  rw [← hZ3] at hz3
  have HZ3 := Lib.hid hZ3
  simp only [numErr] at hhd
  have hcs := hb0.cells
  have HSL := Lib.hid hsl
  have HHD := Lib.hid hhd
  have HB0 := Lib.hid hb0
  have HB1 := Lib.hid hb1
  have HX0 := Lib.hid hx0
  have HP := Lib.hid hP
  have HM := Lib.hid hM
  have HN := Lib.hid hN
  have HT := Lib.hid hT
  have hadd := fun W => RAdd pk mo W hpk hmo
  obtain ⟨res, hres⟩ : ∃ res, res = (if he = 0 then (if (addM pk mo).2 = 0 then subL (addM pk mo).1 [mm, tk, ha] else (0, 11)) else (0, he)) := ⟨_, rfl⟩
  rw [← hres]
  clear hb0 hb1 hx0 hsl hpl hhd hP hM hN hT hZ3
  by_cases hz : he = 0
  · subst hz
    rw [if_pos rfl] at hres
    by_cases hov : pk + mo < M64
    · have ea : addM pk mo = (pk + mo, 0) := by unfold addM; rw [if_pos hov]
      rw [ea] at hadd hres
      rw [if_pos rfl] at hres
      simp only [numErr] at hadd hres
      have HADD := Lib.hid hadd
      have HRES := Lib.hid hres
      clear hadd hres ea
      go_enter Try.func24, Try.ntmps24
      go_wp2_with (first
        | (refine wpList_load_agg _ rfl 27 (.tmp 3) rfl _ rfl SC _ Try.underlying27 rfl (szSFrom HSL.out) hcs ?_)
        | fail)
      refine (HHD.out _ HX0.out).mono ?_
      rintro e w1 ⟨rfl, hx1⟩
      have HX1 := Lib.hid hx1
      clear hx1
      go_wp2
      have hx1 := HX1.out.trans (Ext.refl w1).drew
      refine startM Since (by kernel_rfl) ?_
      generalize w1.drew = w2 at *
      have cP := ((HB1.out.keep hx1 (by simp)).cell 1).trans HP.out
      have cM := ((HB0.out.keep hx1 (by simp)).cell 2).trans HM.out
      have HX2 := Lib.hid hx1
      clear hx1
      refine takeE 0 rfl (by kernel_rfl) (by kernel_rfl) (by kernel_rfl) rfl (fun _ _ _ _ h => h) rfl (fun K hK => ?_)
      go_big_quiet_op
      first | refine hK _ ?_ | refine ⟨_, fun _ _ => rfl, hK _ ?_⟩
      clear hK K
      refine takeE 1 rfl (by kernel_rfl) (by kernel_rfl) (by kernel_rfl) rfl (fun _ _ _ _ h => h) rfl (fun K hK => ?_)
      go_big_quiet_op
      first | refine hK _ ?_ | refine ⟨_, fun _ _ => rfl, hK _ ?_⟩
      clear hK K
      refine takeE 2 rfl (by kernel_rfl) (by kernel_rfl) (by kernel_rfl) rfl (fun _ _ _ _ h => h) rfl (fun K hK => ?_)
      refine quiet_cell _ _ rfl _ rfl _ _ Try.underlying23 rfl (fun W' h => World.grownBy.cell h.ext cP (by simp)) ?_
      refine hK _ ?_
      simp only [Act.put, List.setIfInBounds_toArray, List.set_cons_succ, List.set_cons_zero]
      clear hK K
      refine takeE 3 rfl (by kernel_rfl) (by kernel_rfl) (by kernel_rfl) rfl (fun _ _ _ _ h => h) rfl (fun K hK => ?_)
      go_big_quiet_op
      first | refine hK _ ?_ | refine ⟨_, fun _ _ => rfl, hK _ ?_⟩
      clear hK K
      refine takeE 4 rfl (by kernel_rfl) (by kernel_rfl) (by kernel_rfl) rfl (fun _ _ _ _ h => h) rfl (fun K hK => ?_)
      go_big_quiet_op
      first | refine hK _ ?_ | refine ⟨_, fun _ _ => rfl, hK _ ?_⟩
      clear hK K
      refine takeE 5 rfl (by kernel_rfl) (by kernel_rfl) (by kernel_rfl) rfl (fun _ _ _ _ h => h) rfl (fun K hK => ?_)
      go_big_quiet_op
      first | refine hK _ ?_ | refine ⟨_, fun _ _ => rfl, hK _ ?_⟩
      clear hK K
      refine takeE 6 rfl (by kernel_rfl) (by kernel_rfl) (by kernel_rfl) rfl (fun _ _ _ _ h => h) rfl (fun K hK => ?_)
      go_big_quiet_op
      first | refine hK _ ?_ | refine ⟨_, fun _ _ => rfl, hK _ ?_⟩
      clear hK K
      refine takeE 7 rfl (by kernel_rfl) (by kernel_rfl) (by kernel_rfl) rfl (fun _ _ _ _ h => h) rfl (fun K hK => ?_)
      refine quiet_cell _ _ rfl _ rfl _ _ Try.underlying23 rfl (fun W' h => World.grownBy.cell h.ext cM (by simp)) ?_
      refine hK _ ?_
      simp only [Act.put, List.setIfInBounds_toArray, List.set_cons_succ, List.set_cons_zero]
      clear hK K
      refine stepM 8 rfl (by kernel_rfl) rfl (fun K hK => ?_)
      go_simp
      refine (HADD.out _).mono ?_
      rintro e _ ⟨rfl, rfl⟩
      refine hK _ _ (Ext.refl _) ?_
      clear hK K
      refine takeE 9 rfl (by kernel_rfl) (by kernel_rfl) (by kernel_rfl) rfl (fun _ _ _ _ h => h) rfl (fun K hK => ?_)
      go_big_quiet_op
      first | refine hK _ ?_ | refine ⟨_, fun _ _ => rfl, hK _ ?_⟩
      clear hK K
      refine takeE 10 rfl (by kernel_rfl) (by kernel_rfl) (by kernel_rfl) rfl (fun _ _ _ _ h => h) rfl (fun K hK => ?_)
      go_big_quiet_op
      first | refine hK _ ?_ | refine ⟨_, fun _ _ => rfl, hK _ ?_⟩
      clear hK K
      refine takeE 11 rfl (by kernel_rfl) (by kernel_rfl) (by kernel_rfl) rfl (fun _ _ _ _ h => h) rfl (fun K hK => ?_)
      go_big_quiet_op
      first | refine hK _ ?_ | refine ⟨_, fun _ _ => rfl, hK _ ?_⟩
      clear hK K
      refine takeE 12 rfl (by kernel_rfl) (by kernel_rfl) (by kernel_rfl) rfl (fun _ _ _ _ h => h) rfl (fun K hK => ?_)
      go_big_quiet_op
      first | refine hK _ ?_ | refine ⟨_, fun _ _ => rfl, hK _ ?_⟩
      clear hK K
      refine takeE 13 rfl (by kernel_rfl) (by kernel_rfl) (by kernel_rfl) rfl (fun _ _ _ _ h => h) rfl (fun K hK => ?_)
      go_big_quiet_op
      first | refine hK _ ?_ | refine ⟨_, fun _ _ => rfl, hK _ ?_⟩
      clear hK K
      refine doneM (by kernel_rfl) ?_ _
      have HX1 := Lib.hid (HX2.out.trans (Ext.refl w2).drew)
      clear cP cM
      go_wp2
      have hx1 := HX1.out
      have cN := ((HB0.out.keep hx1 (by simp)).cell 3).trans HN.out
      have cT := ((HB0.out.keep hx1 (by simp)).cell 5).trans HT.out
      refine startL 11 Since (by kernel_rfl) ?_
      (try simp only [Act.put, List.setIfInBounds_toArray, List.set_cons_succ, List.set_cons_zero])
      generalize w2.drew = w3 at *
      have HX3 := Lib.hid hx1
      clear hx1
      refine takeN (fun a => Ext.refl a) 0 rfl (by kernel_rfl) (by kernel_rfl) (by kernel_rfl) rfl (fun _ _ _ _ h => h) rfl (fun K hK => ?_)
      go_big_quiet_op
      first | refine hK _ ?_ | refine ⟨_, fun _ _ => rfl, hK _ ?_⟩
      clear hK K
      refine takeN (fun a => Ext.refl a) 1 rfl (by kernel_rfl) (by kernel_rfl) (by kernel_rfl) rfl (fun _ _ _ _ h => h) rfl (fun K hK => ?_)
      go_big_quiet_op
      first | refine hK _ ?_ | refine ⟨_, fun _ _ => rfl, hK _ ?_⟩
      clear hK K
      refine takeN (fun a => Ext.refl a) 2 rfl (by kernel_rfl) (by kernel_rfl) (by kernel_rfl) rfl (fun _ _ _ _ h => h) rfl (fun K hK => ?_)
      go_big_quiet_op
      first | refine hK _ ?_ | refine ⟨_, fun _ _ => rfl, hK _ ?_⟩
      clear hK K
      refine takeL (fun a => Ext.refl a) (fun a b c h1 h2 => Ext.trans h1 h2) 3 [11] rfl (by kernel_rfl) (by kernel_rfl) (by kernel_rfl) (by kernel_rfl) rfl (fun _ _ _ _ h => h) rfl (fun K hK => ?_)
      refine quiet_cell _ _ rfl _ rfl _ _ Try.underlying23 rfl (fun W' h => World.grownBy.cell h cN (by simp)) ?_
      refine hK _ ?_
      simp only [Act.put, List.setIfInBounds_toArray, List.set_cons_succ, List.set_cons_zero]
      clear hK K
      refine takeN (fun a => Ext.refl a) 4 rfl (by kernel_rfl) (by kernel_rfl) (by kernel_rfl) rfl (fun _ _ _ _ h => h) rfl (fun K hK => ?_)
      go_big_quiet_op
      first | refine hK _ ?_ | refine ⟨_, fun _ _ => rfl, hK _ ?_⟩
      clear hK K
      refine takeN (fun a => Ext.refl a) 5 rfl (by kernel_rfl) (by kernel_rfl) (by kernel_rfl) rfl (fun _ _ _ _ h => h) rfl (fun K hK => ?_)
      go_big_quiet_op
      first | refine hK _ ?_ | refine ⟨_, fun _ _ => rfl, hK _ ?_⟩
      clear hK K
      refine takeN (fun a => Ext.refl a) 6 rfl (by kernel_rfl) (by kernel_rfl) (by kernel_rfl) rfl (fun _ _ _ _ h => h) rfl (fun K hK => ?_)
      go_big_quiet_op
      first | refine hK _ ?_ | refine ⟨_, fun _ _ => rfl, hK _ ?_⟩
      clear hK K
      refine takeL (fun a => Ext.refl a) (fun a b c h1 h2 => Ext.trans h1 h2) 7 [11] rfl (by kernel_rfl) (by kernel_rfl) (by kernel_rfl) (by kernel_rfl) rfl (fun _ _ _ _ h => h) rfl (fun K hK => ?_)
      refine quiet_cell _ _ rfl _ rfl _ _ Try.underlying23 rfl (fun W' h => World.grownBy.cell h cT (by simp)) ?_
      refine hK _ ?_
      simp only [Act.put, List.setIfInBounds_toArray, List.set_cons_succ, List.set_cons_zero]
      clear hK K
      refine takeN (fun a => Ext.refl a) 8 rfl (by kernel_rfl) (by kernel_rfl) (by kernel_rfl) rfl (fun _ _ _ _ h => h) rfl (fun K hK => ?_)
      go_big_quiet_op
      first | refine hK _ ?_ | refine ⟨_, fun _ _ => rfl, hK _ ?_⟩
      clear hK K
      refine takeN (fun a => Ext.refl a) 9 rfl (by kernel_rfl) (by kernel_rfl) (by kernel_rfl) rfl (fun _ _ _ _ h => h) rfl (fun K hK => ?_)
      go_big_quiet_op
      first | refine hK _ ?_ | refine ⟨_, fun _ _ => rfl, hK _ ?_⟩
      clear hK K
      refine stepL 10 rfl (by kernel_rfl) rfl (fun K hK => ?_)
      refine wp_alloc_agg 91 rfl Z3 hz3 ?_
      refine hK _ _ (fun _ => (Ext.refl _).alloc _) ?_
      clear hK K
      (try simp only [Act.put, List.setIfInBounds_toArray, List.set_cons_succ, List.set_cons_zero])
      refine stepL 11 rfl (by kernel_rfl) rfl (fun K hK => ?_)
      refine wp_store_row 91 (.tmp 12) (.tmp 53) rfl w3.heap.size rfl Z3 [.int .u64 (mm : Int), .int .u64 (tk : Int), .int .u64 (ha : Int)] _ rfl (Blk.new w3 91 Z3) z3_size (by rw [HZ3.out]; rfl) (by simp [Value.oneCell']) ?_
      refine hK _ _ (fun h => absurd rfl h) ?_
      clear hK K
      (try simp only [Act.put, List.setIfInBounds_toArray, List.set_cons_succ, List.set_cons_zero])
      refine doneL (by kernel_rfl) ?_ _
      have hbo : Blk ((w3.alloc (.cells Z3.toArray 91)).setRow w3.heap.size [.int .u64 (mm : Int), .int .u64 (tk : Int), .int .u64 (ha : Int)].toArray) w3.heap.size 91 [.int .u64 (mm : Int), .int .u64 (tk : Int), .int .u64 (ha : Int)] := setRow_at (Blk.new w3 91 Z3)
      have hx5 : Ext w ((w3.alloc (.cells Z3.toArray 91)).setRow w3.heap.size [.int .u64 (mm : Int), .int .u64 (tk : Int), .int .u64 (ha : Int)].toArray) := grown_then ((HX0.out.trans HX3.out).alloc _) (setRow_only _) (.inr (by rintro b ⟨⟩; have h1 := HX0.out.size; have h2 := HX3.out.size; omega))
      have HBO := Lib.hid hbo
      have HX5 := Lib.hid hx5
      clear hbo hx5
      generalize (w3.alloc (.cells Z3.toArray 91)).setRow w3.heap.size [.int .u64 (mm : Int), .int .u64 (tk : Int), .int .u64 (ha : Int)].toArray = w5 at *
      generalize w3.heap.size = g at *
      go_wp2
      go_loop [10, 11, 13] (fun n f i => ∃ k x : Nat, k ≤ 3 ∧ x < M64 ∧ i = .int .i64 k ∧ n = .int .u64 x ∧ res = subL x ([mm, tk, ha].drop k) ∧ ∃ q, f = q) (fun _ _ i => 3 - (intOf i).toNat)
      case atStart => exact ⟨0, pk + mo, by omega, hov, rfl, by go_num, HRES.out, _, rfl⟩
      case round =>
        clear HRES
        obtain ⟨k, x, hk, hx, rfl, rfl, hr, q, rfl⟩ := hrel
        by_cases hlt : k < 3
        · obtain ⟨y, hy, hyl, hd⟩ : ∃ y : Nat, [Value.int .u64 (mm : Int), .int .u64 (tk : Int), .int .u64 (ha : Int)][k]? = some (.int .u64 (y : Int)) ∧ y < M64 ∧ [mm, tk, ha].drop k = y :: [mm, tk, ha].drop (k + 1) := by
            rcases (by omega : k = 0 ∨ k = 1 ∨ k = 2) with rfl | rfl | rfl
            · exact ⟨mm, rfl, hmm, rfl⟩
            · exact ⟨tk, rfl, htk, rfl⟩
            · exact ⟨ha, rfl, hha, rfl⟩
          have cY := (HBO.out.cell k).trans hy
          have hsub := fun W => RSub x y W hx hyl
          rw [hd] at hr
          by_cases hxy : x < y
          · have es : subM x y = (0, 12) := by unfold subM; rw [if_pos hxy]
            replace hr : res = (0, 12) := by rw [hr, subL, if_pos hxy]
            rw [es] at hsub
            simp only [numErr] at hsub
            have HSUB := Lib.hid hsub
            have HR := Lib.hid hr
            clear hsub es hy hd hr
            rcases (by omega : k = 0 ∨ k = 1 ∨ k = 2) with rfl | rfl | rfl
            all_goals
              go_wp2_with (go_at_call 43; refine (HSUB.out _).mono ?_; rintro e w' ⟨rfl, rfl⟩)
              go_ret2
              exact ⟨by rw [HR.out]; rfl, HX5.out⟩
          · have es : subM x y = (x - y, 0) := by unfold subM; rw [if_neg hxy]
            replace hr : res = subL (x - y) ([mm, tk, ha].drop (k + 1)) := by rw [hr, subL, if_neg hxy]
            rw [es] at hsub
            simp only [numErr] at hsub
            have HSUB := Lib.hid hsub
            have HR := Lib.hid hr
            have hxl : x - y < M64 := by omega
            generalize x - y = d at *
            clear hsub es hy hd hr
            rcases (by omega : k = 0 ∨ k = 1 ∨ k = 2) with rfl | rfl | rfl
            all_goals
              go_wp2_with (go_at_call 43; refine (HSUB.out _).mono ?_; rintro e w' ⟨rfl, rfl⟩)
              go_round
              case rel =>
                refine ⟨trivial, ?_⟩
                repeat apply Exists.intro
                refine ⟨?_, rfl⟩
                exact ⟨_, d, by omega, hxl, by go_num, rfl, HR.out, _, rfl⟩
              case measure => simp [intOf]
        · obtain rfl : k = 3 := by omega
          replace hr : res = (x, 0) := hr
          have HR := Lib.hid hr
          clear hr
          go_wp2
          go_ret2
          exact ⟨by rw [HR.out]; rfl, HX5.out⟩
    · have ea : addM pk mo = (0, 11) := by unfold addM; rw [if_neg hov]
      rw [ea] at hadd hres
      rw [if_neg (by decide)] at hres
      simp only [numErr] at hadd hres
      have HADD := Lib.hid hadd
      have HRES := Lib.hid hres
      clear hadd hres ea
      go_enter Try.func24, Try.ntmps24
      go_wp2_with (first
        | (refine wpList_load_agg _ rfl 27 (.tmp 3) rfl _ rfl SC _ Try.underlying27 rfl (szSFrom HSL.out) hcs ?_)
        | fail)
      refine (HHD.out _ HX0.out).mono ?_
      rintro e w1 ⟨rfl, hx1⟩
      have HX1 := Lib.hid hx1
      clear hx1
      go_wp2
      have hx1 := HX1.out.trans (Ext.refl w1).drew
      refine startM Since (by kernel_rfl) ?_
      generalize w1.drew = w2 at *
      have cP := ((HB1.out.keep hx1 (by simp)).cell 1).trans HP.out
      have cM := ((HB0.out.keep hx1 (by simp)).cell 2).trans HM.out
      have HX2 := Lib.hid hx1
      clear hx1
      refine takeE 0 rfl (by kernel_rfl) (by kernel_rfl) (by kernel_rfl) rfl (fun _ _ _ _ h => h) rfl (fun K hK => ?_)
      go_big_quiet_op
      first | refine hK _ ?_ | refine ⟨_, fun _ _ => rfl, hK _ ?_⟩
      clear hK K
      refine takeE 1 rfl (by kernel_rfl) (by kernel_rfl) (by kernel_rfl) rfl (fun _ _ _ _ h => h) rfl (fun K hK => ?_)
      go_big_quiet_op
      first | refine hK _ ?_ | refine ⟨_, fun _ _ => rfl, hK _ ?_⟩
      clear hK K
      refine takeE 2 rfl (by kernel_rfl) (by kernel_rfl) (by kernel_rfl) rfl (fun _ _ _ _ h => h) rfl (fun K hK => ?_)
      refine quiet_cell _ _ rfl _ rfl _ _ Try.underlying23 rfl (fun W' h => World.grownBy.cell h.ext cP (by simp)) ?_
      refine hK _ ?_
      simp only [Act.put, List.setIfInBounds_toArray, List.set_cons_succ, List.set_cons_zero]
      clear hK K
      refine takeE 3 rfl (by kernel_rfl) (by kernel_rfl) (by kernel_rfl) rfl (fun _ _ _ _ h => h) rfl (fun K hK => ?_)
      go_big_quiet_op
      first | refine hK _ ?_ | refine ⟨_, fun _ _ => rfl, hK _ ?_⟩
      clear hK K
      refine takeE 4 rfl (by kernel_rfl) (by kernel_rfl) (by kernel_rfl) rfl (fun _ _ _ _ h => h) rfl (fun K hK => ?_)
      go_big_quiet_op
      first | refine hK _ ?_ | refine ⟨_, fun _ _ => rfl, hK _ ?_⟩
      clear hK K
      refine takeE 5 rfl (by kernel_rfl) (by kernel_rfl) (by kernel_rfl) rfl (fun _ _ _ _ h => h) rfl (fun K hK => ?_)
      go_big_quiet_op
      first | refine hK _ ?_ | refine ⟨_, fun _ _ => rfl, hK _ ?_⟩
      clear hK K
      refine takeE 6 rfl (by kernel_rfl) (by kernel_rfl) (by kernel_rfl) rfl (fun _ _ _ _ h => h) rfl (fun K hK => ?_)
      go_big_quiet_op
      first | refine hK _ ?_ | refine ⟨_, fun _ _ => rfl, hK _ ?_⟩
      clear hK K
      refine takeE 7 rfl (by kernel_rfl) (by kernel_rfl) (by kernel_rfl) rfl (fun _ _ _ _ h => h) rfl (fun K hK => ?_)
      refine quiet_cell _ _ rfl _ rfl _ _ Try.underlying23 rfl (fun W' h => World.grownBy.cell h.ext cM (by simp)) ?_
      refine hK _ ?_
      simp only [Act.put, List.setIfInBounds_toArray, List.set_cons_succ, List.set_cons_zero]
      clear hK K
      refine stepM 8 rfl (by kernel_rfl) rfl (fun K hK => ?_)
      go_simp
      refine (HADD.out _).mono ?_
      rintro e _ ⟨rfl, rfl⟩
      refine hK _ _ (Ext.refl _) ?_
      clear hK K
      refine takeE 9 rfl (by kernel_rfl) (by kernel_rfl) (by kernel_rfl) rfl (fun _ _ _ _ h => h) rfl (fun K hK => ?_)
      go_big_quiet_op
      first | refine hK _ ?_ | refine ⟨_, fun _ _ => rfl, hK _ ?_⟩
      clear hK K
      refine takeE 10 rfl (by kernel_rfl) (by kernel_rfl) (by kernel_rfl) rfl (fun _ _ _ _ h => h) rfl (fun K hK => ?_)
      go_big_quiet_op
      first | refine hK _ ?_ | refine ⟨_, fun _ _ => rfl, hK _ ?_⟩
      clear hK K
      refine takeE 11 rfl (by kernel_rfl) (by kernel_rfl) (by kernel_rfl) rfl (fun _ _ _ _ h => h) rfl (fun K hK => ?_)
      go_big_quiet_op
      first | refine hK _ ?_ | refine ⟨_, fun _ _ => rfl, hK _ ?_⟩
      clear hK K
      refine takeE 12 rfl (by kernel_rfl) (by kernel_rfl) (by kernel_rfl) rfl (fun _ _ _ _ h => h) rfl (fun K hK => ?_)
      go_big_quiet_op
      first | refine hK _ ?_ | refine ⟨_, fun _ _ => rfl, hK _ ?_⟩
      clear hK K
      refine takeE 13 rfl (by kernel_rfl) (by kernel_rfl) (by kernel_rfl) rfl (fun _ _ _ _ h => h) rfl (fun K hK => ?_)
      go_big_quiet_op
      first | refine hK _ ?_ | refine ⟨_, fun _ _ => rfl, hK _ ?_⟩
      clear hK K
      refine doneM (by kernel_rfl) ?_ _
      clear cP cM
      go_wp2
      go_ret2
      exact ⟨by rw [HRES.out]; rfl, HX0.out.trans HX2.out⟩
  · rw [if_neg hz] at hres
    have HRES := Lib.hid hres
    have hzb : (he != 0) = true := by simpa using hz
    clear hres hadd hz
    go_enter Try.func24, Try.ntmps24
    go_wp2_with (first
      | (refine wpList_load_agg _ rfl 27 (.tmp 3) rfl _ rfl SC _ Try.underlying27 rfl (szSFrom HSL.out) hcs ?_)
      | fail)
    refine (HHD.out _ HX0.out).mono ?_
    rintro e w1 ⟨rfl, hx1⟩
    go_wp2
    go_ret2
    exact ⟨by rw [HRES.out]; rfl, HX0.out.trans hx1⟩
set_option maxRecDepth 100000 in
set_option maxHeartbeats 400000 in
theorem RFreeX (w : World) (SC PC : List Value) (sd : Int) (h0 : sd ≠ 0) (h1 : sd ≠ 1) :
    Calls Try.prog 24 #[.agg SC.toArray, .agg PC.toArray, .int .i64 sd] w fun e w' => e = .returned (numErr (0, 1)) ∧ Ext w w' := by
  have hb0 : (sd != 0) = true := by simpa using h0
  have hb1 : (sd != 1) = true := by simpa using h1
  have hc0 : (sd == 0) = false := by simpa using h0
  have hc1 : (sd == 1) = false := by simpa using h1
  clear h0 h1
  go_enter Try.func24, Try.ntmps24
  go_wp2
  go_ret2
  exact ⟨rfl, ((Ext.refl w).alloc _).alloc _⟩
theorem RFree (s : St) (v : Value) (p0 p1 : Nat) (side : Int) (w : World) (F : Fp) (hs : StOk s) (hp0 : p0 < M64) (hp1 : p1 < M64) (hc : Conds w F v s.cs) (hF : ∀ b, F b → b < w.heap.size) :
    Calls Try.prog 24 #[.agg (stc s v).toArray, .agg (ptc p0 p1).toArray, .int .i64 side] w fun e w' => e = .returned (numErr (freeM s p0 p1 side)) ∧ Ext w w' := by
  have hhd : ∀ sd W, Ext w W → Calls Try.prog 22 #[.agg (stc s v).toArray, .int .i64 sd] W fun e w' => e = .returned (numErr ((heldM s.cs sd).1, (heldM s.cs sd).2)) ∧ Ext W w' := fun sd W h =>
    RHeld s v sd W F (h.holds hF hc) (fun b hb => Nat.lt_of_lt_of_le (hF b hb) h.size)
  have hcas : ∀ sd, (heldM s.cs sd).2 ≠ 0 → (heldM s.cs sd).2 = 11 := fun sd h => by
    rcases sumM_cases (ams s.cs sd) 0 (by decide) with ⟨m, _, e⟩ | e
    · exact absurd (show (sumM 0 (ams s.cs sd)).2 = 0 by rw [e]) h
    · show (sumM 0 (ams s.cs sd)).2 = 11
      rw [e]
  have hlt : ∀ sd, (heldM s.cs sd).1 < M64 := fun sd => by
    rcases sumM_cases (ams s.cs sd) 0 (by decide) with ⟨m, hm, e⟩ | e
    · show (sumM 0 (ams s.cs sd)).1 < M64; rw [e]; exact hm
    · show (sumM 0 (ams s.cs sd)).1 < M64; rw [e]; decide
  by_cases h0 : side = 0
  · subst h0
    have hf : freeM s p0 p1 0 = if (heldM s.cs 0).2 = 0 then (if (addM p0 s.m1).2 = 0 then subL (addM p0 s.m1).1 [s.m0, s.t0, (heldM s.cs 0).1] else (0, 11)) else (0, (heldM s.cs 0).2) := by
      unfold freeM
      rw [if_pos (.inl rfl)]
      show (if (heldM s.cs 0).2 = 0 then (if (sumM 0 [p0, s.m1]).2 = 0 then subL (sumM 0 [p0, s.m1]).1 [s.m0, s.t0, (heldM s.cs 0).1] else (0, 11)) else (0, 11)) = _
      rw [sum2_add hp0]
      by_cases h : (heldM s.cs 0).2 = 0
      · rw [if_pos h, if_pos h]
      · rw [if_neg h, if_neg h, hcas 0 h]
    rw [hf]
    exact RFree0 w (stc s v) (ptc p0 p1) p0 s.m1 s.m0 s.t0 _ _ rfl rfl rfl rfl rfl rfl hp0 hs.m1 hs.m0 hs.t0 (hlt 0) (hhd 0)
  · by_cases h1 : side = 1
    · subst h1
      have hf : freeM s p0 p1 1 = if (heldM s.cs 1).2 = 0 then (if (addM p1 s.m0).2 = 0 then subL (addM p1 s.m0).1 [s.m1, s.t1, (heldM s.cs 1).1] else (0, 11)) else (0, (heldM s.cs 1).2) := by
        unfold freeM
        rw [if_pos (.inr rfl)]
        show (if (heldM s.cs 1).2 = 0 then (if (sumM 0 [p1, s.m0]).2 = 0 then subL (sumM 0 [p1, s.m0]).1 [s.m1, s.t1, (heldM s.cs 1).1] else (0, 11)) else (0, 11)) = _
        rw [sum2_add hp1]
        by_cases h : (heldM s.cs 1).2 = 0
        · rw [if_pos h, if_pos h]
        · rw [if_neg h, if_neg h, hcas 1 h]
      rw [hf]
      exact RFree1 w (stc s v) (ptc p0 p1) p1 s.m0 s.m1 s.t1 _ _ rfl rfl rfl rfl rfl rfl hp1 hs.m0 hs.m1 hs.t1 (hlt 1) (hhd 1)
    · have hf : freeM s p0 p1 side = (0, 1) := by
        unfold freeM
        rw [if_neg (by omega)]
      rw [hf]
      exact RFreeX w _ _ side h0 h1
end Go.Proofs.Ytnpolfihbfdggaa

/- Walk of the pact's Split, where nothing was paid out and the state may be. Conditions: the numbers are in their bounds. -/
import Derived.Test.YtnpolfihbfdggaaPWholeM
set_option linter.unusedVariables false
set_option linter.unusedSimpArgs false
set_option linter.unnecessarySimpa false
namespace Go.Proofs.Ytnpolfihbfdggaa
open Go.RowKit

def z2l : List Value := [.int .u64 0, .int .u64 0]
theorem z2_zero : (Try.prog.info? 24).bind (fun i => i.zero.map (·.cells)) = some z2l.toArray := by kernel_rfl
theorem z2_size {n : Nat} (h : n = 2) : (Try.prog.info? 24).map (·.size) = some n := by subst h; kernel_rfl
theorem own_lit {w : World} {cs : List Value} {e : TypeId} (n : Nat) (hn : cs.length = n) (hm : n ≤ maxLen) : Own (w.alloc (.cells cs.toArray e)) e 1 (.slice (some ⟨w.heap.size, 0, none⟩) n n) n cs := by
  subst hn
  exact ⟨by simp, .inr ⟨w.heap.size, cs.length, cs.toArray, rfl, Nat.zero_le _, heap_alloc_new w _, Nat.le_refl _, hm, by simp, by simp⟩⟩
theorem AllH.bool_at {w : World} {F : Fp} : ∀ {l : List Bool} {cs : List Value} {k : Nat}, AllH (Ty.bool.holds w F) cs l → (h : k < l.length) → cs[k]? = some (.bool l[k])
  | [], _, _, _, h => by simp at h
  | a :: l, _, 0, h, _ => by
    obtain ⟨c1, c2, rfl, rfl, h2⟩ := h
    rfl
  | a :: l, _, k + 1, h, hk => by
    obtain ⟨c1, c2, rfl, rfl, h2⟩ := h
    simpa using AllH.bool_at h2 (k := k) (by simpa using hk)
def splitM (o0 o1 : Nat × Int) : Nat × Nat × Int := if o0.2 ≠ 0 then (0, 0, o0.2) else if o1.2 ≠ 0 then (0, 0, o1.2) else (o0.1, o1.1, 0)
theorem splitM_l {a : Nat} {e : Int} {x : Nat × Int} (h : e ≠ 0) : splitM (a, e) x = (0, 0, e) := if_pos h
theorem splitM_r {a : Nat} {e : Int} {x : Nat × Int} (h0 : x.2 = 0) (h : e ≠ 0) : splitM x (a, e) = (0, 0, e) := by unfold splitM; rw [if_neg (by omega), if_pos h]
/-- What the walk needs of the calls. -/
structure SplitIn (w : World) (SC PC : List Value) (f : Int → Nat × Int) : Prop where
  sl : SC.length = 7
  pl : PC.length = 2
  sn : ∀ W, Ext w W → Calls Try.prog 25 #[.agg SC.toArray, .agg PC.toArray] W fun e w' => e = .returned (.int .i64 0) ∧ Ext W w'
  fr : ∀ W (sd : Int), sd = 0 ∨ sd = 1 → Ext w W → Calls Try.prog 23 #[.agg SC.toArray, .agg PC.toArray, .int .i64 sd] W fun e w' => e = .returned (numErr (f sd)) ∧ Ext W w'
  fl : ∀ sd, (f sd).1 < M64
set_option maxRecDepth 100000 in
set_option maxHeartbeats 8000000 in
theorem Split1 (w : World) (SC PC QC : List Value) (v dv : Value) (cs : List Cd) (ds : List Bool) (tk0 tk1 : Nat) (f : Int → Nat × Int) (F : Fp) (hin : SplitIn w SC PC f) (hQ : QC = z2l) (s4 : SC[4]? = some (.int .u64 (tk0 : Int))) (s5 : SC[5]? = some (.int .u64 (tk1 : Int))) (s6 : SC[6]? = some v)
    (hc : Conds w F v cs) (hd : (Ty.sl .bool).holds w F [dv] ds) (hF : ∀ b, F b → b < w.heap.size) (hlen : List.length (α := Cd) cs = ds.length) (h8 : List.length (α := Cd) cs ≤ 8) (ht0 : tk0 < M64) (ht1 : tk1 < M64) :
    Calls Try.prog 32 #[.agg SC.toArray, .agg PC.toArray, .agg QC.toArray, dv] w fun e w' => e = .returned (.tuple #[.agg (ptc (splitM (sumM 0 ((f 0).1 :: tk0 :: picks (cs.zip ds) 0)) (sumM 0 ((f 1).1 :: tk1 :: picks (cs.zip ds) 1))).1 (splitM (sumM 0 ((f 0).1 :: tk0 :: picks (cs.zip ds) 0)) (sumM 0 ((f 1).1 :: tk1 :: picks (cs.zip ds) 1))).2.1).toArray, .int .i64 (splitM (sumM 0 ((f 0).1 :: tk0 :: picks (cs.zip ds) 0)) (sumM 0 ((f 1).1 :: tk1 :: picks (cs.zip ds) 1))).2.2]) ∧ Ext w w' := by
  obtain ⟨A, c, xs, rfl, hlc, hcm, hA, hcell, hall⟩ := conds_open hc
  clear hc
  obtain ⟨B, d, ys, hdv, hld, hdm, hB, hcel2, hal2⟩ := hd
  cases hdv
  unfold maxLen at hcm hdm
  obtain ⟨i0, hi, hz0, hz1', hz2⟩ := info_parts u64_info
  have hz := z2_zero
  rw [← hQ] at hz
  have hZ2 := hQ
  have hz2l : QC.length = 2 := by rw [hZ2]; rfl
  have hzo : ∀ u ∈ QC, u.oneCell' = true := by rw [hZ2]; decide
  have hz20 : QC[0]? = some (.int .u64 0) := by rw [hZ2]; rfl
  have hz21 : QC[1]? = some (.int .u64 0) := by rw [hZ2]; rfl
  have HZB : Hid (QC = ptc 0 0) := hZ2
  have hzc := cond_zero
  have hzcl : (condCells (0, 0, 0, List.replicate 32 0, 0, ())).length = 36 := rfl
  generalize condCells (0, 0, 0, List.replicate 32 0, 0, ()) = ZC at hzc hzcl
  have HZCL := Lib.hid hzcl
  have HZL := Lib.hid hz2l
  have HSL := Lib.hid hin.sl
  have HPL := Lib.hid hin.pl
  have HSN := Lib.hid hin.sn
  have HFR := Lib.hid hin.fr
  have HFL := Lib.hid hin.fl
  have hb0 : Blk ((((w.alloc (.cells SC.toArray 36)).alloc (.cells PC.toArray 24)).alloc (.cells QC.toArray 24)).alloc (.cells QC.toArray 24)) w.heap.size 36 SC := (Blk.new _ _ _).keep ((((Ext.refl _).alloc _).alloc _).alloc _) (by simp)
  have hb1 : Blk ((((w.alloc (.cells SC.toArray 36)).alloc (.cells PC.toArray 24)).alloc (.cells QC.toArray 24)).alloc (.cells QC.toArray 24)) (w.heap.size + 1) 24 PC := (Blk.new_at (by simp) _ _).keep (((Ext.refl _).alloc _).alloc _) (by simp)
  have hb2 : Blk ((((w.alloc (.cells SC.toArray 36)).alloc (.cells PC.toArray 24)).alloc (.cells QC.toArray 24)).alloc (.cells QC.toArray 24)) (w.heap.size + 2) 24 QC := (Blk.new_at (by simp) _ _).keep ((Ext.refl _).alloc _) (by simp)
  have hb3 : Blk ((((w.alloc (.cells SC.toArray 36)).alloc (.cells PC.toArray 24)).alloc (.cells QC.toArray 24)).alloc (.cells QC.toArray 24)) (w.heap.size + 3) 24 QC := Blk.new_at (by simp) _ _
  have hx0 : Ext w ((((w.alloc (.cells SC.toArray 36)).alloc (.cells PC.toArray 24)).alloc (.cells QC.toArray 24)).alloc (.cells QC.toArray 24)) := ((((Ext.refl w).alloc _).alloc _).alloc _).alloc _
  have hcs := hb0.cells
  have hcp := hb1.cells
  have HB0 := Lib.hid hb0
  have HB1 := Lib.hid hb1
  have HB2 := Lib.hid hb2
  have HB3 := Lib.hid hb3
  have HX0 := Lib.hid hx0
  have HS4 := Lib.hid s4
  have HS5 := Lib.hid s5
  have HS6 := Lib.hid s6
  clear hb0 hb1 hb2 hb3 hx0 hin hzcl hz2l hZ2 hQ s4 s5 s6
  go_enter Try.func32, Try.ntmps32
  go_wp2_with (first
    | (refine wpList_alloc _ rfl 24 rfl _ hz ?_)
    | (refine wpList_load_agg _ rfl 36 (.tmp 4) rfl _ rfl SC _ Try.underlying36 rfl (state_size HSL.out) hcs ?_)
    | (refine wpList_load_agg _ rfl 24 (.tmp 5) rfl _ rfl PC _ Try.underlying24 rfl (z2_size HPL.out) hcp ?_)
    | fail)
  refine (HSN.out _ HX0.out).mono ?_
  rintro e w1 ⟨rfl, hx1⟩
  have c6 := ((HB0.out.keep hx1 (by simp)).cell 6).trans HS6.out
  have hnn : ((ds.length : Int) != (List.length (α := Cd) cs : Int)) = false := by rw [hlen]; exact bne_self_eq_false _
  have hx2 : Ext ((((w.alloc (.cells SC.toArray 36)).alloc (.cells PC.toArray 24)).alloc (.cells QC.toArray 24)).alloc (.cells QC.toArray 24)) (w1.alloc (.cells QC.toArray 24)) := hx1.alloc _
  have hb11 : Blk (w1.alloc (.cells QC.toArray 24)) w1.heap.size 24 QC := Blk.new _ _ _
  have hg11 : w.heap.size + 4 ≤ w1.heap.size := by have h1 := HB3.out.lt; have h2 := hx1.size; omega
  have HX2 := Lib.hid hx2
  have HB11 := Lib.hid hb11
  clear hx2 hb11 hcs hcp
  go_wp2_with (first
    | (refine wpList_alloc _ rfl 24 rfl _ hz ?_)
    | fail)
  generalize w1.alloc (.cells QC.toArray 24) = w2 at *
  generalize w1.heap.size = g11 at *
  clear c6 hx1
  obtain ⟨o0, ho0⟩ : ∃ o0, o0 = sumM 0 ((f 0).1 :: tk0 :: picks (cs.zip ds) 0) := ⟨_, rfl⟩
  obtain ⟨o1, ho1⟩ : ∃ o1, o1 = sumM 0 ((f 1).1 :: tk1 :: picks (cs.zip ds) 1) := ⟨_, rfl⟩
  have HO0 := Lib.hid ho0
  have HO1 := Lib.hid ho1
  have hxw2 := HX0.out.trans HX2.out
  have HXW2 := Lib.hid hxw2
  have hb0 := HB0.out.keep HX2.out (by simp)
  have hb1 := HB1.out.keep HX2.out (by simp)
  have hb2 := HB2.out.keep HX2.out (by simp)
  have hb3 := HB3.out.keep HX2.out (by simp)
  have HB0 := Lib.hid hb0
  have HB1 := Lib.hid hb1
  have HB2 := Lib.hid hb2
  have HB3 := Lib.hid hb3
  clear ho0 ho1 hxw2 hb0 hb1 hb2 hb3
  go_loopw [12, 13, 14, 15, 16, 17, 18, 19, 34] (fun _ _ _ _ _ _ _ _ i wr => ∃ k a b : Nat, k ≤ 2 ∧ i = .int .i64 k ∧ w2.grownBy wr (some g11) ∧ Blk wr g11 24 (ptc a b) ∧ (k = 0 → a = 0 ∧ b = 0) ∧ (k = 1 → a = o0.1 ∧ b = 0 ∧ o0.2 = 0) ∧ (k = 2 → a = o0.1 ∧ b = o1.1 ∧ o0.2 = 0 ∧ o1.2 = 0)) (fun _ _ _ _ _ _ _ _ i _ => 2 - (intOf i).toNat)
  case atStart => exact ⟨0, 0, 0, by omega, rfl, World.grownBy.refl _ _, by rw [← HZB.out]; exact HB11.out, fun _ => ⟨rfl, rfl⟩, by simp, by simp⟩
  case round =>
    clear HB11
    obtain ⟨k, a, b, hk, rfl, hg, hb11, hk0, hk1, hk2⟩ := hrel
    obtain ⟨wo, rfl⟩ : ∃ wo, wo = wr := ⟨_, rfl⟩
    have hxo : Ext w wo := grown_then HXW2.out hg (.inr (by rintro b ⟨⟩; omega))
    have hn : ∀ j, j < 4 → some (w.heap.size + j) ≠ some g11 := fun j hj e => by cases e; omega
    have hb0 := HB0.out.keep hg (hn 0 (by omega))
    have hb1 := HB1.out.keep hg (hn 1 (by omega))
    have hb2 := HB2.out.keep hg (hn 2 (by omega))
    have hb3 := HB3.out.keep hg (hn 3 (by omega))
    have hcs := hb0.cells
    have hcp := hb1.cells
    have HB0 := Lib.hid hb0
    have HB2 := Lib.hid hb2
    have HB3 := Lib.hid hb3
    have HB11 := Lib.hid hb11
    have HG := Lib.hid hg
    have HXO := Lib.hid hxo
    clear hb0 hb1 hb2 hb3 hb11 hg hxo hn
    rcases (by omega : k = 0 ∨ k = 1 ∨ k = 2) with rfl | rfl | rfl
    · have HAB := Lib.hid (hk0 rfl)
      have hfr := HFR.out wo 0 (by omega) HXO.out
      simp only [numErr] at hfr
      have hfl := HFL.out 0
      have HFRC := Lib.hid hfr
      clear hfr
      go_wp2_with (first
        | (refine wpList_load_agg _ rfl 36 (.tmp 4) rfl _ rfl SC _ Try.underlying36 rfl (state_size HSL.out) hcs ?_)
        | (refine wpList_load_agg _ rfl 24 (.tmp 5) rfl _ rfl PC _ Try.underlying24 rfl (z2_size HPL.out) hcp ?_)
        | fail)
      refine HFRC.out.mono ?_
      rintro e w3 ⟨rfl, hx3⟩
      have HX3 := Lib.hid hx3
      clear hx3 hcs hcp
      go_wp2
      have hx4 := HX3.out.trans (Ext.refl w3).drew
      refine startM Since (by kernel_rfl) ?_
      generalize w3.drew = w4 at *
      have cT := ((HB0.out.keep hx4 (by simp)).cell (4 + 0)).trans HS4.out
      have cQ := ((HB2.out.keep hx4 (by simp)).cell 0).trans hz20
      have hsub : ∀ W, Calls Try.prog 42 #[.int .u64 (tk0 : Int), .int .u64 0] W fun e w' => e = .returned (.tuple #[.int .u64 (tk0 : Int), .int .i64 0]) ∧ W = w' := fun W => by
        have h := Money_Sub tk0 0 W ht0 (by decide)
        have e : subM tk0 0 = (tk0, 0) := by unfold subM; rw [if_neg (by omega)]; rfl
        rw [e] at h
        exact h
      have HSUB := Lib.hid hsub
      have c6 : (w4.alloc (.cells #[.int .u64 ((f 0).1 : Int), .int .u64 (tk0 : Int)] 23)).cell? ⟨w.heap.size, 6, none⟩ = some (.slice A (List.length (α := Cd) cs) c) := (((HB0.out.keep hx4 (by simp)).keep ((Ext.refl w4).alloc _) (by simp)).cell 6).trans HS6.out
      have HX4 := Lib.hid hx4
      clear hsub hx4
      refine takeE 0 rfl (by kernel_rfl) (by kernel_rfl) (by kernel_rfl) rfl (fun _ _ _ _ h => h) rfl (fun K hK => ?_)
      go_big_quiet_op
      first | refine hK _ ?_ | refine ⟨_, fun _ _ => rfl, hK _ ?_⟩
      clear hK K
      refine takeE 1 rfl (by kernel_rfl) (by kernel_rfl) (by kernel_rfl) rfl (fun _ _ _ _ h => h) rfl (fun K hK => ?_)
      go_big_quiet_op
      first | refine hK _ ?_ | refine ⟨_, fun _ _ => rfl, hK _ ?_⟩
      clear hK K
      refine takeE 2 rfl (by kernel_rfl) (by kernel_rfl) (by kernel_rfl) rfl (fun _ _ _ _ h => h) rfl (fun K hK => ?_)
      go_big_quiet_op
      first | refine hK _ ?_ | refine ⟨_, fun _ _ => rfl, hK _ ?_⟩
      clear hK K
      refine takeE 3 rfl (by kernel_rfl) (by kernel_rfl) (by kernel_rfl) rfl (fun _ _ _ _ h => h) rfl (fun K hK => ?_)
      refine quiet_cell _ _ rfl _ rfl _ _ Try.underlying23 rfl (fun W' h => World.grownBy.cell h.ext cT (by simp)) ?_
      refine hK _ ?_
      simp only [Act.put, List.setIfInBounds_toArray, List.set_cons_succ, List.set_cons_zero]
      clear hK K
      refine takeE 4 rfl (by kernel_rfl) (by kernel_rfl) (by kernel_rfl) rfl (fun _ _ _ _ h => h) rfl (fun K hK => ?_)
      go_big_quiet_op
      first | refine hK _ ?_ | refine ⟨_, fun _ _ => rfl, hK _ ?_⟩
      clear hK K
      refine takeE 5 rfl (by kernel_rfl) (by kernel_rfl) (by kernel_rfl) rfl (fun _ _ _ _ h => h) rfl (fun K hK => ?_)
      go_big_quiet_op
      first | refine hK _ ?_ | refine ⟨_, fun _ _ => rfl, hK _ ?_⟩
      clear hK K
      refine takeE 6 rfl (by kernel_rfl) (by kernel_rfl) (by kernel_rfl) rfl (fun _ _ _ _ h => h) rfl (fun K hK => ?_)
      refine quiet_cell _ _ rfl _ rfl _ _ Try.underlying23 rfl (fun W' h => World.grownBy.cell h.ext cQ (by simp)) ?_
      refine hK _ ?_
      simp only [Act.put, List.setIfInBounds_toArray, List.set_cons_succ, List.set_cons_zero]
      clear hK K
      refine stepM 7 rfl (by kernel_rfl) rfl (fun K hK => ?_)
      go_simp
      refine (HSUB.out _).mono ?_
      rintro e _ ⟨rfl, rfl⟩
      refine hK _ _ (Ext.refl _) ?_
      clear hK K
      refine takeE 8 rfl (by kernel_rfl) (by kernel_rfl) (by kernel_rfl) rfl (fun _ _ _ _ h => h) rfl (fun K hK => ?_)
      go_big_quiet_op
      first | refine hK _ ?_ | refine ⟨_, fun _ _ => rfl, hK _ ?_⟩
      clear hK K
      refine takeE 9 rfl (by kernel_rfl) (by kernel_rfl) (by kernel_rfl) rfl (fun _ _ _ _ h => h) rfl (fun K hK => ?_)
      go_big_quiet_op
      first | refine hK _ ?_ | refine ⟨_, fun _ _ => rfl, hK _ ?_⟩
      clear hK K
      refine takeE 10 rfl (by kernel_rfl) (by kernel_rfl) (by kernel_rfl) rfl (fun _ _ _ _ h => h) rfl (fun K hK => ?_)
      go_big_quiet_op
      first | refine hK _ ?_ | refine ⟨_, fun _ _ => rfl, hK _ ?_⟩
      clear hK K
      refine takeE 11 rfl (by kernel_rfl) (by kernel_rfl) (by kernel_rfl) rfl (fun _ _ _ _ h => h) rfl (fun K hK => ?_)
      go_big_quiet_op
      first | refine hK _ ?_ | refine ⟨_, fun _ _ => rfl, hK _ ?_⟩
      clear hK K
      refine takeE 12 rfl (by kernel_rfl) (by kernel_rfl) (by kernel_rfl) rfl (fun _ _ _ _ h => h) rfl (fun K hK => ?_)
      go_big_quiet_op
      first | refine hK _ ?_ | refine ⟨_, fun _ _ => rfl, hK _ ?_⟩
      clear hK K
      refine doneM (by kernel_rfl) ?_ _
      clear cT cQ
      have hwf0 : ∀ x ∈ [(f 0).1, tk0], (Lit.int .u64 (x : Int)).wf = true := by
        intro x hx
        simp only [List.mem_cons, List.not_mem_nil, or_false] at hx
        rcases hx with rfl | rfl
        · exact wf64 hfl
        · exact wf64 ht0
      generalize hfa : (f 0).1 = fa at *
      have HFA := Lib.hid hfa
      clear hfa
      generalize (f 0).2 = fe at *
      go_wp2
      have ho5 : Own (w4.alloc (.cells #[.int .u64 (fa : Int), .int .u64 (tk0 : Int)] 23)) 23 1 (.slice (some ⟨w4.heap.size, 0, none⟩) 2 2) 2 [.int .u64 (fa : Int), .int .u64 (tk0 : Int)] := own_lit (cs := [.int .u64 (fa : Int), .int .u64 (tk0 : Int)]) 2 rfl (by decide)
      have hx5 : Ext w4 (w4.alloc (.cells #[.int .u64 (fa : Int), .int .u64 (tk0 : Int)] 23)) := (Ext.refl w4).alloc _
      generalize w4.alloc (.cells #[.int .u64 (fa : Int), .int .u64 (tk0 : Int)] 23) = w5 at *
      clear c6
      go_loopw [17, 18, 19, 65] (fun l _ _ j wr => ∃ n : Nat, n ≤ List.length (α := Cd) cs ∧ j = .int .i64 n ∧ Ext w4 wr ∧ OwnN wr l (fa :: tk0 :: picks ((cs.zip ds).take n) 0) ∧ (fa :: tk0 :: picks ((cs.zip ds).take n) 0).length ≤ n + 2 ∧ (∀ x ∈ fa :: tk0 :: picks ((cs.zip ds).take n) 0, (Lit.int .u64 (x : Int)).wf = true) ∧ ∀ b, l.ownBlock = some b → w4.heap.size ≤ b) (fun _ _ _ j _ => List.length (α := Cd) cs - (intOf j).toNat)
      case atStart => exact ⟨0, by omega, rfl, hx5, ho5, by simp [picks], by simpa [picks] using hwf0, by rintro b ⟨⟩; exact Nat.le_refl _⟩
      case round =>
        clear ho5 hx5
        obtain ⟨n, hn, rfl, hx, ho, hle, hwf, hap⟩ := hrel
        by_cases hlt : n < List.length (α := Cd) cs
        · obtain ⟨ad, rfl, hf, hcells⟩ := hcell (by omega)
          obtain ⟨bd, rfl, hf2, hcells2⟩ := hcel2 (by intro h; have := congrArg List.length h; simp only [List.length_nil] at this; omega)
          have hxw := HXO.out.trans (HX4.out.trans hx)
          have hltd : n < ds.length := by omega
          obtain ⟨hcc, hok⟩ := conds_at hall (hcells.keep (hxw.same hF _ hf)) hlt
          have qd := (hcells2.keep (hxw.same hF _ hf2)) n _ (AllH.bool_at hal2 hltd)
          have hlz : n < (cs.zip ds).length := by rw [List.length_zip]; exact Nat.lt_min.2 ⟨hlt, hltd⟩
          have hst := picks_step (cs.zip ds) 0 n hlz
          rw [List.getElem_zip] at hst
          simp only at hst
          generalize hck : cs[n] = ck at *
          generalize hdd : ds[n] = db at *
          have hwa := hok.am
          have hwN : ∀ x ∈ fa :: tk0 :: (picks ((cs.zip ds).take n) 0 ++ [ck.2.2.1]), (Lit.int .u64 (x : Int)).wf = true := by
            intro x hx
            rw [← List.cons_append, ← List.cons_append] at hx
            rcases List.mem_append.1 hx with hx | hx
            · exact hwf x hx
            · simp at hx; subst hx; exact hwa
          have HCL := Lib.hid (condCells_len hok)
          have hone := condCells_one ck
          have k1 : (condCells ck)[1]? = some (.int .i64 ck.2.1) := rfl
          have k2 : (condCells ck)[2]? = some (.int .u64 (ck.2.2.1 : Int)) := rfl
          generalize condCells ck = C at *
          have hbC : Blk (wr.alloc (.cells C.toArray 44)) wr.heap.size 44 C := Blk.new _ _ _
          have q1 := (hbC.cell 1).trans k1
          have q2 := (hbC.cell 2).trans k2
          have qd : (wr.alloc (.cells C.toArray 44)).cell? (bd.add n) = some (.bool db) := World.grownBy.cell ((Ext.refl wr).alloc _) qd (by simp)
          have kn : (n : Int) < (ds.length : Int) := by omega
          have HX := Lib.hid hx
          have HO := Lib.hid ho
          clear hcells hcells2 hxw hck hdd hok hbC k1 k2 hx ho hlz
          cases hq : (ck.2.1 == 0) <;> cases hdb : db
          all_goals subst hdb
          · skip
            rw [hq]  at hst
            simp only [Bool.bne_true, Bool.bne_false, Bool.not_true, Bool.not_false, Bool.false_eq_true, if_true, if_false] at hst
            have HST := Lib.hid hst
            clear hst
            go_wp2_with (first
              | (refine wpList_load_agg _ rfl 44 (.tmp 68) rfl _ rfl C _ Try.underlying44 rfl (cond_size HCL.out) hcc ?_)
              | (refine wpList_alloc _ rfl 44 rfl _ hzc ?_)
              | (refine wpList_store_new _ rfl 44 (.tmp 19) (.tmp 69) rfl rfl ZC C _ rfl (cond_size HCL.out) (by rw [HCL.out, HZCL.out]) hone ?_)
              | fail)
            refine startM Since (by kernel_rfl) ?_
            (try simp only [Act.put, List.setIfInBounds_toArray, List.set_cons_succ, List.set_cons_zero])
            have q1 : (wr.alloc (.cells C.toArray 44)).drew.cell? ⟨wr.heap.size, 1, none⟩ = some (.int .i64 ck.2.1) := q1
            have q2 : (wr.alloc (.cells C.toArray 44)).drew.cell? ⟨wr.heap.size, 2, none⟩ = some (.int .u64 (ck.2.2.1 : Int)) := q2
            have qd : (wr.alloc (.cells C.toArray 44)).drew.cell? (bd.add n) = some (.bool false) := qd
            have hxr : Ext wr (wr.alloc (.cells C.toArray 44)).drew := ((Ext.refl wr).alloc _).drew
            have hwl : wr.heap.size < (wr.alloc (.cells C.toArray 44)).drew.heap.size := by show wr.heap.size < (wr.alloc (.cells C.toArray 44)).heap.size; simp
            generalize (wr.alloc (.cells C.toArray 44)).drew = wA at *
            refine takeE 0 rfl (by kernel_rfl) (by kernel_rfl) (by kernel_rfl) rfl (fun _ _ _ _ h => h) rfl (fun K hK => ?_)
            go_big_quiet_op
            first | refine hK _ ?_ | refine ⟨_, fun _ _ => rfl, hK _ ?_⟩
            clear hK K
            refine takeE 1 rfl (by kernel_rfl) (by kernel_rfl) (by kernel_rfl) rfl (fun _ _ _ _ h => h) rfl (fun K hK => ?_)
            refine quiet_cell _ _ rfl _ rfl _ _ Try.underlying41 rfl (fun W' h => World.grownBy.cell h.ext q1 (by simp)) ?_
            refine hK _ ?_
            simp only [Act.put, List.setIfInBounds_toArray, List.set_cons_succ, List.set_cons_zero]
            clear hK K
            refine takeE 2 rfl (by kernel_rfl) (by kernel_rfl) (by kernel_rfl) rfl (fun _ _ _ _ h => h) rfl (fun K hK => ?_)
            go_big_quiet_op
            first | refine hK _ ?_ | refine ⟨_, fun _ _ => rfl, hK _ ?_⟩
            clear hK K
            refine takeE 3 rfl (by kernel_rfl) (by kernel_rfl) (by kernel_rfl) rfl (fun _ _ _ _ h => h) rfl (fun K hK => ?_)
            go_big_quiet_op
            first | refine hK _ ?_ | refine ⟨_, fun _ _ => rfl, hK _ ?_⟩
            clear hK K
            refine takeE 4 rfl (by kernel_rfl) (by kernel_rfl) (by kernel_rfl) rfl (fun _ _ _ _ h => h) rfl (fun K hK => ?_)
            go_big_quiet_op
            first | refine hK _ ?_ | refine ⟨_, fun _ _ => rfl, hK _ ?_⟩
            clear hK K
            refine takeE 5 rfl (by kernel_rfl) (by kernel_rfl) (by kernel_rfl) rfl (fun _ _ _ _ h => h) rfl (fun K hK => ?_)
            go_big_quiet_op
            first | refine hK _ ?_ | refine ⟨_, fun _ _ => rfl, hK _ ?_⟩
            clear hK K
            refine takeE 6 rfl (by kernel_rfl) (by kernel_rfl) (by kernel_rfl) rfl (fun _ _ _ _ h => h) rfl (fun K hK => ?_)
            go_big_quiet_op
            first | refine hK _ ?_ | refine ⟨_, fun _ _ => rfl, hK _ ?_⟩
            clear hK K
            refine takeE 7 rfl (by kernel_rfl) (by kernel_rfl) (by kernel_rfl) rfl (fun _ _ _ _ h => h) rfl (fun K hK => ?_)
            refine quiet_cell _ _ rfl _ rfl _ _ Try.underlying4 rfl (fun W' h => World.grownBy.cell h.ext qd (by simp)) ?_
            refine hK _ ?_
            simp only [Act.put, List.setIfInBounds_toArray, List.set_cons_succ, List.set_cons_zero]
            clear hK K
            refine takeE 8 rfl (by kernel_rfl) (by kernel_rfl) (by kernel_rfl) rfl (fun _ _ _ _ h => h) rfl (fun K hK => ?_)
            go_big_quiet_op
            first | refine hK _ ?_ | refine ⟨_, fun _ _ => rfl, hK _ ?_⟩
            clear hK K
            refine doneM (by kernel_rfl) ?_ _
            have HXR := Lib.hid hxr
            clear hxr
            go_wp2
            go_roundw
            case rel => exact ⟨n + 1, by omega, by go_num, HX.out.trans HXR.out, by rw [HST.out]; exact Own.ext HO.out HXR.out, by rw [HST.out]; omega, by rw [HST.out]; exact hwf, hap⟩
            case measure => simp [intOf]; omega
          · skip
            rw [hq]  at hst
            simp only [Bool.bne_true, Bool.bne_false, Bool.not_true, Bool.not_false, Bool.false_eq_true, if_true, if_false] at hst
            have HST := Lib.hid hst
            clear hst
            go_wp2_with (first
              | (refine wpList_load_agg _ rfl 44 (.tmp 68) rfl _ rfl C _ Try.underlying44 rfl (cond_size HCL.out) hcc ?_)
              | (refine wpList_alloc _ rfl 44 rfl _ hzc ?_)
              | (refine wpList_store_new _ rfl 44 (.tmp 19) (.tmp 69) rfl rfl ZC C _ rfl (cond_size HCL.out) (by rw [HCL.out, HZCL.out]) hone ?_)
              | fail)
            refine startM Since (by kernel_rfl) ?_
            (try simp only [Act.put, List.setIfInBounds_toArray, List.set_cons_succ, List.set_cons_zero])
            have q1 : (wr.alloc (.cells C.toArray 44)).drew.cell? ⟨wr.heap.size, 1, none⟩ = some (.int .i64 ck.2.1) := q1
            have q2 : (wr.alloc (.cells C.toArray 44)).drew.cell? ⟨wr.heap.size, 2, none⟩ = some (.int .u64 (ck.2.2.1 : Int)) := q2
            have qd : (wr.alloc (.cells C.toArray 44)).drew.cell? (bd.add n) = some (.bool true) := qd
            have hxr : Ext wr (wr.alloc (.cells C.toArray 44)).drew := ((Ext.refl wr).alloc _).drew
            have hwl : wr.heap.size < (wr.alloc (.cells C.toArray 44)).drew.heap.size := by show wr.heap.size < (wr.alloc (.cells C.toArray 44)).heap.size; simp
            generalize (wr.alloc (.cells C.toArray 44)).drew = wA at *
            refine takeE 0 rfl (by kernel_rfl) (by kernel_rfl) (by kernel_rfl) rfl (fun _ _ _ _ h => h) rfl (fun K hK => ?_)
            go_big_quiet_op
            first | refine hK _ ?_ | refine ⟨_, fun _ _ => rfl, hK _ ?_⟩
            clear hK K
            refine takeE 1 rfl (by kernel_rfl) (by kernel_rfl) (by kernel_rfl) rfl (fun _ _ _ _ h => h) rfl (fun K hK => ?_)
            refine quiet_cell _ _ rfl _ rfl _ _ Try.underlying41 rfl (fun W' h => World.grownBy.cell h.ext q1 (by simp)) ?_
            refine hK _ ?_
            simp only [Act.put, List.setIfInBounds_toArray, List.set_cons_succ, List.set_cons_zero]
            clear hK K
            refine takeE 2 rfl (by kernel_rfl) (by kernel_rfl) (by kernel_rfl) rfl (fun _ _ _ _ h => h) rfl (fun K hK => ?_)
            go_big_quiet_op
            first | refine hK _ ?_ | refine ⟨_, fun _ _ => rfl, hK _ ?_⟩
            clear hK K
            refine takeE 3 rfl (by kernel_rfl) (by kernel_rfl) (by kernel_rfl) rfl (fun _ _ _ _ h => h) rfl (fun K hK => ?_)
            go_big_quiet_op
            first | refine hK _ ?_ | refine ⟨_, fun _ _ => rfl, hK _ ?_⟩
            clear hK K
            refine takeE 4 rfl (by kernel_rfl) (by kernel_rfl) (by kernel_rfl) rfl (fun _ _ _ _ h => h) rfl (fun K hK => ?_)
            go_big_quiet_op
            first | refine hK _ ?_ | refine ⟨_, fun _ _ => rfl, hK _ ?_⟩
            clear hK K
            refine takeE 5 rfl (by kernel_rfl) (by kernel_rfl) (by kernel_rfl) rfl (fun _ _ _ _ h => h) rfl (fun K hK => ?_)
            go_big_quiet_op
            first | refine hK _ ?_ | refine ⟨_, fun _ _ => rfl, hK _ ?_⟩
            clear hK K
            refine takeE 6 rfl (by kernel_rfl) (by kernel_rfl) (by kernel_rfl) rfl (fun _ _ _ _ h => h) rfl (fun K hK => ?_)
            go_big_quiet_op
            first | refine hK _ ?_ | refine ⟨_, fun _ _ => rfl, hK _ ?_⟩
            clear hK K
            refine takeE 7 rfl (by kernel_rfl) (by kernel_rfl) (by kernel_rfl) rfl (fun _ _ _ _ h => h) rfl (fun K hK => ?_)
            refine quiet_cell _ _ rfl _ rfl _ _ Try.underlying4 rfl (fun W' h => World.grownBy.cell h.ext qd (by simp)) ?_
            refine hK _ ?_
            simp only [Act.put, List.setIfInBounds_toArray, List.set_cons_succ, List.set_cons_zero]
            clear hK K
            refine takeE 8 rfl (by kernel_rfl) (by kernel_rfl) (by kernel_rfl) rfl (fun _ _ _ _ h => h) rfl (fun K hK => ?_)
            go_big_quiet_op
            first | refine hK _ ?_ | refine ⟨_, fun _ _ => rfl, hK _ ?_⟩
            clear hK K
            refine doneM (by kernel_rfl) ?_ _
            have HXR := Lib.hid hxr
            clear hxr
            go_wp2_with (first
              | (at_builtin; refine wpList_app _ rfl (.tmp 79) (.tmp 82) _ _ rfl _ _ i0 _ 1 8 Try.underlying85 Try.underlying85 hi hz0 hz1' hz2 rfl (by decide) u17 _ _ rfl (Own.ext HO.out (HXR.out.alloc _)) _ 1 1 [Value.int .u64 (ck.2.2.1 : Int)] rfl rfl (src_new_at rfl [Value.int .u64 (ck.2.2.1 : Int)] _ 1) (by simp [Value.oneCell']) (by unfold maxLen; omega) (by omega) ?_; intro v4 wB ho4 hm4)
              | fail)
            have hx4 : Ext w4 wB := grown_then ((HX.out.trans HXR.out).alloc (.cells #[Value.int .u64 (ck.2.2.1 : Int)] 23)) hm4.grown (.inr hap)
            have hap4 : ∀ b, v4.ownBlock = some b → w4.heap.size ≤ b := fun b hb => by
              rcases hm4.at_ with e | h
              · exact hap b (by rw [← e]; exact hb)
              · have h1 := h b hb; have h2 := HX.out.size; have h3 := HXR.out.size; simp at h1; omega
            go_wp2
            go_roundw
            case rel => exact ⟨n + 1, by omega, by go_num, hx4, by rw [HST.out]; unfold OwnN; rw [← List.cons_append, ← List.cons_append, List.length_append, List.map_append]; exact ho4, by rw [HST.out]; simp only [List.length_cons, List.length_append, List.length_nil] at hle ⊢; omega, by rw [HST.out]; exact hwN, hap4⟩
            case measure => simp [intOf]; omega
          · skip
            rw [hq]  at hst
            simp only [Bool.bne_true, Bool.bne_false, Bool.not_true, Bool.not_false, Bool.false_eq_true, if_true, if_false] at hst
            have HST := Lib.hid hst
            clear hst
            go_wp2_with (first
              | (refine wpList_load_agg _ rfl 44 (.tmp 68) rfl _ rfl C _ Try.underlying44 rfl (cond_size HCL.out) hcc ?_)
              | (refine wpList_alloc _ rfl 44 rfl _ hzc ?_)
              | (refine wpList_store_new _ rfl 44 (.tmp 19) (.tmp 69) rfl rfl ZC C _ rfl (cond_size HCL.out) (by rw [HCL.out, HZCL.out]) hone ?_)
              | fail)
            refine startM Since (by kernel_rfl) ?_
            (try simp only [Act.put, List.setIfInBounds_toArray, List.set_cons_succ, List.set_cons_zero])
            have q1 : (wr.alloc (.cells C.toArray 44)).drew.cell? ⟨wr.heap.size, 1, none⟩ = some (.int .i64 ck.2.1) := q1
            have q2 : (wr.alloc (.cells C.toArray 44)).drew.cell? ⟨wr.heap.size, 2, none⟩ = some (.int .u64 (ck.2.2.1 : Int)) := q2
            have qd : (wr.alloc (.cells C.toArray 44)).drew.cell? (bd.add n) = some (.bool false) := qd
            have hxr : Ext wr (wr.alloc (.cells C.toArray 44)).drew := ((Ext.refl wr).alloc _).drew
            have hwl : wr.heap.size < (wr.alloc (.cells C.toArray 44)).drew.heap.size := by show wr.heap.size < (wr.alloc (.cells C.toArray 44)).heap.size; simp
            generalize (wr.alloc (.cells C.toArray 44)).drew = wA at *
            refine takeE 0 rfl (by kernel_rfl) (by kernel_rfl) (by kernel_rfl) rfl (fun _ _ _ _ h => h) rfl (fun K hK => ?_)
            go_big_quiet_op
            first | refine hK _ ?_ | refine ⟨_, fun _ _ => rfl, hK _ ?_⟩
            clear hK K
            refine takeE 1 rfl (by kernel_rfl) (by kernel_rfl) (by kernel_rfl) rfl (fun _ _ _ _ h => h) rfl (fun K hK => ?_)
            refine quiet_cell _ _ rfl _ rfl _ _ Try.underlying41 rfl (fun W' h => World.grownBy.cell h.ext q1 (by simp)) ?_
            refine hK _ ?_
            simp only [Act.put, List.setIfInBounds_toArray, List.set_cons_succ, List.set_cons_zero]
            clear hK K
            refine takeE 2 rfl (by kernel_rfl) (by kernel_rfl) (by kernel_rfl) rfl (fun _ _ _ _ h => h) rfl (fun K hK => ?_)
            go_big_quiet_op
            first | refine hK _ ?_ | refine ⟨_, fun _ _ => rfl, hK _ ?_⟩
            clear hK K
            refine takeE 3 rfl (by kernel_rfl) (by kernel_rfl) (by kernel_rfl) rfl (fun _ _ _ _ h => h) rfl (fun K hK => ?_)
            go_big_quiet_op
            first | refine hK _ ?_ | refine ⟨_, fun _ _ => rfl, hK _ ?_⟩
            clear hK K
            refine takeE 4 rfl (by kernel_rfl) (by kernel_rfl) (by kernel_rfl) rfl (fun _ _ _ _ h => h) rfl (fun K hK => ?_)
            go_big_quiet_op
            first | refine hK _ ?_ | refine ⟨_, fun _ _ => rfl, hK _ ?_⟩
            clear hK K
            refine takeE 5 rfl (by kernel_rfl) (by kernel_rfl) (by kernel_rfl) rfl (fun _ _ _ _ h => h) rfl (fun K hK => ?_)
            go_big_quiet_op
            first | refine hK _ ?_ | refine ⟨_, fun _ _ => rfl, hK _ ?_⟩
            clear hK K
            refine takeE 6 rfl (by kernel_rfl) (by kernel_rfl) (by kernel_rfl) rfl (fun _ _ _ _ h => h) rfl (fun K hK => ?_)
            go_big_quiet_op
            first | refine hK _ ?_ | refine ⟨_, fun _ _ => rfl, hK _ ?_⟩
            clear hK K
            refine takeE 7 rfl (by kernel_rfl) (by kernel_rfl) (by kernel_rfl) rfl (fun _ _ _ _ h => h) rfl (fun K hK => ?_)
            refine quiet_cell _ _ rfl _ rfl _ _ Try.underlying4 rfl (fun W' h => World.grownBy.cell h.ext qd (by simp)) ?_
            refine hK _ ?_
            simp only [Act.put, List.setIfInBounds_toArray, List.set_cons_succ, List.set_cons_zero]
            clear hK K
            refine takeE 8 rfl (by kernel_rfl) (by kernel_rfl) (by kernel_rfl) rfl (fun _ _ _ _ h => h) rfl (fun K hK => ?_)
            go_big_quiet_op
            first | refine hK _ ?_ | refine ⟨_, fun _ _ => rfl, hK _ ?_⟩
            clear hK K
            refine doneM (by kernel_rfl) ?_ _
            have HXR := Lib.hid hxr
            clear hxr
            go_wp2_with (first
              | (at_builtin; refine wpList_app _ rfl (.tmp 79) (.tmp 82) _ _ rfl _ _ i0 _ 1 8 Try.underlying85 Try.underlying85 hi hz0 hz1' hz2 rfl (by decide) u17 _ _ rfl (Own.ext HO.out (HXR.out.alloc _)) _ 1 1 [Value.int .u64 (ck.2.2.1 : Int)] rfl rfl (src_new_at rfl [Value.int .u64 (ck.2.2.1 : Int)] _ 1) (by simp [Value.oneCell']) (by unfold maxLen; omega) (by omega) ?_; intro v4 wB ho4 hm4)
              | fail)
            have hx4 : Ext w4 wB := grown_then ((HX.out.trans HXR.out).alloc (.cells #[Value.int .u64 (ck.2.2.1 : Int)] 23)) hm4.grown (.inr hap)
            have hap4 : ∀ b, v4.ownBlock = some b → w4.heap.size ≤ b := fun b hb => by
              rcases hm4.at_ with e | h
              · exact hap b (by rw [← e]; exact hb)
              · have h1 := h b hb; have h2 := HX.out.size; have h3 := HXR.out.size; simp at h1; omega
            go_wp2
            go_roundw
            case rel => exact ⟨n + 1, by omega, by go_num, hx4, by rw [HST.out]; unfold OwnN; rw [← List.cons_append, ← List.cons_append, List.length_append, List.map_append]; exact ho4, by rw [HST.out]; simp only [List.length_cons, List.length_append, List.length_nil] at hle ⊢; omega, by rw [HST.out]; exact hwN, hap4⟩
            case measure => simp [intOf]; omega
          · skip
            rw [hq]  at hst
            simp only [Bool.bne_true, Bool.bne_false, Bool.not_true, Bool.not_false, Bool.false_eq_true, if_true, if_false] at hst
            have HST := Lib.hid hst
            clear hst
            go_wp2_with (first
              | (refine wpList_load_agg _ rfl 44 (.tmp 68) rfl _ rfl C _ Try.underlying44 rfl (cond_size HCL.out) hcc ?_)
              | (refine wpList_alloc _ rfl 44 rfl _ hzc ?_)
              | (refine wpList_store_new _ rfl 44 (.tmp 19) (.tmp 69) rfl rfl ZC C _ rfl (cond_size HCL.out) (by rw [HCL.out, HZCL.out]) hone ?_)
              | fail)
            refine startM Since (by kernel_rfl) ?_
            (try simp only [Act.put, List.setIfInBounds_toArray, List.set_cons_succ, List.set_cons_zero])
            have q1 : (wr.alloc (.cells C.toArray 44)).drew.cell? ⟨wr.heap.size, 1, none⟩ = some (.int .i64 ck.2.1) := q1
            have q2 : (wr.alloc (.cells C.toArray 44)).drew.cell? ⟨wr.heap.size, 2, none⟩ = some (.int .u64 (ck.2.2.1 : Int)) := q2
            have qd : (wr.alloc (.cells C.toArray 44)).drew.cell? (bd.add n) = some (.bool true) := qd
            have hxr : Ext wr (wr.alloc (.cells C.toArray 44)).drew := ((Ext.refl wr).alloc _).drew
            have hwl : wr.heap.size < (wr.alloc (.cells C.toArray 44)).drew.heap.size := by show wr.heap.size < (wr.alloc (.cells C.toArray 44)).heap.size; simp
            generalize (wr.alloc (.cells C.toArray 44)).drew = wA at *
            refine takeE 0 rfl (by kernel_rfl) (by kernel_rfl) (by kernel_rfl) rfl (fun _ _ _ _ h => h) rfl (fun K hK => ?_)
            go_big_quiet_op
            first | refine hK _ ?_ | refine ⟨_, fun _ _ => rfl, hK _ ?_⟩
            clear hK K
            refine takeE 1 rfl (by kernel_rfl) (by kernel_rfl) (by kernel_rfl) rfl (fun _ _ _ _ h => h) rfl (fun K hK => ?_)
            refine quiet_cell _ _ rfl _ rfl _ _ Try.underlying41 rfl (fun W' h => World.grownBy.cell h.ext q1 (by simp)) ?_
            refine hK _ ?_
            simp only [Act.put, List.setIfInBounds_toArray, List.set_cons_succ, List.set_cons_zero]
            clear hK K
            refine takeE 2 rfl (by kernel_rfl) (by kernel_rfl) (by kernel_rfl) rfl (fun _ _ _ _ h => h) rfl (fun K hK => ?_)
            go_big_quiet_op
            first | refine hK _ ?_ | refine ⟨_, fun _ _ => rfl, hK _ ?_⟩
            clear hK K
            refine takeE 3 rfl (by kernel_rfl) (by kernel_rfl) (by kernel_rfl) rfl (fun _ _ _ _ h => h) rfl (fun K hK => ?_)
            go_big_quiet_op
            first | refine hK _ ?_ | refine ⟨_, fun _ _ => rfl, hK _ ?_⟩
            clear hK K
            refine takeE 4 rfl (by kernel_rfl) (by kernel_rfl) (by kernel_rfl) rfl (fun _ _ _ _ h => h) rfl (fun K hK => ?_)
            go_big_quiet_op
            first | refine hK _ ?_ | refine ⟨_, fun _ _ => rfl, hK _ ?_⟩
            clear hK K
            refine takeE 5 rfl (by kernel_rfl) (by kernel_rfl) (by kernel_rfl) rfl (fun _ _ _ _ h => h) rfl (fun K hK => ?_)
            go_big_quiet_op
            first | refine hK _ ?_ | refine ⟨_, fun _ _ => rfl, hK _ ?_⟩
            clear hK K
            refine takeE 6 rfl (by kernel_rfl) (by kernel_rfl) (by kernel_rfl) rfl (fun _ _ _ _ h => h) rfl (fun K hK => ?_)
            go_big_quiet_op
            first | refine hK _ ?_ | refine ⟨_, fun _ _ => rfl, hK _ ?_⟩
            clear hK K
            refine takeE 7 rfl (by kernel_rfl) (by kernel_rfl) (by kernel_rfl) rfl (fun _ _ _ _ h => h) rfl (fun K hK => ?_)
            refine quiet_cell _ _ rfl _ rfl _ _ Try.underlying4 rfl (fun W' h => World.grownBy.cell h.ext qd (by simp)) ?_
            refine hK _ ?_
            simp only [Act.put, List.setIfInBounds_toArray, List.set_cons_succ, List.set_cons_zero]
            clear hK K
            refine takeE 8 rfl (by kernel_rfl) (by kernel_rfl) (by kernel_rfl) rfl (fun _ _ _ _ h => h) rfl (fun K hK => ?_)
            go_big_quiet_op
            first | refine hK _ ?_ | refine ⟨_, fun _ _ => rfl, hK _ ?_⟩
            clear hK K
            refine doneM (by kernel_rfl) ?_ _
            have HXR := Lib.hid hxr
            clear hxr
            go_wp2
            go_roundw
            case rel => exact ⟨n + 1, by omega, by go_num, HX.out.trans HXR.out, by rw [HST.out]; exact Own.ext HO.out HXR.out, by rw [HST.out]; omega, by rw [HST.out]; exact hwf, hap⟩
            case measure => simp [intOf]; omega
        · obtain rfl : n = List.length (α := Cd) cs := by omega
          rw [List.take_of_length_le (by rw [List.length_zip]; omega)] at ho hwf
          have hl := ownN_holds ho hwf
          have hm := Money_Sum _ _ wr _ hl
          rw [← HO0.out] at hm
          simp only [numErr] at hm
          have HM := Lib.hid hm
          have hxx := HX4.out.trans hx
          have hb11 := HB11.out.keep hxx (by simp)
          have hb3 := HB3.out.keep hxx (by simp)
          have c11 : wr.cell? ⟨g11, 0, none⟩ = some (.int .u64 (a : Int)) := hb11.cell 0
          have f11 := hb11.free 0
          have hb11s := hb11.set 0 (.int .u64 (o0.1 : Int))
          have hgs : w2.grownBy (wr.setCell ⟨g11, 0, none⟩ (.int .u64 (o0.1 : Int))) (some g11) := grown_then (grown_then HG.out (hxx.any none) (.inr (by simp))) (only_set 0 _) (.inl rfl)
          have hr8 : (wr.setCell ⟨g11, 0, none⟩ (.int .u64 (o0.1 : Int))).heap[w.heap.size + 3]? = some (.cells QC.toArray 24 (0, 0)) := hb3.keep (only_set 0 _) (by simp; omega)
          have hxs : Ext w (wr.setCell ⟨g11, 0, none⟩ (.int .u64 (o0.1 : Int))) := grown_then (HXO.out.trans hxx) (only_set 0 _) (.inr (by rintro b ⟨⟩; omega))
          have HB11S := Lib.hid hb11s
          have HGS := Lib.hid hgs
          have HXS := Lib.hid hxs
          clear ho hl hwf hm hxx hb11 hb3 hb11s hgs hxs
          obtain ⟨oa, oe⟩ := o0
          simp only at HM HB11S HGS HXS hr8 c11 f11
          by_cases hoe : oe = 0
          · subst hoe
            go_wp2_with (first
              | (go_at_call 40; refine HM.out.mono ?_; rintro e w' ⟨rfl, rfl⟩)
              | fail)
            go_roundw
            case rel => (obtain ⟨rfl, rfl⟩ := HAB.out; exact ⟨1, oa, 0, by omega, by go_num, HGS.out, HB11S.out, by simp, fun _ => (by simp), by simp⟩)
            case measure => simp [intOf]
          · have hob : (oe != 0) = true := by simpa using hoe
            go_wp2_with (first
              | (go_at_call 40; refine HM.out.mono ?_; rintro e w' ⟨rfl, rfl⟩)
              | (refine wpList_build (.inl rfl) 24 _ rfl (.agg (ptc 0 0).toArray) (by kernel_rfl) ?_; rw [← HZB.out])
              | (refine wpList_store_row _ rfl 24 (.tmp 8) (.tmp 94) rfl (w.heap.size + 3) rfl QC QC _ rfl hr8 (z2_size HZL.out) rfl hzo ?_)
              | fail)
            have hc9 := Blk.cells (t := 24) (setRow_at (cs' := QC.toArray) hr8)
            (try simp only [Exit.inBlock, Exit.then])
            refine bodyPost_ret (results_agg_tmp rfl _ _ _ _ _ rfl Try.underlying24 rfl (z2_size HZL.out) hc9) rfl ?_
            refine ⟨?_, grown_then HXS.out (setRow_only _) (.inr (by rintro b ⟨⟩; omega))⟩
            rw [HFA.out, ← HO0.out, splitM_l hoe, HZB.out]
            rfl
    · have HAB := Lib.hid (hk1 rfl)
      have hfr := HFR.out wo 1 (by omega) HXO.out
      simp only [numErr] at hfr
      have hfl := HFL.out 1
      have HFRC := Lib.hid hfr
      clear hfr
      go_wp2_with (first
        | (refine wpList_load_agg _ rfl 36 (.tmp 4) rfl _ rfl SC _ Try.underlying36 rfl (state_size HSL.out) hcs ?_)
        | (refine wpList_load_agg _ rfl 24 (.tmp 5) rfl _ rfl PC _ Try.underlying24 rfl (z2_size HPL.out) hcp ?_)
        | fail)
      refine HFRC.out.mono ?_
      rintro e w3 ⟨rfl, hx3⟩
      have HX3 := Lib.hid hx3
      clear hx3 hcs hcp
      go_wp2
      have hx4 := HX3.out.trans (Ext.refl w3).drew
      refine startM Since (by kernel_rfl) ?_
      generalize w3.drew = w4 at *
      have cT := ((HB0.out.keep hx4 (by simp)).cell (4 + 1)).trans HS5.out
      have cQ := ((HB2.out.keep hx4 (by simp)).cell 1).trans hz21
      have hsub : ∀ W, Calls Try.prog 42 #[.int .u64 (tk1 : Int), .int .u64 0] W fun e w' => e = .returned (.tuple #[.int .u64 (tk1 : Int), .int .i64 0]) ∧ W = w' := fun W => by
        have h := Money_Sub tk1 0 W ht1 (by decide)
        have e : subM tk1 0 = (tk1, 0) := by unfold subM; rw [if_neg (by omega)]; rfl
        rw [e] at h
        exact h
      have HSUB := Lib.hid hsub
      have c6 : (w4.alloc (.cells #[.int .u64 ((f 1).1 : Int), .int .u64 (tk1 : Int)] 23)).cell? ⟨w.heap.size, 6, none⟩ = some (.slice A (List.length (α := Cd) cs) c) := (((HB0.out.keep hx4 (by simp)).keep ((Ext.refl w4).alloc _) (by simp)).cell 6).trans HS6.out
      have HX4 := Lib.hid hx4
      clear hsub hx4
      refine takeE 0 rfl (by kernel_rfl) (by kernel_rfl) (by kernel_rfl) rfl (fun _ _ _ _ h => h) rfl (fun K hK => ?_)
      go_big_quiet_op
      first | refine hK _ ?_ | refine ⟨_, fun _ _ => rfl, hK _ ?_⟩
      clear hK K
      refine takeE 1 rfl (by kernel_rfl) (by kernel_rfl) (by kernel_rfl) rfl (fun _ _ _ _ h => h) rfl (fun K hK => ?_)
      go_big_quiet_op
      first | refine hK _ ?_ | refine ⟨_, fun _ _ => rfl, hK _ ?_⟩
      clear hK K
      refine takeE 2 rfl (by kernel_rfl) (by kernel_rfl) (by kernel_rfl) rfl (fun _ _ _ _ h => h) rfl (fun K hK => ?_)
      go_big_quiet_op
      first | refine hK _ ?_ | refine ⟨_, fun _ _ => rfl, hK _ ?_⟩
      clear hK K
      refine takeE 3 rfl (by kernel_rfl) (by kernel_rfl) (by kernel_rfl) rfl (fun _ _ _ _ h => h) rfl (fun K hK => ?_)
      refine quiet_cell _ _ rfl _ rfl _ _ Try.underlying23 rfl (fun W' h => World.grownBy.cell h.ext cT (by simp)) ?_
      refine hK _ ?_
      simp only [Act.put, List.setIfInBounds_toArray, List.set_cons_succ, List.set_cons_zero]
      clear hK K
      refine takeE 4 rfl (by kernel_rfl) (by kernel_rfl) (by kernel_rfl) rfl (fun _ _ _ _ h => h) rfl (fun K hK => ?_)
      go_big_quiet_op
      first | refine hK _ ?_ | refine ⟨_, fun _ _ => rfl, hK _ ?_⟩
      clear hK K
      refine takeE 5 rfl (by kernel_rfl) (by kernel_rfl) (by kernel_rfl) rfl (fun _ _ _ _ h => h) rfl (fun K hK => ?_)
      go_big_quiet_op
      first | refine hK _ ?_ | refine ⟨_, fun _ _ => rfl, hK _ ?_⟩
      clear hK K
      refine takeE 6 rfl (by kernel_rfl) (by kernel_rfl) (by kernel_rfl) rfl (fun _ _ _ _ h => h) rfl (fun K hK => ?_)
      refine quiet_cell _ _ rfl _ rfl _ _ Try.underlying23 rfl (fun W' h => World.grownBy.cell h.ext cQ (by simp)) ?_
      refine hK _ ?_
      simp only [Act.put, List.setIfInBounds_toArray, List.set_cons_succ, List.set_cons_zero]
      clear hK K
      refine stepM 7 rfl (by kernel_rfl) rfl (fun K hK => ?_)
      go_simp
      refine (HSUB.out _).mono ?_
      rintro e _ ⟨rfl, rfl⟩
      refine hK _ _ (Ext.refl _) ?_
      clear hK K
      refine takeE 8 rfl (by kernel_rfl) (by kernel_rfl) (by kernel_rfl) rfl (fun _ _ _ _ h => h) rfl (fun K hK => ?_)
      go_big_quiet_op
      first | refine hK _ ?_ | refine ⟨_, fun _ _ => rfl, hK _ ?_⟩
      clear hK K
      refine takeE 9 rfl (by kernel_rfl) (by kernel_rfl) (by kernel_rfl) rfl (fun _ _ _ _ h => h) rfl (fun K hK => ?_)
      go_big_quiet_op
      first | refine hK _ ?_ | refine ⟨_, fun _ _ => rfl, hK _ ?_⟩
      clear hK K
      refine takeE 10 rfl (by kernel_rfl) (by kernel_rfl) (by kernel_rfl) rfl (fun _ _ _ _ h => h) rfl (fun K hK => ?_)
      go_big_quiet_op
      first | refine hK _ ?_ | refine ⟨_, fun _ _ => rfl, hK _ ?_⟩
      clear hK K
      refine takeE 11 rfl (by kernel_rfl) (by kernel_rfl) (by kernel_rfl) rfl (fun _ _ _ _ h => h) rfl (fun K hK => ?_)
      go_big_quiet_op
      first | refine hK _ ?_ | refine ⟨_, fun _ _ => rfl, hK _ ?_⟩
      clear hK K
      refine takeE 12 rfl (by kernel_rfl) (by kernel_rfl) (by kernel_rfl) rfl (fun _ _ _ _ h => h) rfl (fun K hK => ?_)
      go_big_quiet_op
      first | refine hK _ ?_ | refine ⟨_, fun _ _ => rfl, hK _ ?_⟩
      clear hK K
      refine doneM (by kernel_rfl) ?_ _
      clear cT cQ
      have hwf0 : ∀ x ∈ [(f 1).1, tk1], (Lit.int .u64 (x : Int)).wf = true := by
        intro x hx
        simp only [List.mem_cons, List.not_mem_nil, or_false] at hx
        rcases hx with rfl | rfl
        · exact wf64 hfl
        · exact wf64 ht1
      generalize hfa : (f 1).1 = fa at *
      have HFA := Lib.hid hfa
      clear hfa
      generalize (f 1).2 = fe at *
      go_wp2
      have ho5 : Own (w4.alloc (.cells #[.int .u64 (fa : Int), .int .u64 (tk1 : Int)] 23)) 23 1 (.slice (some ⟨w4.heap.size, 0, none⟩) 2 2) 2 [.int .u64 (fa : Int), .int .u64 (tk1 : Int)] := own_lit (cs := [.int .u64 (fa : Int), .int .u64 (tk1 : Int)]) 2 rfl (by decide)
      have hx5 : Ext w4 (w4.alloc (.cells #[.int .u64 (fa : Int), .int .u64 (tk1 : Int)] 23)) := (Ext.refl w4).alloc _
      generalize w4.alloc (.cells #[.int .u64 (fa : Int), .int .u64 (tk1 : Int)] 23) = w5 at *
      clear c6
      go_loopw [17, 18, 19, 65] (fun l _ _ j wr => ∃ n : Nat, n ≤ List.length (α := Cd) cs ∧ j = .int .i64 n ∧ Ext w4 wr ∧ OwnN wr l (fa :: tk1 :: picks ((cs.zip ds).take n) 1) ∧ (fa :: tk1 :: picks ((cs.zip ds).take n) 1).length ≤ n + 2 ∧ (∀ x ∈ fa :: tk1 :: picks ((cs.zip ds).take n) 1, (Lit.int .u64 (x : Int)).wf = true) ∧ ∀ b, l.ownBlock = some b → w4.heap.size ≤ b) (fun _ _ _ j _ => List.length (α := Cd) cs - (intOf j).toNat)
      case atStart => exact ⟨0, by omega, rfl, hx5, ho5, by simp [picks], by simpa [picks] using hwf0, by rintro b ⟨⟩; exact Nat.le_refl _⟩
      case round =>
        clear ho5 hx5
        obtain ⟨n, hn, rfl, hx, ho, hle, hwf, hap⟩ := hrel
        by_cases hlt : n < List.length (α := Cd) cs
        · obtain ⟨ad, rfl, hf, hcells⟩ := hcell (by omega)
          obtain ⟨bd, rfl, hf2, hcells2⟩ := hcel2 (by intro h; have := congrArg List.length h; simp only [List.length_nil] at this; omega)
          have hxw := HXO.out.trans (HX4.out.trans hx)
          have hltd : n < ds.length := by omega
          obtain ⟨hcc, hok⟩ := conds_at hall (hcells.keep (hxw.same hF _ hf)) hlt
          have qd := (hcells2.keep (hxw.same hF _ hf2)) n _ (AllH.bool_at hal2 hltd)
          have hlz : n < (cs.zip ds).length := by rw [List.length_zip]; exact Nat.lt_min.2 ⟨hlt, hltd⟩
          have hst := picks_step (cs.zip ds) 1 n hlz
          rw [List.getElem_zip] at hst
          simp only at hst
          generalize hck : cs[n] = ck at *
          generalize hdd : ds[n] = db at *
          have hwa := hok.am
          have hwN : ∀ x ∈ fa :: tk1 :: (picks ((cs.zip ds).take n) 1 ++ [ck.2.2.1]), (Lit.int .u64 (x : Int)).wf = true := by
            intro x hx
            rw [← List.cons_append, ← List.cons_append] at hx
            rcases List.mem_append.1 hx with hx | hx
            · exact hwf x hx
            · simp at hx; subst hx; exact hwa
          have HCL := Lib.hid (condCells_len hok)
          have hone := condCells_one ck
          have k1 : (condCells ck)[1]? = some (.int .i64 ck.2.1) := rfl
          have k2 : (condCells ck)[2]? = some (.int .u64 (ck.2.2.1 : Int)) := rfl
          generalize condCells ck = C at *
          have hbC : Blk (wr.alloc (.cells C.toArray 44)) wr.heap.size 44 C := Blk.new _ _ _
          have q1 := (hbC.cell 1).trans k1
          have q2 := (hbC.cell 2).trans k2
          have qd : (wr.alloc (.cells C.toArray 44)).cell? (bd.add n) = some (.bool db) := World.grownBy.cell ((Ext.refl wr).alloc _) qd (by simp)
          have kn : (n : Int) < (ds.length : Int) := by omega
          have HX := Lib.hid hx
          have HO := Lib.hid ho
          clear hcells hcells2 hxw hck hdd hok hbC k1 k2 hx ho hlz
          cases hq : (ck.2.1 == 1) <;> cases hdb : db
          all_goals subst hdb
          · skip
            rw [hq]  at hst
            simp only [Bool.bne_true, Bool.bne_false, Bool.not_true, Bool.not_false, Bool.false_eq_true, if_true, if_false] at hst
            have HST := Lib.hid hst
            clear hst
            go_wp2_with (first
              | (refine wpList_load_agg _ rfl 44 (.tmp 68) rfl _ rfl C _ Try.underlying44 rfl (cond_size HCL.out) hcc ?_)
              | (refine wpList_alloc _ rfl 44 rfl _ hzc ?_)
              | (refine wpList_store_new _ rfl 44 (.tmp 19) (.tmp 69) rfl rfl ZC C _ rfl (cond_size HCL.out) (by rw [HCL.out, HZCL.out]) hone ?_)
              | fail)
            refine startM Since (by kernel_rfl) ?_
            (try simp only [Act.put, List.setIfInBounds_toArray, List.set_cons_succ, List.set_cons_zero])
            have q1 : (wr.alloc (.cells C.toArray 44)).drew.cell? ⟨wr.heap.size, 1, none⟩ = some (.int .i64 ck.2.1) := q1
            have q2 : (wr.alloc (.cells C.toArray 44)).drew.cell? ⟨wr.heap.size, 2, none⟩ = some (.int .u64 (ck.2.2.1 : Int)) := q2
            have qd : (wr.alloc (.cells C.toArray 44)).drew.cell? (bd.add n) = some (.bool false) := qd
            have hxr : Ext wr (wr.alloc (.cells C.toArray 44)).drew := ((Ext.refl wr).alloc _).drew
            have hwl : wr.heap.size < (wr.alloc (.cells C.toArray 44)).drew.heap.size := by show wr.heap.size < (wr.alloc (.cells C.toArray 44)).heap.size; simp
            generalize (wr.alloc (.cells C.toArray 44)).drew = wA at *
            refine takeE 0 rfl (by kernel_rfl) (by kernel_rfl) (by kernel_rfl) rfl (fun _ _ _ _ h => h) rfl (fun K hK => ?_)
            go_big_quiet_op
            first | refine hK _ ?_ | refine ⟨_, fun _ _ => rfl, hK _ ?_⟩
            clear hK K
            refine takeE 1 rfl (by kernel_rfl) (by kernel_rfl) (by kernel_rfl) rfl (fun _ _ _ _ h => h) rfl (fun K hK => ?_)
            refine quiet_cell _ _ rfl _ rfl _ _ Try.underlying41 rfl (fun W' h => World.grownBy.cell h.ext q1 (by simp)) ?_
            refine hK _ ?_
            simp only [Act.put, List.setIfInBounds_toArray, List.set_cons_succ, List.set_cons_zero]
            clear hK K
            refine takeE 2 rfl (by kernel_rfl) (by kernel_rfl) (by kernel_rfl) rfl (fun _ _ _ _ h => h) rfl (fun K hK => ?_)
            go_big_quiet_op
            first | refine hK _ ?_ | refine ⟨_, fun _ _ => rfl, hK _ ?_⟩
            clear hK K
            refine takeE 3 rfl (by kernel_rfl) (by kernel_rfl) (by kernel_rfl) rfl (fun _ _ _ _ h => h) rfl (fun K hK => ?_)
            go_big_quiet_op
            first | refine hK _ ?_ | refine ⟨_, fun _ _ => rfl, hK _ ?_⟩
            clear hK K
            refine takeE 4 rfl (by kernel_rfl) (by kernel_rfl) (by kernel_rfl) rfl (fun _ _ _ _ h => h) rfl (fun K hK => ?_)
            go_big_quiet_op
            first | refine hK _ ?_ | refine ⟨_, fun _ _ => rfl, hK _ ?_⟩
            clear hK K
            refine takeE 5 rfl (by kernel_rfl) (by kernel_rfl) (by kernel_rfl) rfl (fun _ _ _ _ h => h) rfl (fun K hK => ?_)
            go_big_quiet_op
            first | refine hK _ ?_ | refine ⟨_, fun _ _ => rfl, hK _ ?_⟩
            clear hK K
            refine takeE 6 rfl (by kernel_rfl) (by kernel_rfl) (by kernel_rfl) rfl (fun _ _ _ _ h => h) rfl (fun K hK => ?_)
            go_big_quiet_op
            first | refine hK _ ?_ | refine ⟨_, fun _ _ => rfl, hK _ ?_⟩
            clear hK K
            refine takeE 7 rfl (by kernel_rfl) (by kernel_rfl) (by kernel_rfl) rfl (fun _ _ _ _ h => h) rfl (fun K hK => ?_)
            refine quiet_cell _ _ rfl _ rfl _ _ Try.underlying4 rfl (fun W' h => World.grownBy.cell h.ext qd (by simp)) ?_
            refine hK _ ?_
            simp only [Act.put, List.setIfInBounds_toArray, List.set_cons_succ, List.set_cons_zero]
            clear hK K
            refine takeE 8 rfl (by kernel_rfl) (by kernel_rfl) (by kernel_rfl) rfl (fun _ _ _ _ h => h) rfl (fun K hK => ?_)
            go_big_quiet_op
            first | refine hK _ ?_ | refine ⟨_, fun _ _ => rfl, hK _ ?_⟩
            clear hK K
            refine doneM (by kernel_rfl) ?_ _
            have HXR := Lib.hid hxr
            clear hxr
            go_wp2
            go_roundw
            case rel => exact ⟨n + 1, by omega, by go_num, HX.out.trans HXR.out, by rw [HST.out]; exact Own.ext HO.out HXR.out, by rw [HST.out]; omega, by rw [HST.out]; exact hwf, hap⟩
            case measure => simp [intOf]; omega
          · skip
            rw [hq]  at hst
            simp only [Bool.bne_true, Bool.bne_false, Bool.not_true, Bool.not_false, Bool.false_eq_true, if_true, if_false] at hst
            have HST := Lib.hid hst
            clear hst
            go_wp2_with (first
              | (refine wpList_load_agg _ rfl 44 (.tmp 68) rfl _ rfl C _ Try.underlying44 rfl (cond_size HCL.out) hcc ?_)
              | (refine wpList_alloc _ rfl 44 rfl _ hzc ?_)
              | (refine wpList_store_new _ rfl 44 (.tmp 19) (.tmp 69) rfl rfl ZC C _ rfl (cond_size HCL.out) (by rw [HCL.out, HZCL.out]) hone ?_)
              | fail)
            refine startM Since (by kernel_rfl) ?_
            (try simp only [Act.put, List.setIfInBounds_toArray, List.set_cons_succ, List.set_cons_zero])
            have q1 : (wr.alloc (.cells C.toArray 44)).drew.cell? ⟨wr.heap.size, 1, none⟩ = some (.int .i64 ck.2.1) := q1
            have q2 : (wr.alloc (.cells C.toArray 44)).drew.cell? ⟨wr.heap.size, 2, none⟩ = some (.int .u64 (ck.2.2.1 : Int)) := q2
            have qd : (wr.alloc (.cells C.toArray 44)).drew.cell? (bd.add n) = some (.bool true) := qd
            have hxr : Ext wr (wr.alloc (.cells C.toArray 44)).drew := ((Ext.refl wr).alloc _).drew
            have hwl : wr.heap.size < (wr.alloc (.cells C.toArray 44)).drew.heap.size := by show wr.heap.size < (wr.alloc (.cells C.toArray 44)).heap.size; simp
            generalize (wr.alloc (.cells C.toArray 44)).drew = wA at *
            refine takeE 0 rfl (by kernel_rfl) (by kernel_rfl) (by kernel_rfl) rfl (fun _ _ _ _ h => h) rfl (fun K hK => ?_)
            go_big_quiet_op
            first | refine hK _ ?_ | refine ⟨_, fun _ _ => rfl, hK _ ?_⟩
            clear hK K
            refine takeE 1 rfl (by kernel_rfl) (by kernel_rfl) (by kernel_rfl) rfl (fun _ _ _ _ h => h) rfl (fun K hK => ?_)
            refine quiet_cell _ _ rfl _ rfl _ _ Try.underlying41 rfl (fun W' h => World.grownBy.cell h.ext q1 (by simp)) ?_
            refine hK _ ?_
            simp only [Act.put, List.setIfInBounds_toArray, List.set_cons_succ, List.set_cons_zero]
            clear hK K
            refine takeE 2 rfl (by kernel_rfl) (by kernel_rfl) (by kernel_rfl) rfl (fun _ _ _ _ h => h) rfl (fun K hK => ?_)
            go_big_quiet_op
            first | refine hK _ ?_ | refine ⟨_, fun _ _ => rfl, hK _ ?_⟩
            clear hK K
            refine takeE 3 rfl (by kernel_rfl) (by kernel_rfl) (by kernel_rfl) rfl (fun _ _ _ _ h => h) rfl (fun K hK => ?_)
            go_big_quiet_op
            first | refine hK _ ?_ | refine ⟨_, fun _ _ => rfl, hK _ ?_⟩
            clear hK K
            refine takeE 4 rfl (by kernel_rfl) (by kernel_rfl) (by kernel_rfl) rfl (fun _ _ _ _ h => h) rfl (fun K hK => ?_)
            go_big_quiet_op
            first | refine hK _ ?_ | refine ⟨_, fun _ _ => rfl, hK _ ?_⟩
            clear hK K
            refine takeE 5 rfl (by kernel_rfl) (by kernel_rfl) (by kernel_rfl) rfl (fun _ _ _ _ h => h) rfl (fun K hK => ?_)
            go_big_quiet_op
            first | refine hK _ ?_ | refine ⟨_, fun _ _ => rfl, hK _ ?_⟩
            clear hK K
            refine takeE 6 rfl (by kernel_rfl) (by kernel_rfl) (by kernel_rfl) rfl (fun _ _ _ _ h => h) rfl (fun K hK => ?_)
            go_big_quiet_op
            first | refine hK _ ?_ | refine ⟨_, fun _ _ => rfl, hK _ ?_⟩
            clear hK K
            refine takeE 7 rfl (by kernel_rfl) (by kernel_rfl) (by kernel_rfl) rfl (fun _ _ _ _ h => h) rfl (fun K hK => ?_)
            refine quiet_cell _ _ rfl _ rfl _ _ Try.underlying4 rfl (fun W' h => World.grownBy.cell h.ext qd (by simp)) ?_
            refine hK _ ?_
            simp only [Act.put, List.setIfInBounds_toArray, List.set_cons_succ, List.set_cons_zero]
            clear hK K
            refine takeE 8 rfl (by kernel_rfl) (by kernel_rfl) (by kernel_rfl) rfl (fun _ _ _ _ h => h) rfl (fun K hK => ?_)
            go_big_quiet_op
            first | refine hK _ ?_ | refine ⟨_, fun _ _ => rfl, hK _ ?_⟩
            clear hK K
            refine doneM (by kernel_rfl) ?_ _
            have HXR := Lib.hid hxr
            clear hxr
            go_wp2_with (first
              | (at_builtin; refine wpList_app _ rfl (.tmp 79) (.tmp 82) _ _ rfl _ _ i0 _ 1 8 Try.underlying85 Try.underlying85 hi hz0 hz1' hz2 rfl (by decide) u17 _ _ rfl (Own.ext HO.out (HXR.out.alloc _)) _ 1 1 [Value.int .u64 (ck.2.2.1 : Int)] rfl rfl (src_new_at rfl [Value.int .u64 (ck.2.2.1 : Int)] _ 1) (by simp [Value.oneCell']) (by unfold maxLen; omega) (by omega) ?_; intro v4 wB ho4 hm4)
              | fail)
            have hx4 : Ext w4 wB := grown_then ((HX.out.trans HXR.out).alloc (.cells #[Value.int .u64 (ck.2.2.1 : Int)] 23)) hm4.grown (.inr hap)
            have hap4 : ∀ b, v4.ownBlock = some b → w4.heap.size ≤ b := fun b hb => by
              rcases hm4.at_ with e | h
              · exact hap b (by rw [← e]; exact hb)
              · have h1 := h b hb; have h2 := HX.out.size; have h3 := HXR.out.size; simp at h1; omega
            go_wp2
            go_roundw
            case rel => exact ⟨n + 1, by omega, by go_num, hx4, by rw [HST.out]; unfold OwnN; rw [← List.cons_append, ← List.cons_append, List.length_append, List.map_append]; exact ho4, by rw [HST.out]; simp only [List.length_cons, List.length_append, List.length_nil] at hle ⊢; omega, by rw [HST.out]; exact hwN, hap4⟩
            case measure => simp [intOf]; omega
          · skip
            rw [hq]  at hst
            simp only [Bool.bne_true, Bool.bne_false, Bool.not_true, Bool.not_false, Bool.false_eq_true, if_true, if_false] at hst
            have HST := Lib.hid hst
            clear hst
            go_wp2_with (first
              | (refine wpList_load_agg _ rfl 44 (.tmp 68) rfl _ rfl C _ Try.underlying44 rfl (cond_size HCL.out) hcc ?_)
              | (refine wpList_alloc _ rfl 44 rfl _ hzc ?_)
              | (refine wpList_store_new _ rfl 44 (.tmp 19) (.tmp 69) rfl rfl ZC C _ rfl (cond_size HCL.out) (by rw [HCL.out, HZCL.out]) hone ?_)
              | fail)
            refine startM Since (by kernel_rfl) ?_
            (try simp only [Act.put, List.setIfInBounds_toArray, List.set_cons_succ, List.set_cons_zero])
            have q1 : (wr.alloc (.cells C.toArray 44)).drew.cell? ⟨wr.heap.size, 1, none⟩ = some (.int .i64 ck.2.1) := q1
            have q2 : (wr.alloc (.cells C.toArray 44)).drew.cell? ⟨wr.heap.size, 2, none⟩ = some (.int .u64 (ck.2.2.1 : Int)) := q2
            have qd : (wr.alloc (.cells C.toArray 44)).drew.cell? (bd.add n) = some (.bool false) := qd
            have hxr : Ext wr (wr.alloc (.cells C.toArray 44)).drew := ((Ext.refl wr).alloc _).drew
            have hwl : wr.heap.size < (wr.alloc (.cells C.toArray 44)).drew.heap.size := by show wr.heap.size < (wr.alloc (.cells C.toArray 44)).heap.size; simp
            generalize (wr.alloc (.cells C.toArray 44)).drew = wA at *
            refine takeE 0 rfl (by kernel_rfl) (by kernel_rfl) (by kernel_rfl) rfl (fun _ _ _ _ h => h) rfl (fun K hK => ?_)
            go_big_quiet_op
            first | refine hK _ ?_ | refine ⟨_, fun _ _ => rfl, hK _ ?_⟩
            clear hK K
            refine takeE 1 rfl (by kernel_rfl) (by kernel_rfl) (by kernel_rfl) rfl (fun _ _ _ _ h => h) rfl (fun K hK => ?_)
            refine quiet_cell _ _ rfl _ rfl _ _ Try.underlying41 rfl (fun W' h => World.grownBy.cell h.ext q1 (by simp)) ?_
            refine hK _ ?_
            simp only [Act.put, List.setIfInBounds_toArray, List.set_cons_succ, List.set_cons_zero]
            clear hK K
            refine takeE 2 rfl (by kernel_rfl) (by kernel_rfl) (by kernel_rfl) rfl (fun _ _ _ _ h => h) rfl (fun K hK => ?_)
            go_big_quiet_op
            first | refine hK _ ?_ | refine ⟨_, fun _ _ => rfl, hK _ ?_⟩
            clear hK K
            refine takeE 3 rfl (by kernel_rfl) (by kernel_rfl) (by kernel_rfl) rfl (fun _ _ _ _ h => h) rfl (fun K hK => ?_)
            go_big_quiet_op
            first | refine hK _ ?_ | refine ⟨_, fun _ _ => rfl, hK _ ?_⟩
            clear hK K
            refine takeE 4 rfl (by kernel_rfl) (by kernel_rfl) (by kernel_rfl) rfl (fun _ _ _ _ h => h) rfl (fun K hK => ?_)
            go_big_quiet_op
            first | refine hK _ ?_ | refine ⟨_, fun _ _ => rfl, hK _ ?_⟩
            clear hK K
            refine takeE 5 rfl (by kernel_rfl) (by kernel_rfl) (by kernel_rfl) rfl (fun _ _ _ _ h => h) rfl (fun K hK => ?_)
            go_big_quiet_op
            first | refine hK _ ?_ | refine ⟨_, fun _ _ => rfl, hK _ ?_⟩
            clear hK K
            refine takeE 6 rfl (by kernel_rfl) (by kernel_rfl) (by kernel_rfl) rfl (fun _ _ _ _ h => h) rfl (fun K hK => ?_)
            go_big_quiet_op
            first | refine hK _ ?_ | refine ⟨_, fun _ _ => rfl, hK _ ?_⟩
            clear hK K
            refine takeE 7 rfl (by kernel_rfl) (by kernel_rfl) (by kernel_rfl) rfl (fun _ _ _ _ h => h) rfl (fun K hK => ?_)
            refine quiet_cell _ _ rfl _ rfl _ _ Try.underlying4 rfl (fun W' h => World.grownBy.cell h.ext qd (by simp)) ?_
            refine hK _ ?_
            simp only [Act.put, List.setIfInBounds_toArray, List.set_cons_succ, List.set_cons_zero]
            clear hK K
            refine takeE 8 rfl (by kernel_rfl) (by kernel_rfl) (by kernel_rfl) rfl (fun _ _ _ _ h => h) rfl (fun K hK => ?_)
            go_big_quiet_op
            first | refine hK _ ?_ | refine ⟨_, fun _ _ => rfl, hK _ ?_⟩
            clear hK K
            refine doneM (by kernel_rfl) ?_ _
            have HXR := Lib.hid hxr
            clear hxr
            go_wp2_with (first
              | (at_builtin; refine wpList_app _ rfl (.tmp 79) (.tmp 82) _ _ rfl _ _ i0 _ 1 8 Try.underlying85 Try.underlying85 hi hz0 hz1' hz2 rfl (by decide) u17 _ _ rfl (Own.ext HO.out (HXR.out.alloc _)) _ 1 1 [Value.int .u64 (ck.2.2.1 : Int)] rfl rfl (src_new_at rfl [Value.int .u64 (ck.2.2.1 : Int)] _ 1) (by simp [Value.oneCell']) (by unfold maxLen; omega) (by omega) ?_; intro v4 wB ho4 hm4)
              | fail)
            have hx4 : Ext w4 wB := grown_then ((HX.out.trans HXR.out).alloc (.cells #[Value.int .u64 (ck.2.2.1 : Int)] 23)) hm4.grown (.inr hap)
            have hap4 : ∀ b, v4.ownBlock = some b → w4.heap.size ≤ b := fun b hb => by
              rcases hm4.at_ with e | h
              · exact hap b (by rw [← e]; exact hb)
              · have h1 := h b hb; have h2 := HX.out.size; have h3 := HXR.out.size; simp at h1; omega
            go_wp2
            go_roundw
            case rel => exact ⟨n + 1, by omega, by go_num, hx4, by rw [HST.out]; unfold OwnN; rw [← List.cons_append, ← List.cons_append, List.length_append, List.map_append]; exact ho4, by rw [HST.out]; simp only [List.length_cons, List.length_append, List.length_nil] at hle ⊢; omega, by rw [HST.out]; exact hwN, hap4⟩
            case measure => simp [intOf]; omega
          · skip
            rw [hq]  at hst
            simp only [Bool.bne_true, Bool.bne_false, Bool.not_true, Bool.not_false, Bool.false_eq_true, if_true, if_false] at hst
            have HST := Lib.hid hst
            clear hst
            go_wp2_with (first
              | (refine wpList_load_agg _ rfl 44 (.tmp 68) rfl _ rfl C _ Try.underlying44 rfl (cond_size HCL.out) hcc ?_)
              | (refine wpList_alloc _ rfl 44 rfl _ hzc ?_)
              | (refine wpList_store_new _ rfl 44 (.tmp 19) (.tmp 69) rfl rfl ZC C _ rfl (cond_size HCL.out) (by rw [HCL.out, HZCL.out]) hone ?_)
              | fail)
            refine startM Since (by kernel_rfl) ?_
            (try simp only [Act.put, List.setIfInBounds_toArray, List.set_cons_succ, List.set_cons_zero])
            have q1 : (wr.alloc (.cells C.toArray 44)).drew.cell? ⟨wr.heap.size, 1, none⟩ = some (.int .i64 ck.2.1) := q1
            have q2 : (wr.alloc (.cells C.toArray 44)).drew.cell? ⟨wr.heap.size, 2, none⟩ = some (.int .u64 (ck.2.2.1 : Int)) := q2
            have qd : (wr.alloc (.cells C.toArray 44)).drew.cell? (bd.add n) = some (.bool true) := qd
            have hxr : Ext wr (wr.alloc (.cells C.toArray 44)).drew := ((Ext.refl wr).alloc _).drew
            have hwl : wr.heap.size < (wr.alloc (.cells C.toArray 44)).drew.heap.size := by show wr.heap.size < (wr.alloc (.cells C.toArray 44)).heap.size; simp
            generalize (wr.alloc (.cells C.toArray 44)).drew = wA at *
            refine takeE 0 rfl (by kernel_rfl) (by kernel_rfl) (by kernel_rfl) rfl (fun _ _ _ _ h => h) rfl (fun K hK => ?_)
            go_big_quiet_op
            first | refine hK _ ?_ | refine ⟨_, fun _ _ => rfl, hK _ ?_⟩
            clear hK K
            refine takeE 1 rfl (by kernel_rfl) (by kernel_rfl) (by kernel_rfl) rfl (fun _ _ _ _ h => h) rfl (fun K hK => ?_)
            refine quiet_cell _ _ rfl _ rfl _ _ Try.underlying41 rfl (fun W' h => World.grownBy.cell h.ext q1 (by simp)) ?_
            refine hK _ ?_
            simp only [Act.put, List.setIfInBounds_toArray, List.set_cons_succ, List.set_cons_zero]
            clear hK K
            refine takeE 2 rfl (by kernel_rfl) (by kernel_rfl) (by kernel_rfl) rfl (fun _ _ _ _ h => h) rfl (fun K hK => ?_)
            go_big_quiet_op
            first | refine hK _ ?_ | refine ⟨_, fun _ _ => rfl, hK _ ?_⟩
            clear hK K
            refine takeE 3 rfl (by kernel_rfl) (by kernel_rfl) (by kernel_rfl) rfl (fun _ _ _ _ h => h) rfl (fun K hK => ?_)
            go_big_quiet_op
            first | refine hK _ ?_ | refine ⟨_, fun _ _ => rfl, hK _ ?_⟩
            clear hK K
            refine takeE 4 rfl (by kernel_rfl) (by kernel_rfl) (by kernel_rfl) rfl (fun _ _ _ _ h => h) rfl (fun K hK => ?_)
            go_big_quiet_op
            first | refine hK _ ?_ | refine ⟨_, fun _ _ => rfl, hK _ ?_⟩
            clear hK K
            refine takeE 5 rfl (by kernel_rfl) (by kernel_rfl) (by kernel_rfl) rfl (fun _ _ _ _ h => h) rfl (fun K hK => ?_)
            go_big_quiet_op
            first | refine hK _ ?_ | refine ⟨_, fun _ _ => rfl, hK _ ?_⟩
            clear hK K
            refine takeE 6 rfl (by kernel_rfl) (by kernel_rfl) (by kernel_rfl) rfl (fun _ _ _ _ h => h) rfl (fun K hK => ?_)
            go_big_quiet_op
            first | refine hK _ ?_ | refine ⟨_, fun _ _ => rfl, hK _ ?_⟩
            clear hK K
            refine takeE 7 rfl (by kernel_rfl) (by kernel_rfl) (by kernel_rfl) rfl (fun _ _ _ _ h => h) rfl (fun K hK => ?_)
            refine quiet_cell _ _ rfl _ rfl _ _ Try.underlying4 rfl (fun W' h => World.grownBy.cell h.ext qd (by simp)) ?_
            refine hK _ ?_
            simp only [Act.put, List.setIfInBounds_toArray, List.set_cons_succ, List.set_cons_zero]
            clear hK K
            refine takeE 8 rfl (by kernel_rfl) (by kernel_rfl) (by kernel_rfl) rfl (fun _ _ _ _ h => h) rfl (fun K hK => ?_)
            go_big_quiet_op
            first | refine hK _ ?_ | refine ⟨_, fun _ _ => rfl, hK _ ?_⟩
            clear hK K
            refine doneM (by kernel_rfl) ?_ _
            have HXR := Lib.hid hxr
            clear hxr
            go_wp2
            go_roundw
            case rel => exact ⟨n + 1, by omega, by go_num, HX.out.trans HXR.out, by rw [HST.out]; exact Own.ext HO.out HXR.out, by rw [HST.out]; omega, by rw [HST.out]; exact hwf, hap⟩
            case measure => simp [intOf]; omega
        · obtain rfl : n = List.length (α := Cd) cs := by omega
          rw [List.take_of_length_le (by rw [List.length_zip]; omega)] at ho hwf
          have hl := ownN_holds ho hwf
          have hm := Money_Sum _ _ wr _ hl
          rw [← HO1.out] at hm
          simp only [numErr] at hm
          have HM := Lib.hid hm
          have hxx := HX4.out.trans hx
          have hb11 := HB11.out.keep hxx (by simp)
          have hb3 := HB3.out.keep hxx (by simp)
          have c11 : wr.cell? ⟨g11, 1, none⟩ = some (.int .u64 (b : Int)) := hb11.cell 1
          have f11 := hb11.free 1
          have hb11s := hb11.set 1 (.int .u64 (o1.1 : Int))
          have hgs : w2.grownBy (wr.setCell ⟨g11, 1, none⟩ (.int .u64 (o1.1 : Int))) (some g11) := grown_then (grown_then HG.out (hxx.any none) (.inr (by simp))) (only_set 1 _) (.inl rfl)
          have hr8 : (wr.setCell ⟨g11, 1, none⟩ (.int .u64 (o1.1 : Int))).heap[w.heap.size + 3]? = some (.cells QC.toArray 24 (0, 0)) := hb3.keep (only_set 1 _) (by simp; omega)
          have hxs : Ext w (wr.setCell ⟨g11, 1, none⟩ (.int .u64 (o1.1 : Int))) := grown_then (HXO.out.trans hxx) (only_set 1 _) (.inr (by rintro b ⟨⟩; omega))
          have HB11S := Lib.hid hb11s
          have HGS := Lib.hid hgs
          have HXS := Lib.hid hxs
          clear ho hl hwf hm hxx hb11 hb3 hb11s hgs hxs
          obtain ⟨oa, oe⟩ := o1
          simp only at HM HB11S HGS HXS hr8 c11 f11
          by_cases hoe : oe = 0
          · subst hoe
            go_wp2_with (first
              | (go_at_call 40; refine HM.out.mono ?_; rintro e w' ⟨rfl, rfl⟩)
              | fail)
            go_roundw
            case rel => (obtain ⟨rfl, rfl, h0⟩ := HAB.out; exact ⟨2, o0.1, oa, by omega, by go_num, HGS.out, HB11S.out, by simp, by simp, fun _ => (by first | exact ⟨rfl, rfl, h0, rfl⟩ | exact ⟨rfl, rfl, h0, trivial⟩)⟩)
            case measure => simp [intOf]
          · have hob : (oe != 0) = true := by simpa using hoe
            go_wp2_with (first
              | (go_at_call 40; refine HM.out.mono ?_; rintro e w' ⟨rfl, rfl⟩)
              | (refine wpList_build (.inl rfl) 24 _ rfl (.agg (ptc 0 0).toArray) (by kernel_rfl) ?_; rw [← HZB.out])
              | (refine wpList_store_row _ rfl 24 (.tmp 8) (.tmp 94) rfl (w.heap.size + 3) rfl QC QC _ rfl hr8 (z2_size HZL.out) rfl hzo ?_)
              | fail)
            have hc9 := Blk.cells (t := 24) (setRow_at (cs' := QC.toArray) hr8)
            (try simp only [Exit.inBlock, Exit.then])
            refine bodyPost_ret (results_agg_tmp rfl _ _ _ _ _ rfl Try.underlying24 rfl (z2_size HZL.out) hc9) rfl ?_
            refine ⟨?_, grown_then HXS.out (setRow_only _) (.inr (by rintro b ⟨⟩; omega))⟩
            rw [← HO0.out, HFA.out, ← HO1.out, splitM_r HAB.out.2.2 hoe, HZB.out]
            rfl
    · obtain ⟨rfl, rfl, h0, h1⟩ := hk2 rfl
      have hres : splitM o0 o1 = (o0.1, o1.1, 0) := by unfold splitM; rw [if_neg (by omega), if_neg (by omega)]
      rw [HO0.out, HO1.out] at hres
      have hpo : ∀ x y : Nat, ∀ u ∈ ptc x y, u.oneCell' = true := by intro x y u hu; simp only [ptc, List.mem_cons, List.not_mem_nil, or_false] at hu; rcases hu with rfl | rfl <;> rfl
      have hr8 : wo.heap[w.heap.size + 3]? = some (.cells QC.toArray 24 (0, 0)) := HB3.out
      have hc11 := HB11.out.cells
      have hpl : (ptc o0.1 o1.1).length = 2 := rfl
      have hpo := hpo o0.1 o1.1
      have HRES := Lib.hid hres
      generalize hPE : ptc o0.1 o1.1 = PE at *
      have HPE := Lib.hid hPE
      have HPEL := Lib.hid hpl
      clear hres hk0 hk1 hk2 hPE hpl
      go_wp2_with (first
        | (refine wpList_load_agg _ rfl 24 (.tmp 11) rfl _ rfl PE _ Try.underlying24 rfl (z2_size HPEL.out) hc11 ?_)
        | (refine wpList_store_row _ rfl 24 (.tmp 8) (.tmp 97) rfl (w.heap.size + 3) rfl QC PE _ rfl hr8 (z2_size HPEL.out) (by rw [HPEL.out, HZL.out]) hpo ?_)
        | fail)
      have hc9 := Blk.cells (t := 24) (setRow_at (cs' := PE.toArray) hr8)
      (try simp only [Exit.inBlock, Exit.then])
      refine bodyPost_ret (results_agg_tmp rfl _ _ _ _ _ rfl Try.underlying24 rfl (z2_size HPEL.out) hc9) rfl ?_
      refine ⟨by rw [HRES.out, ← HPE.out, HO0.out, HO1.out]; rfl, grown_then HXO.out (setRow_only _) (.inr (by rintro b ⟨⟩; omega))⟩
end Go.Proofs.Ytnpolfihbfdggaa

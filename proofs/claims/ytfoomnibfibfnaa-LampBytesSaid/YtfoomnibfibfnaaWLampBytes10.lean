/- Walks and plain laws, put together in build order. Conditions: what each of them names. -/
import Derived.Test.YtfoomnibfibfnaaWLampBytes9
set_option linter.unusedVariables false
set_option linter.unusedSimpArgs false
set_option linter.unnecessarySimpa false
namespace Go.Proofs.Ytfoomnibfibfnaa
section
open Go.RowKit

theorem rsig_size {n : Nat} (h : n = 1024) : (Try.prog.info? 38).map (·.size) = some n := by subst h; kernel_rfl
theorem arr_size {n : Nat} (h : n = 32) : (Try.prog.info? 22).map (·.size) = some n := by subst h; kernel_rfl
theorem arr_zero : (Try.prog.info? 22).bind (fun i => i.zero.map (·.cells)) = some (bv (List.replicate 32 0)).toArray := by kernel_rfl
set_option maxRecDepth 100000 in
set_option maxHeartbeats 8000000 in
theorem RFrom (S : List UInt8) (hS : S.length = 1024) (d : List UInt8) (hd : d.length = 32) (w : World) :
    Calls Try.prog 18 #[.agg tabsC.toArray, .agg (bv S).toArray, .agg (bv d).toArray] w fun e w' => e = .returned (.agg (bv (fromS S d)).toArray) ∧ Ext w w' := by
  obtain ⟨i0, hi, hz0, hz1, hz2⟩ := info_parts u8_info
  obtain ⟨Z, hz, hzl⟩ : ∃ Z : List Value, (Try.prog.info? 35).bind (fun i => i.zero.map (·.cells)) = some Z.toArray ∧ Z.length = 16 := ⟨_, rpiece_zero, by simp⟩
  obtain ⟨D, hzd, hdl0⟩ : ∃ D : List Value, (Try.prog.info? 22).bind (fun i => i.zero.map (·.cells)) = some D.toArray ∧ D.length = 32 := ⟨_, arr_zero, by simp⟩
  have hp1l : ∀ k, k < 32 → ((S.drop (k * 16)).take 16).length = 16 := fun k h => by rw [List.length_take, List.length_drop, hS]; omega
  have hp2l : ∀ k, k < 32 → ((S.drop (512 + k * 16)).take 16).length = 16 := fun k h => by rw [List.length_take, List.length_drop, hS]; omega
  have hpl : ∀ k, k ≤ 32 → (piecesM (rowS S d) k).length = k * 32 := by
    intro k
    induction k with
    | zero => intro _; simp [piecesM]
    | succ k ih => intro h; rw [piecesM_succ, List.length_append, ih (by omega), rowS, rowFrom_length (hp2l k (by omega)), Nat.succ_mul]
  have hbit := fun (k : Nat) (hk : k < 32) W => RBit d hd k hk W
  have hcov := fun (k : Nat) (hk : k < 32) W => RCover ((S.drop (k * 16)).take 16) (hp1l k hk) W
  have hfor := fun v W F hp2 hF => RFor 2 2 rfl [piecesM (rowS S d) 32] (by simp [blob, be_length, hpl 32 (Nat.le_refl _)]) v W F hp2 hF
  have hlm : sha (textM 2 [piecesM (rowS S d) 32]) = fromS S d := rfl
  rw [hlm] at hfor
  have hrl : (bv (fromS S d)).length = 32 := by rw [bv_length]; exact leafOf_length _
  have hro := bv_one (fromS S d)
  have hdl : (bv d).length = 32 := by rw [bv_length]; exact hd
  have hq := bv_drop_take S
  have hts : (Try.prog.info? 25).map (·.size) = some tabsC.length := tabs_size rfl
  generalize tabsC = TB at *
  have hb0 : Blk ((((w.alloc (.cells TB.toArray 25)).alloc (.cells (bv S).toArray 38)).alloc (.cells (bv d).toArray 22)).alloc (.cells D.toArray 22)) w.heap.size 25 TB := (((Blk.new _ _ _).keep ((Ext.refl _).alloc _) (by simp)).keep ((Ext.refl _).alloc _) (by simp)).keep ((Ext.refl _).alloc _) (by simp)
  have hb1 : Blk ((((w.alloc (.cells TB.toArray 25)).alloc (.cells (bv S).toArray 38)).alloc (.cells (bv d).toArray 22)).alloc (.cells D.toArray 22)) (w.heap.size + 1) 38 (bv S) := ((Blk.fresh (by simp) _ _).keep ((Ext.refl _).alloc _) (by simp)).keep ((Ext.refl _).alloc _) (by simp)
  have hb2 : Blk ((((w.alloc (.cells TB.toArray 25)).alloc (.cells (bv S).toArray 38)).alloc (.cells (bv d).toArray 22)).alloc (.cells D.toArray 22)) (w.heap.size + 1 + 1) 22 (bv d) := (Blk.fresh (by simp) _ _).keep ((Ext.refl _).alloc _) (by simp)
  have hb3 : Blk ((((w.alloc (.cells TB.toArray 25)).alloc (.cells (bv S).toArray 38)).alloc (.cells (bv d).toArray 22)).alloc (.cells D.toArray 22)) (w.heap.size + 1 + 1 + 1) 22 D := Blk.fresh (by simp) _ _
  have hx0 : Ext w ((((w.alloc (.cells TB.toArray 25)).alloc (.cells (bv S).toArray 38)).alloc (.cells (bv d).toArray 22)).alloc (.cells D.toArray 22)) := ((((Ext.refl w).alloc _).alloc _).alloc _).alloc _
  generalize bv (fromS S d) = R at *
  generalize bv S = C at *
  generalize bv d = DC at *
  have HB0 := Lib.hid hb0
  have HB1 := Lib.hid hb1
  have HB2 := Lib.hid hb2
  have HB3 := Lib.hid hb3
  have HX0 := Lib.hid hx0
  have HBIT := Lib.hid hbit
  have HCOV := Lib.hid hcov
  have HFOR := Lib.hid hfor
  have HRL := Lib.hid hrl
  have HZL := Lib.hid hzl
  have HDL0 := Lib.hid hdl0
  have HDL := Lib.hid hdl
  have HQ := Lib.hid hq
  have HPA := Lib.hid hp1l
  have HPB := Lib.hid hp2l
  have HPLA := Lib.hid hpl
  have HTS := Lib.hid hts
  clear hb0 hb1 hb2 hb3 hx0 hbit hcov hfor hrl hdl hdl0 hlm hzl hq hp1l hp2l hpl hts
  go_enter Try.func18, Try.ntmps18
  go_wp2_with (first
    | (refine wpList_alloc _ rfl 22 rfl _ hzd ?_)
    | fail)
  go_loopw [7, 8, 9, 10] (fun u i p q wr => ∃ k : Nat, k ≤ 32 ∧ i = .int .i64 k ∧ OwnB wr u (piecesM (rowS S d) k) ∧ Ext w wr ∧ Blk wr w.heap.size 25 TB ∧ Blk wr (w.heap.size + 1) 38 C ∧ Blk wr (w.heap.size + 1 + 1) 22 DC ∧ Blk wr (w.heap.size + 1 + 1 + 1) 22 D ∧ ∀ b, u.ownBlock = some b → w.heap.size + 1 + 1 + 1 + 1 ≤ b) (fun _ i _ _ _ => 32 - (intOf i).toNat)
  case atStart => exact ⟨0, by omega, rfl, Own.nil _ _ _, HX0.out, HB0.out, HB1.out, HB2.out, HB3.out, fun b hb => by simp [Value.ownBlock] at hb⟩
  case round =>
    clear HX0 HB0 HB1 HB2 HB3
    obtain ⟨k, hk, rfl, hou, hx, hb0, hb1, hb2, hb3, hne⟩ := hrel
    by_cases hlt : k < 32
    · have hq1 := HQ.out (k * 16) 16
      have hq2 := HQ.out (512 + k * 16) 16
      have hl1 : (bv ((S.drop (k * 16)).take 16)).length = 16 := by rw [bv_length]; exact HPA.out k hlt
      have hl2 : (bv ((S.drop (512 + k * 16)).take 16)).length = 16 := by rw [bv_length]; exact HPB.out k hlt
      have hpo2 := bv_one ((S.drop (512 + k * 16)).take 16)
      have hcv := fun W => HCOV.out k hlt W
      have hcl : (bv (coverM ((S.drop (k * 16)).take 16))).length = 16 := by rw [bv_length, coverM_length]
      have hco := bv_one (coverM ((S.drop (k * 16)).take 16))
      have hrow : bv (rowS S d k) = if bitM d k = 0 then bv (coverM ((S.drop (k * 16)).take 16)) ++ bv ((S.drop (512 + k * 16)).take 16) else bv ((S.drop (512 + k * 16)).take 16) ++ bv (coverM ((S.drop (k * 16)).take 16)) := by
        unfold rowS rowFrom
        split <;> rw [bv_append]
      have hrln : (rowS S d k).length = 32 := rowFrom_length (HPB.out k hlt)
      have hbt := fun W => HBIT.out k hlt W
      have hpk := HPLA.out k (by omega)
      generalize bitM d k = b at *
      generalize bv (coverM ((S.drop (k * 16)).take 16)) = CV at *
      generalize bv ((S.drop (k * 16)).take 16) = P1 at *
      generalize bv ((S.drop (512 + k * 16)).take 16) = P2 at *
      have HROW : Hid (piecesM (rowS S d) (k + 1) = piecesM (rowS S d) k ++ rowS S d k) := Lib.hid (piecesM_succ _ _)
      have HLTU := Lib.hid (OwnB.lt hou)
      have HOUr := Lib.hid hou
      have HX := Lib.hid hx
      have HB0 : Hid (Blk wr.drew w.heap.size 25 TB) := Lib.hid hb0
      have HB1 : Hid (Blk wr.drew (w.heap.size + 1) 38 C) := Lib.hid hb1
      have HB2 : Hid (Blk wr.drew (w.heap.size + 1 + 1) 22 DC) := Lib.hid hb2
      have HB3 : Hid (Blk wr.drew (w.heap.size + 1 + 1 + 1) 22 D) := Lib.hid hb3
      have HNE := Lib.hid hne
      have HBT := Lib.hid hbt
      have HQ1 := Lib.hid hq1
      have HQ2 := Lib.hid hq2
      have HP1 := Lib.hid hl1
      have HP2 := Lib.hid hl2
      have HCV := Lib.hid hcv
      have HCL := Lib.hid hcl
      have HRB := Lib.hid hrow
      have HRLN := Lib.hid hrln
      have HPL := Lib.hid hpk
      clear hou hx hb0 hb1 hb2 hb3 hne hbt hq1 hq2 hl1 hl2 hcv hcl hrow hrln hpk
      have HK1 : Hid (∀ W, Ext wr.drew W → Cells W ⟨w.heap.size + 1, k * 16, none⟩ P1) := Lib.hid fun W h => by have h2 := ((HB1.out.keep h (by simp)).cells.drop (k * 16)).take 16; rw [addr_at, HQ1.out] at h2; exact h2
      go_wp2_with fail
      have hdk : decide ((k : Int) < 32) = true := by rw [decide_eq_true_iff]; omega
      (try simp only [hdk])
      clear hdk
      refine stab_store Ext ext_refl ext_trans [[0], [1], [2], [1, 2, 3], [1, 2, 3, 4], [0, 1, 2, 3, 4, 5], [6], [0, 1, 2, 3, 4, 5, 6, 7]] (fun i v wv => match i with | 0 => v = .agg TB.toArray | 1 => v = .int .i64 (k : Int) | 2 => v = .pointer (some ⟨w.heap.size + 1, 0, none⟩) | 3 => v = .pointer (some ⟨w.heap.size + 1, k * 16, none⟩) | 4 => v = .agg P1.toArray | 5 => v = .agg CV.toArray | 6 => ∃ g, v = .pointer (some ⟨g, 0, none⟩) ∧ wr.heap.size ≤ g ∧ Blk wv g 35 Z | _ => True) (by kernel_rfl) (by kernel_rfl) (by kernel_rfl) (by kernel_rfl) (by simp) ?_ ?_ ?_
      · intro i v w1 w2 h hx
        match i, h with
        | 0, h => exact h
        | 1, h => exact h
        | 2, h => exact h
        | 3, h => exact h
        | 4, h => exact h
        | 5, h => exact h
        | 6, h =>
          replace h : ∃ g, v = .pointer (some ⟨g, 0, none⟩) ∧ wr.heap.size ≤ g ∧ Blk w1 g 35 Z := h
          show ∃ g, v = .pointer (some ⟨g, 0, none⟩) ∧ wr.heap.size ≤ g ∧ Blk w2 g 35 Z
          obtain ⟨g, h1, h2, h3⟩ := h
          exact ⟨g, h1, h2, h3.keep hx (by simp)⟩
        | i + 7, h => trivial
      · intro i hi o ho
        match i, hi, ho with
        | 0, _, ho =>
          obtain rfl := Option.some.inj ho
          intro s W hX hd K hK
          rw [if_pos (wanted_plain rfl)]
          clear hd
          replace hK : ∀ (v : Value) (W' : World), Ext W W' → (v = .agg TB.toArray) → _ := hK
          simp only [mkOf, List.map_cons, List.map_nil, Act.put, List.setIfInBounds_toArray, List.set_cons_succ, List.set_cons_zero, Nat.reduceAdd, Nat.zero_add] at hK ⊢
          refine wp_load_agg 25 (.tmp 3) rfl _ rfl TB _ Try.underlying25 rfl HTS.out (HB0.out.keep hX (by simp)).cells ?_
          exact hK _ _ (Ext.refl _) rfl
        | 1, _, ho =>
          obtain rfl := Option.some.inj ho
          intro s W hX hd K hK
          rw [if_pos (wanted_plain rfl)]
          clear hd
          replace hK : ∀ (v : Value) (W' : World), Ext W W' → (v = .int .i64 (k : Int)) → _ := hK
          simp only [mkOf, List.map_cons, List.map_nil, Act.put, List.setIfInBounds_toArray, List.set_cons_succ, List.set_cons_zero, Nat.reduceAdd, Nat.zero_add] at hK ⊢
          go_simp
          exact hK _ _ (Ext.refl _) rfl
        | 2, _, ho =>
          obtain rfl := Option.some.inj ho
          intro s W hX hd K hK
          rw [if_pos (wanted_plain rfl)]
          clear hd
          replace hK : ∀ (v : Value) (W' : World), Ext W W' → (v = .pointer (some ⟨w.heap.size + 1, 0, none⟩)) → _ := hK
          simp only [mkOf, List.map_cons, List.map_nil, Act.put, List.setIfInBounds_toArray, List.set_cons_succ, List.set_cons_zero, Nat.reduceAdd, Nat.zero_add] at hK ⊢
          go_simp
          exact hK _ _ (Ext.refl _) rfl
        | 3, _, ho =>
          obtain rfl := Option.some.inj ho
          intro s W hX hd K hK
          rw [if_pos (wanted_plain rfl)]
          have d16 : (s 1) = .int .i64 (k : Int) := hd 1 (by decide) (by decide)
          have d17 : (s 2) = .pointer (some ⟨w.heap.size + 1, 0, none⟩) := hd 2 (by decide) (by decide)
          clear hd
          replace hK : ∀ (v : Value) (W' : World), Ext W W' → (v = .pointer (some ⟨w.heap.size + 1, k * 16, none⟩)) → _ := hK
          simp only [mkOf, List.map_cons, List.map_nil, Act.put, List.setIfInBounds_toArray, List.set_cons_succ, List.set_cons_zero, Nat.reduceAdd, Nat.zero_add] at hK ⊢
          simp only [d16, d17] at hK ⊢
          go_simp
          exact hK _ _ (Ext.refl _) rfl
        | 4, _, ho =>
          obtain rfl := Option.some.inj ho
          intro s W hX hd K hK
          rw [if_pos (wanted_plain rfl)]
          have d18 : (s 3) = .pointer (some ⟨w.heap.size + 1, k * 16, none⟩) := hd 3 (by decide) (by decide)
          clear hd
          replace hK : ∀ (v : Value) (W' : World), Ext W W' → (v = .agg P1.toArray) → _ := hK
          simp only [mkOf, List.map_cons, List.map_nil, Act.put, List.setIfInBounds_toArray, List.set_cons_succ, List.set_cons_zero, Nat.reduceAdd, Nat.zero_add] at hK ⊢
          simp only [d18] at hK ⊢
          refine wp_load_agg 35 (.tmp 18) rfl _ (by simpa [Act.eval] using d18) P1 _ Try.underlying35 rfl (rpiece_size HP1.out) (HK1.out W hX) ?_
          exact hK _ _ (Ext.refl _) rfl
        | 5, _, ho =>
          obtain rfl := Option.some.inj ho
          intro s W hX hd K hK
          rw [if_pos (wanted_plain rfl)]
          have d15 : (s 0) = .agg TB.toArray := hd 0 (by decide) (by decide)
          have d19 : (s 4) = .agg P1.toArray := hd 4 (by decide) (by decide)
          clear hd
          replace hK : ∀ (v : Value) (W' : World), Ext W W' → (v = .agg CV.toArray) → _ := hK
          simp only [mkOf, List.map_cons, List.map_nil, Act.put, List.setIfInBounds_toArray, List.set_cons_succ, List.set_cons_zero, Nat.reduceAdd, Nat.zero_add] at hK ⊢
          simp only [d15, d19] at hK ⊢
          go_simp
          refine (HCV.out W).mono ?_
          rintro e w' ⟨rfl, hx⟩
          exact hK _ _ hx rfl
        | 6, _, ho =>
          obtain rfl := Option.some.inj ho
          intro s W hX hd K hK
          rw [if_pos (wanted_plain rfl)]
          clear hd
          replace hK : ∀ (v : Value) (W' : World), Ext W W' → (∃ g, v = .pointer (some ⟨g, 0, none⟩) ∧ wr.heap.size ≤ g ∧ Blk W' g 35 Z) → _ := hK
          simp only [mkOf, List.map_cons, List.map_nil, Act.put, List.setIfInBounds_toArray, List.set_cons_succ, List.set_cons_zero, Nat.reduceAdd, Nat.zero_add] at hK ⊢
          refine wp_alloc_agg 35 rfl Z hz ?_
          exact hK _ _ ((Ext.refl _).alloc _) ⟨_, rfl, by have := hX.size; simpa using this, Blk.new _ _ _⟩
        | i + 7, hi, _ => exact absurd hi (by simp)
      · intro o ho
        obtain rfl := Option.some.inj ho
        intro s W hX hd K hK
        rw [if_pos (wanted_plain rfl)]
        have d15 : (s 0) = .agg TB.toArray := hd 0 (by decide)
        have d16 : (s 1) = .int .i64 (k : Int) := hd 1 (by decide)
        have d17 : (s 2) = .pointer (some ⟨w.heap.size + 1, 0, none⟩) := hd 2 (by decide)
        have d18 : (s 3) = .pointer (some ⟨w.heap.size + 1, k * 16, none⟩) := hd 3 (by decide)
        have d19 : (s 4) = .agg P1.toArray := hd 4 (by decide)
        have d20 : (s 5) = .agg CV.toArray := hd 5 (by decide)
        have d9 : ∃ g, (s 6) = .pointer (some ⟨g, 0, none⟩) ∧ wr.heap.size ≤ g ∧ Blk W g 35 Z := hd 6 (by decide)
        clear hd
        simp only [mkOf, List.map_cons, List.map_nil, Act.put, List.setIfInBounds_toArray, List.set_cons_succ, List.set_cons_zero, Nat.reduceAdd, Nat.zero_add]
        obtain ⟨g, hg, hgb, hB⟩ := d9
        rw [hg]
        refine wp_store_row 35 (.tmp 9) (.tmp 20) rfl g rfl Z CV _ (by simpa [Act.eval] using d20) hB (rpiece_size HCL.out) (by rw [HCL.out, HZL.out]) hco ?_
        refine hK _ _ ?_
        have hxr : Ext wr W := (Ext.refl wr).drew.trans hX
        have hV : Ext wr (W.setRow g CV.toArray) := setRow_grown hxr _ _ hgb
        have hgV : Blk (W.setRow g CV.toArray) g 35 CV := setRow_at hB
        have hk2 : Cells (W.setRow g CV.toArray) ⟨w.heap.size + 1, 512 + k * 16, none⟩ P2 := by
          have h2 := ((HB1.out.keep hX (by simp)).keep (setRow_only (g := g) CV.toArray) (by have := HB1.out.lt; simp at this ⊢; omega)).cells
          have h3 := (h2.drop (512 + k * 16)).take 16
          rw [addr_at, HQ2.out] at h3; exact h3
        have hgs : g < W.heap.size := hB.lt
        have hgs2 : g < (W.setRow g CV.toArray).heap.size := hgV.lt
        generalize W.setRow g CV.toArray = V at *
        have hx3 := hV.alloc (.cells P2.toArray 35)
        have hcd := (Blk.keep (w := wr) (t := 22) HB2.out hx3 (by simp)).cells
        have HX2 := Lib.hid hx3
        have HGV := Lib.hid (hgV.keep ((Ext.refl V).alloc (.cells P2.toArray 35)) (by simp))
        have HOV : Hid (Blk (V.alloc (.cells P2.toArray 35)) V.heap.size 35 P2) := Lib.hid (Blk.new _ _ _)
        have HGE : Hid (wr.heap.size ≤ g ∧ wr.heap.size ≤ V.heap.size) := Lib.hid ⟨hgb, by have := hV.size; omega⟩
        clear hK hX hxr hV hgV hgs hx3 hB d15 d16 d17 d18 d19 d20
        (try simp only [Exit.then])
        go_wp2_with (first
          | (refine wpList_load_agg _ rfl 35 (.tmp 23) rfl _ rfl P2 _ Try.underlying35 rfl (rpiece_size HP2.out) hk2 ?_)
          | (refine wpList_alloc _ rfl 35 rfl _ hz ?_)
          | (refine wpList_store_new _ rfl 35 (.tmp 10) (.tmp 24) rfl rfl Z P2 _ rfl (rpiece_size HP2.out) (by rw [HP2.out, HZL.out]) hpo2 ?_)
          | (refine wpList_load_agg _ rfl 22 (.tmp 5) rfl _ rfl DC _ Try.underlying22 rfl (arr_size HDL.out) hcd ?_)
          | fail)
        refine (HBT.out _).mono ?_
        rintro e w3 ⟨rfl, hx4⟩
        have HX3r := Lib.hid (HX2.out.trans hx4)
        have HX3 := Lib.hid (HX.out.trans HX3r.out)
        have HCG := Lib.hid (HGV.out.keep hx4 (by simp)).cells
        have HCO := Lib.hid (HOV.out.keep hx4 (by simp)).cells
        have HLG := Lib.hid (HGV.out.keep hx4 (by simp)).lt
        have HLO := Lib.hid (HOV.out.keep hx4 (by simp)).lt
        have HOU := Lib.hid (HOUr.out.ext HX3r.out)
        have HB30 : Hid (Blk w3 w.heap.size 25 TB) := Lib.hid (Blk.keep (w := wr) HB0.out HX3r.out (by simp))
        have HB31 : Hid (Blk w3 (w.heap.size + 1) 38 C) := Lib.hid (Blk.keep (w := wr) HB1.out HX3r.out (by simp))
        have HB32 : Hid (Blk w3 (w.heap.size + 1 + 1) 22 DC) := Lib.hid (Blk.keep (w := wr) HB2.out HX3r.out (by simp))
        have HB33 : Hid (Blk w3 (w.heap.size + 1 + 1 + 1) 22 D) := Lib.hid (Blk.keep (w := wr) HB3.out HX3r.out (by simp))
        clear hx4 hk2 hcd HX2 HGV HOV HOUr HB0 HB1 HB2 HB3 HX HK1
        generalize V.heap.size = go at *
        by_cases hb0 : b = 0
        · have hbz : ((b : Int) == 0) = true := by subst hb0; rfl
          go_wp2_with (first
            | (at_builtin
               refine wpList_app _ rfl (.tmp 29) (.tmp 30) _ _ rfl 5 5 i0 _ 1 1 Try.underlying55 Try.underlying55 hi hz0 hz1 hz2 rfl (by decide) u7 _ _ rfl HOU.out _ 16 16 CV rfl (by rw [HCL.out]) (fun _ => ⟨_, rfl, HCG.out⟩) hco (by rw [HPL.out]; unfold maxLen; omega) (by rw [HPL.out]; omega) ?_
               intro v8 w8 ho8 hm8
               have HO8 : Hid (Own w8 5 1 v8 ((piecesM (rowS S d) k).length + 16) (bv (piecesM (rowS S d) k) ++ CV)) := Lib.hid ho8
               have HM8 := Lib.hid hm8
               have hs2 : Cells w8 ⟨go, 0, none⟩ P2 := (HCO.out).keep (hm8.grown.block go (HLO.out) (fun e => by have := HLTU.out _ e.symm; have := HGE.out; omega))
               have HS2 := Lib.hid hs2
               clear ho8 hm8 hs2)
            | (at_builtin
               refine wpList_app _ rfl (.tmp 32) (.tmp 33) _ _ rfl 5 5 i0 _ 1 1 Try.underlying55 Try.underlying55 hi hz0 hz1 hz2 rfl (by decide) v8 _ _ rfl HO8.out _ 16 16 P2 rfl (by rw [HP2.out]) (fun _ => ⟨_, rfl, HS2.out⟩) hpo2 (by rw [HPL.out]; unfold maxLen; omega) (by rw [HPL.out]; omega) ?_
               intro v9 w9 ho9 hm9)
            | fail)
          have hm2 := HM8.out.trans hm9
          have hfr : ∀ b, u7.ownBlock = some b → w.heap.size ≤ b := fun b hb => by have := HNE.out b hb; omega
          have hx9 : Ext w w9 := grown_then HX3.out hm2.grown (.inr hfr)
          have hb90 := HB30.out.keep hm2.grown (fun e => by have := HNE.out _ e.symm; omega)
          have hb91 := HB31.out.keep hm2.grown (fun e => by have := HNE.out _ e.symm; omega)
          have hb92 := HB32.out.keep hm2.grown (fun e => by have := HNE.out _ e.symm; omega)
          have hb93 := HB33.out.keep hm2.grown (fun e => by have := HNE.out _ e.symm; omega)
          have hne9 : ∀ b, v9.ownBlock = some b → w.heap.size + 1 + 1 + 1 + 1 ≤ b := fun b hb => by
            rcases hm2.at_ with e | hn
            · exact HNE.out b (e.symm.trans hb)
            · have h1 := hn b hb
              have h2 := HB33.out.lt
              omega
          have ho2 : OwnB w9 v9 (piecesM (rowS S d) (k + 1)) := by
            rw [HROW.out]
            have e3 : ∀ X : List UInt8, X.length = 32 → bv X = CV ++ P2 → OwnB w9 v9 (piecesM (rowS S d) k ++ X) := fun X hXl hX2 => by
              unfold OwnB
              rw [bv_append, hX2, List.length_append, hXl, ← List.append_assoc]
              exact ho9
            exact e3 _ HRLN.out (by rw [HRB.out]; rw [if_pos hb0])
          have HX9 := Lib.hid hx9
          have HB90 := Lib.hid hb90
          have HB91 := Lib.hid hb91
          have HB92 := Lib.hid hb92
          have HB93 := Lib.hid hb93
          have HN9 := Lib.hid hne9
          have HO9 := Lib.hid ho2
          clear hm2 hx9 hb90 hb91 hb92 hb93 hne9 ho2 ho9 hm9
          go_roundw
          case rel => exact ⟨k + 1, by omega, by go_num, HO9.out, HX9.out, HB90.out, HB91.out, HB92.out, HB93.out, HN9.out⟩
          case measure => simp [intOf]; omega
        · have hbz : ((b : Int) == 0) = false := by rw [beq_eq_false_iff_ne]; omega
          go_wp2_with (first
            | (at_builtin
               refine wpList_app _ rfl (.tmp 35) (.tmp 36) _ _ rfl 5 5 i0 _ 1 1 Try.underlying55 Try.underlying55 hi hz0 hz1 hz2 rfl (by decide) u7 _ _ rfl HOU.out _ 16 16 P2 rfl (by rw [HP2.out]) (fun _ => ⟨_, rfl, HCO.out⟩) hpo2 (by rw [HPL.out]; unfold maxLen; omega) (by rw [HPL.out]; omega) ?_
               intro v8 w8 ho8 hm8
               have HO8 : Hid (Own w8 5 1 v8 ((piecesM (rowS S d) k).length + 16) (bv (piecesM (rowS S d) k) ++ P2)) := Lib.hid ho8
               have HM8 := Lib.hid hm8
               have hs2 : Cells w8 ⟨g, 0, none⟩ CV := (HCG.out).keep (hm8.grown.block g (HLG.out) (fun e => by have := HLTU.out _ e.symm; have := HGE.out; omega))
               have HS2 := Lib.hid hs2
               clear ho8 hm8 hs2)
            | (at_builtin
               refine wpList_app _ rfl (.tmp 38) (.tmp 39) _ _ rfl 5 5 i0 _ 1 1 Try.underlying55 Try.underlying55 hi hz0 hz1 hz2 rfl (by decide) v8 _ _ rfl HO8.out _ 16 16 CV rfl (by rw [HCL.out]) (fun _ => ⟨_, rfl, HS2.out⟩) hco (by rw [HPL.out]; unfold maxLen; omega) (by rw [HPL.out]; omega) ?_
               intro v9 w9 ho9 hm9)
            | fail)
          have hm2 := HM8.out.trans hm9
          have hfr : ∀ b, u7.ownBlock = some b → w.heap.size ≤ b := fun b hb => by have := HNE.out b hb; omega
          have hx9 : Ext w w9 := grown_then HX3.out hm2.grown (.inr hfr)
          have hb90 := HB30.out.keep hm2.grown (fun e => by have := HNE.out _ e.symm; omega)
          have hb91 := HB31.out.keep hm2.grown (fun e => by have := HNE.out _ e.symm; omega)
          have hb92 := HB32.out.keep hm2.grown (fun e => by have := HNE.out _ e.symm; omega)
          have hb93 := HB33.out.keep hm2.grown (fun e => by have := HNE.out _ e.symm; omega)
          have hne9 : ∀ b, v9.ownBlock = some b → w.heap.size + 1 + 1 + 1 + 1 ≤ b := fun b hb => by
            rcases hm2.at_ with e | hn
            · exact HNE.out b (e.symm.trans hb)
            · have h1 := hn b hb
              have h2 := HB33.out.lt
              omega
          have ho2 : OwnB w9 v9 (piecesM (rowS S d) (k + 1)) := by
            rw [HROW.out]
            have e3 : ∀ X : List UInt8, X.length = 32 → bv X = P2 ++ CV → OwnB w9 v9 (piecesM (rowS S d) k ++ X) := fun X hXl hX2 => by
              unfold OwnB
              rw [bv_append, hX2, List.length_append, hXl, ← List.append_assoc]
              exact ho9
            exact e3 _ HRLN.out (by rw [HRB.out]; rw [if_neg hb0])
          have HX9 := Lib.hid hx9
          have HB90 := Lib.hid hb90
          have HB91 := Lib.hid hb91
          have HB92 := Lib.hid hb92
          have HB93 := Lib.hid hb93
          have HN9 := Lib.hid hne9
          have HO9 := Lib.hid ho2
          clear hm2 hx9 hb90 hb91 hb92 hb93 hne9 ho2 ho9 hm9
          go_roundw
          case rel => exact ⟨k + 1, by omega, by go_num, HO9.out, HX9.out, HB90.out, HB91.out, HB92.out, HB93.out, HN9.out⟩
          case measure => simp [intOf]; omega
    · obtain rfl : k = 32 := by omega
      obtain ⟨A, c, hv⟩ := OwnB.form hou
      subst hv
      have h1 := hou.holds
      have hlt1 := OwnB.lt hou
      obtain ⟨F, hp9, hF9⟩ := one_part (T := 55) h1 hlt1
      have hct := hb0.cells
      have hf9 := HFOR.out _ _ F hp9 hF9
      have hl32 := HPLA.out 32 (Nat.le_refl _)
      have HF9 := Lib.hid hf9
      have HX := Lib.hid (hx.alloc (.cells #[Value.slice A (piecesM (rowS S d) 32).length c] 55))
      have HB3 := Lib.hid (hb3.keep ((Ext.refl wr).alloc (.cells #[Value.slice A (piecesM (rowS S d) 32).length c] 55)) (by simp))
      clear hx hb0 hb1 hb2 hb3 hou h1 hlt1 hp9 hF9 hf9 hne hl32
      generalize (piecesM (rowS S d) 32).length = n at *
      go_wp2_with (first
        | (refine wpList_load_agg _ rfl 25 (.tmp 3) rfl _ rfl TB _ Try.underlying25 rfl HTS.out hct ?_)
        | fail)
      refine (HF9.out).mono ?_
      rintro e w4 ⟨rfl, hx4⟩
      have hr4 : w4.heap[w.heap.size + 1 + 1 + 1]? = some (.cells D.toArray 22 (0, 0)) := HB3.out.keep hx4 (by simp)
      have hx5 := HX.out.trans hx4
      go_wp2_with (first
        | (refine wpList_store_row _ rfl 22 (.tmp 6) (.tmp 44) rfl (w.heap.size + 1 + 1 + 1) rfl D R _ rfl hr4 (arr_size HRL.out) (by rw [HRL.out, HDL0.out]) hro ?_)
        | fail)
      have hc9 := Blk.cells (t := 22) (setRow_at (cs' := R.toArray) hr4)
      (try simp only [Exit.inBlock, Exit.then])
      refine bodyPost_ret (results_agg rfl _ _ _ _ _ rfl Try.underlying22 rfl (arr_size HRL.out) hc9) rfl ?_
      exact ⟨rfl, setRow_grown hx5 _ _ (by omega)⟩
end
section
open Go.RowKit

theorem RIn.fp {w : World} {g : Nat} {F : Fp} {s : InS} (h : RIn w g F s) : ∀ b, F b → b < w.heap.size ∧ b ≠ g := by obtain ⟨_, _, _, _, _, _, _, _, _, hF, _⟩ := h; exact hF
theorem cut32 (s : InS) : (cutM 32 s).1 = [] ∨ (cutM 32 s).1.length = 32 := by
  unfold cutM
  split
  · exact .inl rfl
  · split
    · exact .inl rfl
    · exact .inr (by show (s.1.take 32).length = 32; rw [List.length_take]; omega)
set_option maxRecDepth 100000 in
set_option maxHeartbeats 4000000 in
theorem RSum {w : World} {g : Nat} {F : Fp} {s : InS} (h : RIn w g F s) :
    Calls Try.prog 40 #[.pointer (some ⟨g, 0, none⟩)] w fun r w' => r = .returned (.agg (bv (sumM s).1).toArray) ∧ RIn w' g F (sumM s).2 ∧ w.grownBy w' (some g) := by
  obtain ⟨Z, hz, hzl, hze⟩ : ∃ Z : List Value, (Try.prog.info? 22).bind (fun i => i.zero.map (·.cells)) = some Z.toArray ∧ Z.length = 32 ∧ Z = bv (List.replicate 32 0) := ⟨_, arr_zero, by simp, rfl⟩
  have hgl := h.lt
  have HFB : Hid (∀ b, F b → b < w.heap.size) := Lib.hid fun b hb => (h.fp b hb).1
  have hx0 : Ext w ((w.alloc (.cells Z.toArray 22)).alloc (.cells Z.toArray 22)) := ((Ext.refl w).alloc _).alloc _
  have hb0 : Blk ((w.alloc (.cells Z.toArray 22)).alloc (.cells Z.toArray 22)) w.heap.size 22 Z := (Blk.new _ _ _).keep ((Ext.refl _).alloc _) (by simp)
  have hb1 : Blk ((w.alloc (.cells Z.toArray 22)).alloc (.cells Z.toArray 22)) (w.heap.size + 1) 22 Z := Blk.fresh (by simp) _ _
  have hraw := RRaw 32 (by decide) (by decide) (h.keep hx0 (by simp) (fun b _ => by simp))
  have hout : (bv (sumM s).1).length = 32 := by rw [bv_length, sumM_length]
  have hro := bv_one (sumM s).1
  have hsn : (sumM s).2 = (cutM 32 s).2 := rfl
  have hfull : ∀ P : List UInt8, P = (cutM 32 s).1 → mixB P Z P.length = bv (sumM s).1 := by
    rintro P rfl
    show bv ((cutM 32 s).1.take (cutM 32 s).1.length) ++ Z.drop (cutM 32 s).1.length = bv ((cutM 32 s).1 ++ List.replicate (32 - (cutM 32 s).1.length) 0)
    rw [List.take_length, bv_append, hze]
    congr 1
    rw [bv, ← List.map_drop, List.drop_replicate]
    rfl
  have hm0 : ∀ P : List UInt8, mixB P Z 0 = Z := fun P => by simp [mixB, bv]
  have hcut := cut32 s
  rw [hsn]
  generalize (cutM 32 s).1 = P at *
  generalize (cutM 32 s).2 = s2 at *
  have hful := hfull P rfl
  generalize bv (sumM s).1 = R at *
  have HX0 := Lib.hid hx0
  have HB0 := Lib.hid hb0
  have HB1 := Lib.hid hb1
  have HRAW := Lib.hid hraw
  have HOUT := Lib.hid hout
  have HFUL := Lib.hid hful
  have HM0 := Lib.hid (hm0 P)
  have HCUT := Lib.hid hcut
  have HGL := Lib.hid hgl
  have HZL := Lib.hid hzl
  clear hx0 hb0 hb1 hraw hout hful hfull hm0 hcut hgl hzl hze hsn h
  go_enter Try.func40, Try.ntmps40
  go_wp2_with (first
    | (refine wpList_alloc _ rfl 22 rfl _ hz ?_)
    | fail)
  refine (HRAW.out).mono ?_
  rintro e w1 ⟨v, rfl, ho, hri, hg1, hnew⟩
  obtain ⟨A, c, hv⟩ := OwnB.form ho
  subst hv
  have hgl := HGL.out
  have hlt := OwnB.lt ho
  have hne0 : ∀ b, (Value.slice A P.length c).ownBlock = some b → w.heap.size + 1 < b := fun b hb => by have := hnew b hb; have h2 := HB1.out.lt; omega
  have hb0 := HB0.out.keep hg1 (by simp; omega)
  have hb1 := HB1.out.keep hg1 (by simp; omega)
  have hg2 : w.grownBy w1 (some g) := grown_then (HX0.out.any _) hg1 (.inl rfl)
  have HB0' := Lib.hid hb0
  have HB1' := Lib.hid hb1
  have HRI := Lib.hid hri
  have HG2 := Lib.hid hg2
  have HNE := Lib.hid hne0
  have HPL : Hid (P.length = 0 ∨ P.length = 32) := Lib.hid (HCUT.out.imp (fun h => by rw [h]; rfl) id)
  have HOW := Lib.hid ho
  clear hgl hlt hne0 hb0 hb1 hg2 hri ho hg1 hnew HB0 HB1 HX0
  go_wp2_with fail
  go_loopw [5] (fun i wr => ∃ k : Nat, k ≤ P.length ∧ i = .int .i64 k ∧ w.grownBy wr (some g) ∧ RIn wr g F s2 ∧ Blk wr w.heap.size 22 Z ∧ Blk wr (w.heap.size + 1) 22 (mixB P Z k) ∧ OwnB wr (.slice A P.length c) P) (fun i _ => P.length - (intOf i).toNat)
  case atStart => exact ⟨0, by omega, rfl, HG2.out, HRI.out, HB0'.out, by rw [HM0.out]; exact HB1'.out, HOW.out⟩
  case round =>
    clear HG2 HRI HB0' HB1' HOW
    obtain ⟨k, hk, rfl, hg, hri, hb0, hb1, how⟩ := hrel
    have hgl := HGL.out
    by_cases hlt : k < P.length
    · have hp32 : P.length = 32 := by rcases HPL.out with h | h <;> omega
      obtain ⟨ad, rfl, hcs⟩ := OwnB.src how (by omega)
      have hcp := hcs k (.int .u8 ((P.getD k 0).toNat : Int)) (by simp [bv, List.getD, hlt])
      have hf := hb1.free k
      obtain ⟨u0, hu0⟩ : ∃ u, (mixB P Z k)[k]? = some u := ⟨_, List.getElem?_eq_getElem (by rw [mixB_len (n := 32) (by omega) HZL.out (by omega)]; omega)⟩
      have hcz := (hb1.cell k).trans hu0
      have hs := hb1.set k (.int .u8 ((P.getD k 0).toNat : Int))
      rw [mixB_step (n := 32) (by omega) HZL.out (by omega)] at hs
      generalize (P.getD k 0).toNat = x at *
      have hgr := only_set (w := wr) (g := w.heap.size + 1) k (.int .u8 (x : Int))
      have HG9 : Hid (w.grownBy (wr.setCell ⟨w.heap.size + 1, k, none⟩ (.int .u8 (x : Int))) (some g)) := Lib.hid (grown_then hg hgr (.inr (by rintro b ⟨⟩; omega)))
      have HRI9 := Lib.hid (hri.keep hgr (by simp; omega) (fun b hb => by have := HFB.out b hb; simp; omega))
      have HB90 := Lib.hid (hb0.keep hgr (by simp))
      have HS := Lib.hid hs
      have HOW9 := Lib.hid (OwnB.keep how hgr (.inr (fun e => by have := HNE.out _ e; omega)))
      have hc63 : P.length ≤ 9223372036854775807 := by omega
      have HCX := Lib.hid hcs
      clear hg hri hb0 hb1 how hs hgr hcs
      go_wp2
      go_roundw
      case rel => exact ⟨k + 1, by omega, by go_num, HG9.out, HRI9.out, HB90.out, HS.out, HOW9.out⟩
      case measure => simp [intOf]; omega
    · obtain rfl : k = P.length := by omega
      rw [HFUL.out] at hb1
      have hcm := hb1.cells
      have hr2 : wr.heap[w.heap.size]? = some (.cells Z.toArray 22 (0, 0)) := hb0
      have HG := Lib.hid hg
      have HRI := Lib.hid hri
      clear hg hri hb0 hb1 how
      go_wp2_with (first
        | (refine wpList_load_agg _ rfl 22 (.tmp 3) rfl _ rfl R _ Try.underlying22 rfl (arr_size HOUT.out) hcm ?_)
        | (refine wpList_store_row _ rfl 22 (.tmp 2) (.tmp 20) rfl w.heap.size rfl Z R _ rfl hr2 (arr_size HOUT.out) (by rw [HOUT.out, HZL.out]) hro ?_)
        | fail)
      have hc9 := Blk.cells (t := 22) (setRow_at (cs' := R.toArray) hr2)
      (try simp only [Exit.inBlock, Exit.then])
      refine bodyPost_ret (results_agg rfl _ _ _ _ _ rfl Try.underlying22 rfl (arr_size HOUT.out) hc9) rfl ?_
      exact ⟨rfl, HRI.out.keep (setRow_only _) (by simp; omega) (fun b hb => by have := HFB.out b hb; simp; omega), grown_then HG.out (setRow_only _) (.inr (by rintro b ⟨⟩; omega))⟩
end
section
open Go.RowKit

set_option maxRecDepth 100000 in
set_option maxHeartbeats 4000000 in
theorem RLeft {w : World} {g : Nat} {F : Fp} {s : InS} (h : RIn w g F s) :
    Calls Try.prog 27 #[.pointer (some ⟨g, 0, none⟩)] w fun r w' => r = .returned (.int .i64 (s.1.length : Int)) ∧ Ext w w' := by
  obtain ⟨l, bad⟩ := s
  obtain ⟨A, c, B, at_, hb, hh, hat, e1, e2, hF, hbl, hwf⟩ := h
  by_cases hbad : bad = 0
  case neg =>
    have hc2 : w.cell? ⟨g, 2, none⟩ = some (.int .i64 bad) := hb.cell 2
    have el : l = [] := e2 hbad
    subst el
    have hbb : (bad != 0) = true := by simpa using hbad
    clear hb hh e1 e2 hF hwf
    go_enter Try.func27, Try.ntmps27
    go_wp2
    go_ret
    exact ⟨rfl, Ext.refl _⟩
  subst hbad
  have hc2 : w.cell? ⟨g, 2, none⟩ = some (.int .i64 0) := hb.cell 2
  have el : l = B.drop at_ := e1 rfl
  have hlen : l.length = B.length - at_ := by rw [el, List.length_drop]
  have HLEN := Lib.hid hlen
  have HB : Hid (Blk w.drew g 67 [.slice A B.length c, .int .i64 ((at_ : Nat) : Int), .int .i64 0]) := Lib.hid hb
  have HAT := Lib.hid hat
  have HBL := Lib.hid hbl
  have HSUB : Hid (IntKind.i64.wrap ((B.length : Int) - (at_ : Int)) = ((B.length - at_ : Nat) : Int)) := Lib.hid (by simp [IntKind.wrap, IntKind.bits, IntKind.signed]; omega)
  clear hb hh e1 e2 hF hwf hat hbl el hlen
  go_enter Try.func27, Try.ntmps27
  go_wp2_with fail
  refine stab_plain Ext ext_refl ext_trans [[0], [0, 1], [0, 1, 2], [0, 1, 2, 3], [0, 1, 2, 3, 4], [5], [5, 6], [5, 6, 7], [5, 6, 7, 8], [0, 1, 2, 3, 4, 5, 6, 7, 8, 9], [0, 1, 2, 3, 4, 5, 6, 7, 8, 9, 10]] (fun i v wv => match i with | 0 => v = .pointer (some ⟨g, 0, none⟩) | 1 => v = .pointer (some ⟨g, 0, none⟩) | 2 => v = .pointer (some ⟨g, 0, none⟩) | 3 => v = .slice A B.length c | 4 => v = .int .i64 (B.length : Int) | 5 => v = .pointer (some ⟨g, 0, none⟩) | 6 => v = .pointer (some ⟨g, 0, none⟩) | 7 => v = .pointer (some ⟨g, 1, none⟩) | 8 => v = .int .i64 (at_ : Int) | 9 => v = .int .i64 ((B.length - at_ : Nat) : Int) | 10 => v = .int .i64 ((B.length - at_ : Nat) : Int) | _ => True) (by kernel_rfl) (by kernel_rfl) (by kernel_rfl) ?_ ?_ ?_
  · intro i v w1 w2 h hx
    match i, h with
    | 0, h => exact h
    | 1, h => exact h
    | 2, h => exact h
    | 3, h => exact h
    | 4, h => exact h
    | 5, h => exact h
    | 6, h => exact h
    | 7, h => exact h
    | 8, h => exact h
    | 9, h => exact h
    | 10, h => exact h
    | i + 11, h => trivial
  · intro i hi o ho
    match i, hi, ho with
    | 0, _, ho =>
      obtain rfl := Option.some.inj ho
      intro s W hX hd K hK
      rw [if_pos (wanted_plain rfl)]
      clear hd
      replace hK : ∀ (v : Value) (W' : World), Ext W W' → (v = .pointer (some ⟨g, 0, none⟩)) → _ := hK
      simp only [mkOf, List.map_cons, List.map_nil, Act.put, List.setIfInBounds_toArray, List.set_cons_succ, List.set_cons_zero, Nat.reduceAdd, Nat.zero_add] at hK ⊢
      go_simp
      exact hK _ _ (Ext.refl _) rfl
    | 1, _, ho =>
      obtain rfl := Option.some.inj ho
      intro s W hX hd K hK
      rw [if_pos (wanted_plain rfl)]
      have d8 : (s 0) = .pointer (some ⟨g, 0, none⟩) := hd 0 (by decide) (by decide)
      clear hd
      replace hK : ∀ (v : Value) (W' : World), Ext W W' → (v = .pointer (some ⟨g, 0, none⟩)) → _ := hK
      simp only [mkOf, List.map_cons, List.map_nil, Act.put, List.setIfInBounds_toArray, List.set_cons_succ, List.set_cons_zero, Nat.reduceAdd, Nat.zero_add] at hK ⊢
      simp only [d8] at hK ⊢
      go_simp
      exact hK _ _ (Ext.refl _) rfl
    | 2, _, ho =>
      obtain rfl := Option.some.inj ho
      intro s W hX hd K hK
      rw [if_pos (wanted_plain rfl)]
      have d9 : (s 1) = .pointer (some ⟨g, 0, none⟩) := hd 1 (by decide) (by decide)
      clear hd
      replace hK : ∀ (v : Value) (W' : World), Ext W W' → (v = .pointer (some ⟨g, 0, none⟩)) → _ := hK
      simp only [mkOf, List.map_cons, List.map_nil, Act.put, List.setIfInBounds_toArray, List.set_cons_succ, List.set_cons_zero, Nat.reduceAdd, Nat.zero_add] at hK ⊢
      simp only [d9] at hK ⊢
      go_simp
      exact hK _ _ (Ext.refl _) rfl
    | 3, _, ho =>
      obtain rfl := Option.some.inj ho
      intro s W hX hd K hK
      rw [if_pos (wanted_plain rfl)]
      have d10 : (s 2) = .pointer (some ⟨g, 0, none⟩) := hd 2 (by decide) (by decide)
      clear hd
      replace hK : ∀ (v : Value) (W' : World), Ext W W' → (v = .slice A B.length c) → _ := hK
      simp only [mkOf, List.map_cons, List.map_nil, Act.put, List.setIfInBounds_toArray, List.set_cons_succ, List.set_cons_zero, Nat.reduceAdd, Nat.zero_add] at hK ⊢
      simp only [d10] at hK ⊢
      have c0 := (HB.out.keep hX (by simp)).cell 0
      replace c0 : W.cell? ⟨g, 0, none⟩ = some (.slice A B.length c) := c0
      go_simp
      exact hK _ _ (Ext.refl _) rfl
    | 4, _, ho =>
      obtain rfl := Option.some.inj ho
      intro s W hX hd K hK
      rw [if_pos (wanted_plain rfl)]
      have d11 : (s 3) = .slice A B.length c := hd 3 (by decide) (by decide)
      clear hd
      replace hK : ∀ (v : Value) (W' : World), Ext W W' → (v = .int .i64 (B.length : Int)) → _ := hK
      simp only [mkOf, List.map_cons, List.map_nil, Act.put, List.setIfInBounds_toArray, List.set_cons_succ, List.set_cons_zero, Nat.reduceAdd, Nat.zero_add] at hK ⊢
      simp only [d11] at hK ⊢
      go_simp
      exact hK _ _ (Ext.refl _) rfl
    | 5, _, ho =>
      obtain rfl := Option.some.inj ho
      intro s W hX hd K hK
      rw [if_pos (wanted_plain rfl)]
      clear hd
      replace hK : ∀ (v : Value) (W' : World), Ext W W' → (v = .pointer (some ⟨g, 0, none⟩)) → _ := hK
      simp only [mkOf, List.map_cons, List.map_nil, Act.put, List.setIfInBounds_toArray, List.set_cons_succ, List.set_cons_zero, Nat.reduceAdd, Nat.zero_add] at hK ⊢
      go_simp
      exact hK _ _ (Ext.refl _) rfl
    | 6, _, ho =>
      obtain rfl := Option.some.inj ho
      intro s W hX hd K hK
      rw [if_pos (wanted_plain rfl)]
      have d13 : (s 5) = .pointer (some ⟨g, 0, none⟩) := hd 5 (by decide) (by decide)
      clear hd
      replace hK : ∀ (v : Value) (W' : World), Ext W W' → (v = .pointer (some ⟨g, 0, none⟩)) → _ := hK
      simp only [mkOf, List.map_cons, List.map_nil, Act.put, List.setIfInBounds_toArray, List.set_cons_succ, List.set_cons_zero, Nat.reduceAdd, Nat.zero_add] at hK ⊢
      simp only [d13] at hK ⊢
      go_simp
      exact hK _ _ (Ext.refl _) rfl
    | 7, _, ho =>
      obtain rfl := Option.some.inj ho
      intro s W hX hd K hK
      rw [if_pos (wanted_plain rfl)]
      have d14 : (s 6) = .pointer (some ⟨g, 0, none⟩) := hd 6 (by decide) (by decide)
      clear hd
      replace hK : ∀ (v : Value) (W' : World), Ext W W' → (v = .pointer (some ⟨g, 1, none⟩)) → _ := hK
      simp only [mkOf, List.map_cons, List.map_nil, Act.put, List.setIfInBounds_toArray, List.set_cons_succ, List.set_cons_zero, Nat.reduceAdd, Nat.zero_add] at hK ⊢
      simp only [d14] at hK ⊢
      go_simp
      exact hK _ _ (Ext.refl _) rfl
    | 8, _, ho =>
      obtain rfl := Option.some.inj ho
      intro s W hX hd K hK
      rw [if_pos (wanted_plain rfl)]
      have d15 : (s 7) = .pointer (some ⟨g, 1, none⟩) := hd 7 (by decide) (by decide)
      clear hd
      replace hK : ∀ (v : Value) (W' : World), Ext W W' → (v = .int .i64 (at_ : Int)) → _ := hK
      simp only [mkOf, List.map_cons, List.map_nil, Act.put, List.setIfInBounds_toArray, List.set_cons_succ, List.set_cons_zero, Nat.reduceAdd, Nat.zero_add] at hK ⊢
      simp only [d15] at hK ⊢
      have c1 := (HB.out.keep hX (by simp)).cell 1
      replace c1 : W.cell? ⟨g, 1, none⟩ = some (.int .i64 (at_ : Int)) := c1
      go_simp
      exact hK _ _ (Ext.refl _) rfl
    | 9, _, ho =>
      obtain rfl := Option.some.inj ho
      intro s W hX hd K hK
      rw [if_pos (wanted_plain rfl)]
      have d12 : (s 4) = .int .i64 (B.length : Int) := hd 4 (by decide) (by decide)
      have d16 : (s 8) = .int .i64 (at_ : Int) := hd 8 (by decide) (by decide)
      clear hd
      replace hK : ∀ (v : Value) (W' : World), Ext W W' → (v = .int .i64 ((B.length - at_ : Nat) : Int)) → _ := hK
      simp only [mkOf, List.map_cons, List.map_nil, Act.put, List.setIfInBounds_toArray, List.set_cons_succ, List.set_cons_zero, Nat.reduceAdd, Nat.zero_add] at hK ⊢
      simp only [d12, d16] at hK ⊢
      have h1 := HAT.out
      have h2 := HBL.out
      go_simp
      exact hK _ _ (Ext.refl _) (by first | rw [HSUB.out] | (congr 1; omega))
    | 10, _, ho =>
      obtain rfl := Option.some.inj ho
      intro s W hX hd K hK
      rw [if_pos (wanted_plain rfl)]
      have d17 : (s 9) = .int .i64 ((B.length - at_ : Nat) : Int) := hd 9 (by decide) (by decide)
      clear hd
      replace hK : ∀ (v : Value) (W' : World), Ext W W' → (v = .int .i64 ((B.length - at_ : Nat) : Int)) → _ := hK
      simp only [mkOf, List.map_cons, List.map_nil, Act.put, List.setIfInBounds_toArray, List.set_cons_succ, List.set_cons_zero, Nat.reduceAdd, Nat.zero_add] at hK ⊢
      simp only [d17] at hK ⊢
      go_simp
      exact hK _ _ (Ext.refl _) rfl
    | i + 11, hi, _ => exact absurd hi (by simp)
  · intro s W hX hd
    have d8 : (s 0) = .pointer (some ⟨g, 0, none⟩) := hd 0 (by decide)
    have d9 : (s 1) = .pointer (some ⟨g, 0, none⟩) := hd 1 (by decide)
    have d10 : (s 2) = .pointer (some ⟨g, 0, none⟩) := hd 2 (by decide)
    have d11 : (s 3) = .slice A B.length c := hd 3 (by decide)
    have d12 : (s 4) = .int .i64 (B.length : Int) := hd 4 (by decide)
    have d13 : (s 5) = .pointer (some ⟨g, 0, none⟩) := hd 5 (by decide)
    have d14 : (s 6) = .pointer (some ⟨g, 0, none⟩) := hd 6 (by decide)
    have d15 : (s 7) = .pointer (some ⟨g, 1, none⟩) := hd 7 (by decide)
    have d16 : (s 8) = .int .i64 (at_ : Int) := hd 8 (by decide)
    have d17 : (s 9) = .int .i64 ((B.length - at_ : Nat) : Int) := hd 9 (by decide)
    have d2 : (s 10) = .int .i64 ((B.length - at_ : Nat) : Int) := hd 10 (by decide)
    clear hd
    simp only [mkOf, List.map_cons, List.map_nil, Act.put, List.setIfInBounds_toArray, List.set_cons_succ, List.set_cons_zero, Nat.reduceAdd, Nat.zero_add]
    (try simp only [Exit.then])
    go_wp2_with fail
    go_ret
    exact ⟨by simp [d2, HLEN.out], (Ext.refl w).drew.trans hX⟩
end
section
open Go.RowKit

theorem rsig_zero : (Try.prog.info? 38).bind (fun i => i.zero.map (·.cells)) = some (List.replicate 1024 (Value.int .u8 0)).toArray := by kernel_rfl
set_option maxRecDepth 100000 in
set_option maxHeartbeats 4000000 in
theorem RSign (seed : List UInt8) (hs : seed.length = 32) (n : Nat) (hn : n < 4294967296) (d : List UInt8) (hd : d.length = 32) (w : World) :
    Calls Try.prog 15 #[.agg tabsC.toArray, .agg (bv seed).toArray, .int .u32 (n : Int), .agg (bv d).toArray] w fun e w' => e = .returned (.agg (bv (signM seed n d)).toArray) ∧ Ext w w' := by
  obtain ⟨Z, hz, hzl, hzo⟩ : ∃ Z : List Value, (Try.prog.info? 38).bind (fun i => i.zero.map (·.cells)) = some Z.toArray ∧ Z.length = 1024 ∧ ∀ u ∈ Z, u.oneCell' = true := ⟨_, rsig_zero, List.length_replicate, fun u hu => by rw [List.eq_of_mem_replicate hu]; rfl⟩
  have hC : (bv (signM seed n d)).length = 1024 := by rw [bv_length, signM_length]
  have hone := bv_one (signM seed n d)
  have hop := fun k (h : k < 32) => sign_open seed n d h
  have hot := fun k (h : k < 32) => sign_other seed n d h
  have hdl : (bv d).length = 32 := by rw [bv_length]; exact hd
  have hsl : (bv seed).length = 32 := by rw [bv_length]; exact hs
  have hsec := fun (k : Nat) (hk : k < 32) (bt : Nat) (hbt : bt < 2) W => RSecret seed hs n hn k hk bt hbt W
  have hcov := fun (p : List UInt8) (hp : p.length = 16) W => RCover p hp W
  have hbit := fun (k : Nat) (hk : k < 32) W => RBit d hd k hk W
  have hts : (Try.prog.info? 25).map (·.size) = some tabsC.length := tabs_size rfl
  generalize tabsC = TB at *
  generalize bv (signM seed n d) = C at *
  have hb0 : Blk (((((w.alloc (.cells TB.toArray 25)).alloc (.cells (bv seed).toArray 22)).alloc (.cells (bv d).toArray 22)).alloc (.cells Z.toArray 38)).alloc (.cells Z.toArray 38)) w.heap.size 25 TB := ((((Blk.new _ _ _).keep ((Ext.refl _).alloc _) (by simp)).keep ((Ext.refl _).alloc _) (by simp)).keep ((Ext.refl _).alloc _) (by simp)).keep ((Ext.refl _).alloc _) (by simp)
  have hb1 : Blk (((((w.alloc (.cells TB.toArray 25)).alloc (.cells (bv seed).toArray 22)).alloc (.cells (bv d).toArray 22)).alloc (.cells Z.toArray 38)).alloc (.cells Z.toArray 38)) (w.heap.size + 1) 22 (bv seed) := (((Blk.fresh (by simp) _ _).keep ((Ext.refl _).alloc _) (by simp)).keep ((Ext.refl _).alloc _) (by simp)).keep ((Ext.refl _).alloc _) (by simp)
  have hb2 : Blk (((((w.alloc (.cells TB.toArray 25)).alloc (.cells (bv seed).toArray 22)).alloc (.cells (bv d).toArray 22)).alloc (.cells Z.toArray 38)).alloc (.cells Z.toArray 38)) (w.heap.size + 1 + 1) 22 (bv d) := ((Blk.fresh (by simp) _ _).keep ((Ext.refl _).alloc _) (by simp)).keep ((Ext.refl _).alloc _) (by simp)
  have hb3 : Blk (((((w.alloc (.cells TB.toArray 25)).alloc (.cells (bv seed).toArray 22)).alloc (.cells (bv d).toArray 22)).alloc (.cells Z.toArray 38)).alloc (.cells Z.toArray 38)) (w.heap.size + 1 + 1 + 1) 38 Z := (Blk.fresh (by simp) _ _).keep ((Ext.refl _).alloc _) (by simp)
  have hb4 : Blk (((((w.alloc (.cells TB.toArray 25)).alloc (.cells (bv seed).toArray 22)).alloc (.cells (bv d).toArray 22)).alloc (.cells Z.toArray 38)).alloc (.cells Z.toArray 38)) (w.heap.size + 1 + 1 + 1 + 1) 38 Z := Blk.fresh (by simp) _ _
  have hx0 : Ext w (((((w.alloc (.cells TB.toArray 25)).alloc (.cells (bv seed).toArray 22)).alloc (.cells (bv d).toArray 22)).alloc (.cells Z.toArray 38)).alloc (.cells Z.toArray 38)) := (((((Ext.refl w).alloc _).alloc _).alloc _).alloc _).alloc _
  generalize bv d = DC at *
  generalize bv seed = SC at *
  have HB0 := Lib.hid hb0
  have HB1 := Lib.hid hb1
  have HB2 := Lib.hid hb2
  have HB3 := Lib.hid hb3
  have HB4 := Lib.hid hb4
  have HX0 := Lib.hid hx0
  have HCL := Lib.hid hC
  have HZL := Lib.hid hzl
  have HDL := Lib.hid hdl
  have HSL := Lib.hid hsl
  have HOP := Lib.hid hop
  have HOT := Lib.hid hot
  have HSEC := Lib.hid hsec
  have HCOV := Lib.hid hcov
  have HBIT := Lib.hid hbit
  have HTS := Lib.hid hts
  clear hb0 hb1 hb2 hb3 hb4 hx0 hC hzl hdl hsl hop hot hsec hcov hbit hts
  go_enter Try.func15, Try.ntmps15
  go_wp2_with (first
    | (refine wpList_alloc _ rfl 38 rfl _ hz ?_)
    | fail)
  go_loopw [10, 11] (fun i q wr => ∃ k : Nat, k ≤ 32 ∧ i = .int .i64 k ∧ Ext w wr ∧ Blk wr w.heap.size 25 TB ∧ Blk wr (w.heap.size + 1) 22 SC ∧ Blk wr (w.heap.size + 1 + 1) 22 DC ∧ Blk wr (w.heap.size + 1 + 1 + 1) 38 Z ∧ Blk wr (w.heap.size + 1 + 1 + 1 + 1) 38 (mixAt C Z k)) (fun i _ _ => 32 - (intOf i).toNat)
  case atStart => exact ⟨0, by omega, rfl, HX0.out, HB0.out, HB1.out, HB2.out, HB3.out, by rw [mixAt_zero C Z HCL.out HZL.out]; exact HB4.out⟩
  case round =>
    clear HX0 HB0 HB1 HB2 HB3 HB4
    obtain ⟨k, hk, rfl, hx, hb0, hb1, hb2, hb3, hb4⟩ := hrel
    by_cases hlt : k < 32
    · have hcd := hb2.cells
      have hbl := bitM_lt d k
      have hp1 : (bv (openM seed n d k)).length = 16 := by rw [bv_length]; exact secretM_length _ _ _ _
      have hp2 : (bv (otherM seed n d k)).length = 16 := by rw [bv_length]; exact coverM_length _
      have ho1 := bv_one (openM seed n d k)
      have ho2 := bv_one (otherM seed n d k)
      have hst := mixAt_step C Z HCL.out HZL.out k hlt
      rw [HOP.out k hlt, HOT.out k hlt] at hst
      have hsc := fun W => HSEC.out k hlt (bitM d k) hbl W
      have hsc2 := fun W => HSEC.out k hlt (1 - bitM d k) (by omega) W
      have hcv := fun W => HCOV.out (secretM seed n k (1 - bitM d k)) (secretM_length _ _ _ _) W
      have e1 : secretM seed n k (bitM d k) = openM seed n d k := rfl
      have e2 : coverM (secretM seed n k (1 - bitM d k)) = otherM seed n d k := rfl
      rw [e1] at hsc
      rw [e2] at hcv
      have hbt := fun W => HBIT.out k hlt W
      have hbc : bitM d k + (1 - bitM d k) = 1 := by omega
      generalize bv (secretM seed n k (1 - bitM d k)) = S2 at *
      generalize 1 - bitM d k = c at *
      generalize bitM d k = b at *
      generalize bv (openM seed n d k) = P1 at *
      generalize bv (otherM seed n d k) = P2 at *
      have HX := Lib.hid hx
      have HB0r := Lib.hid hb0
      have HB1r := Lib.hid hb1
      have HB2r := Lib.hid hb2
      have HB3r := Lib.hid hb3
      have HB4r := Lib.hid hb4
      have HP1 := Lib.hid hp1
      have HP2 := Lib.hid hp2
      have HST := Lib.hid hst
      have HSC := Lib.hid hsc
      have HSC2 := Lib.hid hsc2
      have HCV := Lib.hid hcv
      have HBT := Lib.hid hbt
      have HBC := Lib.hid hbc
      have HWR : Hid (IntKind.i64.wrap (1 - (b : Int)) = (c : Int)) := Lib.hid (by simp [IntKind.wrap, IntKind.bits, IntKind.signed]; omega)
      clear hx hb0 hb1 hb2 hb3 hb4 hp1 hp2 hst hsc hsc2 hcv hbt hbl hbc e1 e2
      go_wp2_with (first
        | (refine wpList_load_agg _ rfl 22 (.tmp 7) rfl _ rfl DC _ Try.underlying22 rfl (arr_size HDL.out) hcd ?_)
        | (go_at_call 19; refine (HBT.out _).mono ?_; rintro e w1 ⟨rfl, hx1⟩; have hk0 := (HB0r.out.keep hx1 (by simp)).cells; have hk1 := (HB1r.out.keep hx1 (by simp)).cells)
        | (refine wpList_load_agg _ rfl 25 (.tmp 4) rfl _ rfl TB _ Try.underlying25 rfl HTS.out hk0 ?_)
        | (refine wpList_load_agg _ rfl 22 (.tmp 5) rfl _ rfl SC _ Try.underlying22 rfl (arr_size HSL.out) hk1 ?_)
        | fail)
      refine (HSC.out _).mono ?_
      rintro e w2 ⟨rfl, hx2⟩
      have hx12 := hx1.trans hx2
      have hm2 : w2.heap[w.heap.size + 1 + 1 + 1 + 1]? = some (.cells (mixAt C Z k).toArray 38 (0, 0)) := HB4r.out.keep hx12 (by simp)
      have kk : ∀ {g : Nat} {t : TypeId} {cs : List Value}, Blk wr g t cs → g < w.heap.size + 1 + 1 + 1 + 1 → Blk (w2.setRow (w.heap.size + 1 + 1 + 1 + 1) (putAt (mixAt C Z k) (k * 16) P1).toArray).drew g t cs := fun h hg => ((h.keep hx12 (by simp)).keep (setRow_only _) (by simp; omega)).keep (Ext.refl _).drew (by simp)
      have HB0 := Lib.hid (kk HB0r.out (by omega))
      have HB1 := Lib.hid (kk HB1r.out (by omega))
      have HB2 := Lib.hid (kk HB2r.out (by omega))
      have HB3 := Lib.hid (kk HB3r.out (by omega))
      have HB4 : Hid (Blk (w2.setRow (w.heap.size + 1 + 1 + 1 + 1) (putAt (mixAt C Z k) (k * 16) P1).toArray).drew (w.heap.size + 1 + 1 + 1 + 1) 38 (putAt (mixAt C Z k) (k * 16) P1)) := Lib.hid (Blk.keep (t := 38) (setRow_at hm2) (Ext.refl _).drew (by simp))
      have HX3 : Hid (Ext w (w2.setRow (w.heap.size + 1 + 1 + 1 + 1) (putAt (mixAt C Z k) (k * 16) P1).toArray).drew) := Lib.hid ((setRow_grown (HX.out.trans hx12) _ _ (by omega)).trans (Ext.refl _).drew)
      clear hx1 hx2 hx12 hcd hk0 hk1 kk HB0r HB1r HB2r HB3r HB4r
      go_wp2_with (first
        | (refine wpList_store_part _ rfl 35 (.tmp 27) (.tmp 25) rfl (w.heap.size + 1 + 1 + 1 + 1) (k * 16) rfl (mixAt C Z k) P1 _ rfl hm2 (rpiece_size HP1.out) (by rw [mixAt_len, HP1.out]; omega) ho1 ?_)
        | fail)
      clear hm2
      generalize (w2.setRow (w.heap.size + 1 + 1 + 1 + 1) (putAt (mixAt C Z k) (k * 16) P1).toArray) = V at *
      generalize hg : w.heap.size + 1 + 1 + 1 + 1 = g at *
      have HG := Lib.hid hg
      have hdk : decide ((k : Int) < 32) = true := by rw [decide_eq_true_iff]; omega
      (try simp only [hdk])
      clear hg hdk
      refine stab_store Ext ext_refl ext_trans [[0], [1], [2], [3], [4], [5], [6], [6, 7], [2, 3, 4, 5, 6, 7, 8], [1, 2, 3, 4, 5, 6, 7, 8, 9], [10], [0, 1, 2, 3, 4, 5, 6, 7, 8, 9, 10, 11], [0, 1, 2, 3, 4, 5, 6, 7, 8, 9, 10, 11, 12]] (fun i v wv => match i with | 0 => v = .int .i64 (k : Int) | 1 => v = .agg TB.toArray | 2 => v = .agg TB.toArray | 3 => v = .agg SC.toArray | 4 => v = .int .u32 (n : Int) | 5 => v = .int .i64 (k : Int) | 6 => v = .int .i64 (b : Int) | 7 => v = .int .i64 (c : Int) | 8 => v = .agg S2.toArray | 9 => v = .agg P2.toArray | 10 => v = .pointer (some ⟨g, 512, none⟩) | 11 => v = .pointer (some ⟨g, 512 + k * 16, none⟩) | _ => True) (by kernel_rfl) (by kernel_rfl) (by kernel_rfl) (by kernel_rfl) (by simp) ?_ ?_ ?_
      · intro i v w1 w2 h hx
        match i, h with
        | 0, h => exact h
        | 1, h => exact h
        | 2, h => exact h
        | 3, h => exact h
        | 4, h => exact h
        | 5, h => exact h
        | 6, h => exact h
        | 7, h => exact h
        | 8, h => exact h
        | 9, h => exact h
        | 10, h => exact h
        | 11, h => exact h
        | i + 12, h => trivial
      · intro i hi o ho
        match i, hi, ho with
        | 0, _, ho =>
          obtain rfl := Option.some.inj ho
          intro s W hX hd K hK
          rw [if_pos (wanted_plain rfl)]
          clear hd
          replace hK : ∀ (v : Value) (W' : World), Ext W W' → (v = .int .i64 (k : Int)) → _ := hK
          simp only [mkOf, List.map_cons, List.map_nil, Act.put, List.setIfInBounds_toArray, List.set_cons_succ, List.set_cons_zero, Nat.reduceAdd, Nat.zero_add] at hK ⊢
          go_simp
          exact hK _ _ (Ext.refl _) rfl
        | 1, _, ho =>
          obtain rfl := Option.some.inj ho
          intro s W hX hd K hK
          rw [if_pos (wanted_plain rfl)]
          clear hd
          replace hK : ∀ (v : Value) (W' : World), Ext W W' → (v = .agg TB.toArray) → _ := hK
          simp only [mkOf, List.map_cons, List.map_nil, Act.put, List.setIfInBounds_toArray, List.set_cons_succ, List.set_cons_zero, Nat.reduceAdd, Nat.zero_add] at hK ⊢
          refine wp_load_agg 25 (.tmp 4) rfl _ rfl TB _ Try.underlying25 rfl (HTS.out) (HB0.out.keep hX (by simp)).cells ?_
          exact hK _ _ (Ext.refl _) rfl
        | 2, _, ho =>
          obtain rfl := Option.some.inj ho
          intro s W hX hd K hK
          rw [if_pos (wanted_plain rfl)]
          clear hd
          replace hK : ∀ (v : Value) (W' : World), Ext W W' → (v = .agg TB.toArray) → _ := hK
          simp only [mkOf, List.map_cons, List.map_nil, Act.put, List.setIfInBounds_toArray, List.set_cons_succ, List.set_cons_zero, Nat.reduceAdd, Nat.zero_add] at hK ⊢
          refine wp_load_agg 25 (.tmp 4) rfl _ rfl TB _ Try.underlying25 rfl (HTS.out) (HB0.out.keep hX (by simp)).cells ?_
          exact hK _ _ (Ext.refl _) rfl
        | 3, _, ho =>
          obtain rfl := Option.some.inj ho
          intro s W hX hd K hK
          rw [if_pos (wanted_plain rfl)]
          clear hd
          replace hK : ∀ (v : Value) (W' : World), Ext W W' → (v = .agg SC.toArray) → _ := hK
          simp only [mkOf, List.map_cons, List.map_nil, Act.put, List.setIfInBounds_toArray, List.set_cons_succ, List.set_cons_zero, Nat.reduceAdd, Nat.zero_add] at hK ⊢
          refine wp_load_agg 22 (.tmp 5) rfl _ rfl SC _ Try.underlying22 rfl (arr_size HSL.out) (HB1.out.keep hX (by simp)).cells ?_
          exact hK _ _ (Ext.refl _) rfl
        | 4, _, ho =>
          obtain rfl := Option.some.inj ho
          intro s W hX hd K hK
          rw [if_pos (wanted_plain rfl)]
          clear hd
          replace hK : ∀ (v : Value) (W' : World), Ext W W' → (v = .int .u32 (n : Int)) → _ := hK
          simp only [mkOf, List.map_cons, List.map_nil, Act.put, List.setIfInBounds_toArray, List.set_cons_succ, List.set_cons_zero, Nat.reduceAdd, Nat.zero_add] at hK ⊢
          go_simp
          exact hK _ _ (Ext.refl _) rfl
        | 5, _, ho =>
          obtain rfl := Option.some.inj ho
          intro s W hX hd K hK
          rw [if_pos (wanted_plain rfl)]
          clear hd
          replace hK : ∀ (v : Value) (W' : World), Ext W W' → (v = .int .i64 (k : Int)) → _ := hK
          simp only [mkOf, List.map_cons, List.map_nil, Act.put, List.setIfInBounds_toArray, List.set_cons_succ, List.set_cons_zero, Nat.reduceAdd, Nat.zero_add] at hK ⊢
          go_simp
          exact hK _ _ (Ext.refl _) rfl
        | 6, _, ho =>
          obtain rfl := Option.some.inj ho
          intro s W hX hd K hK
          rw [if_pos (wanted_plain rfl)]
          clear hd
          replace hK : ∀ (v : Value) (W' : World), Ext W W' → (v = .int .i64 (b : Int)) → _ := hK
          simp only [mkOf, List.map_cons, List.map_nil, Act.put, List.setIfInBounds_toArray, List.set_cons_succ, List.set_cons_zero, Nat.reduceAdd, Nat.zero_add] at hK ⊢
          go_simp
          exact hK _ _ (Ext.refl _) rfl
        | 7, _, ho =>
          obtain rfl := Option.some.inj ho
          intro s W hX hd K hK
          rw [if_pos (wanted_plain rfl)]
          have d34 : (s 6) = .int .i64 (b : Int) := hd 6 (by decide) (by decide)
          clear hd
          replace hK : ∀ (v : Value) (W' : World), Ext W W' → (v = .int .i64 (c : Int)) → _ := hK
          simp only [mkOf, List.map_cons, List.map_nil, Act.put, List.setIfInBounds_toArray, List.set_cons_succ, List.set_cons_zero, Nat.reduceAdd, Nat.zero_add] at hK ⊢
          simp only [d34] at hK ⊢
          go_simp
          exact hK _ _ (Ext.refl _) (by rw [HWR.out])
        | 8, _, ho =>
          obtain rfl := Option.some.inj ho
          intro s W hX hd K hK
          rw [if_pos (wanted_plain rfl)]
          have d30 : (s 2) = .agg TB.toArray := hd 2 (by decide) (by decide)
          have d31 : (s 3) = .agg SC.toArray := hd 3 (by decide) (by decide)
          have d32 : (s 4) = .int .u32 (n : Int) := hd 4 (by decide) (by decide)
          have d33 : (s 5) = .int .i64 (k : Int) := hd 5 (by decide) (by decide)
          have d35 : (s 7) = .int .i64 (c : Int) := hd 7 (by decide) (by decide)
          clear hd
          replace hK : ∀ (v : Value) (W' : World), Ext W W' → (v = .agg S2.toArray) → _ := hK
          simp only [mkOf, List.map_cons, List.map_nil, Act.put, List.setIfInBounds_toArray, List.set_cons_succ, List.set_cons_zero, Nat.reduceAdd, Nat.zero_add] at hK ⊢
          simp only [d30, d31, d32, d33, d35] at hK ⊢
          go_simp
          refine (HSC2.out W).mono ?_
          rintro e w' ⟨rfl, hx⟩
          exact hK _ _ hx rfl
        | 9, _, ho =>
          obtain rfl := Option.some.inj ho
          intro s W hX hd K hK
          rw [if_pos (wanted_plain rfl)]
          have d29 : (s 1) = .agg TB.toArray := hd 1 (by decide) (by decide)
          have d36 : (s 8) = .agg S2.toArray := hd 8 (by decide) (by decide)
          clear hd
          replace hK : ∀ (v : Value) (W' : World), Ext W W' → (v = .agg P2.toArray) → _ := hK
          simp only [mkOf, List.map_cons, List.map_nil, Act.put, List.setIfInBounds_toArray, List.set_cons_succ, List.set_cons_zero, Nat.reduceAdd, Nat.zero_add] at hK ⊢
          simp only [d29, d36] at hK ⊢
          go_simp
          refine (HCV.out W).mono ?_
          rintro e w' ⟨rfl, hx⟩
          exact hK _ _ hx rfl
        | 10, _, ho =>
          obtain rfl := Option.some.inj ho
          intro s W hX hd K hK
          rw [if_pos (wanted_plain rfl)]
          clear hd
          replace hK : ∀ (v : Value) (W' : World), Ext W W' → (v = .pointer (some ⟨g, 512, none⟩)) → _ := hK
          simp only [mkOf, List.map_cons, List.map_nil, Act.put, List.setIfInBounds_toArray, List.set_cons_succ, List.set_cons_zero, Nat.reduceAdd, Nat.zero_add] at hK ⊢
          go_simp
          exact hK _ _ (Ext.refl _) rfl
        | 11, _, ho =>
          obtain rfl := Option.some.inj ho
          intro s W hX hd K hK
          rw [if_pos (wanted_plain rfl)]
          have d28 : (s 0) = .int .i64 (k : Int) := hd 0 (by decide) (by decide)
          have d38 : (s 10) = .pointer (some ⟨g, 512, none⟩) := hd 10 (by decide) (by decide)
          clear hd
          replace hK : ∀ (v : Value) (W' : World), Ext W W' → (v = .pointer (some ⟨g, 512 + k * 16, none⟩)) → _ := hK
          simp only [mkOf, List.map_cons, List.map_nil, Act.put, List.setIfInBounds_toArray, List.set_cons_succ, List.set_cons_zero, Nat.reduceAdd, Nat.zero_add] at hK ⊢
          simp only [d28, d38] at hK ⊢
          go_simp
          exact hK _ _ (Ext.refl _) rfl
        | i + 12, hi, _ => exact absurd hi (by simp)
      · intro o ho
        obtain rfl := Option.some.inj ho
        intro s W hX hd K hK
        rw [if_pos (wanted_plain rfl)]
        have d28 : (s 0) = .int .i64 (k : Int) := hd 0 (by decide)
        have d29 : (s 1) = .agg TB.toArray := hd 1 (by decide)
        have d30 : (s 2) = .agg TB.toArray := hd 2 (by decide)
        have d31 : (s 3) = .agg SC.toArray := hd 3 (by decide)
        have d32 : (s 4) = .int .u32 (n : Int) := hd 4 (by decide)
        have d33 : (s 5) = .int .i64 (k : Int) := hd 5 (by decide)
        have d34 : (s 6) = .int .i64 (b : Int) := hd 6 (by decide)
        have d35 : (s 7) = .int .i64 (c : Int) := hd 7 (by decide)
        have d36 : (s 8) = .agg S2.toArray := hd 8 (by decide)
        have d37 : (s 9) = .agg P2.toArray := hd 9 (by decide)
        have d38 : (s 10) = .pointer (some ⟨g, 512, none⟩) := hd 10 (by decide)
        have d39 : (s 11) = .pointer (some ⟨g, 512 + k * 16, none⟩) := hd 11 (by decide)
        clear hd
        simp only [mkOf, List.map_cons, List.map_nil, Act.put, List.setIfInBounds_toArray, List.set_cons_succ, List.set_cons_zero, Nat.reduceAdd, Nat.zero_add]
        refine wp_store_part W 35 (.tmp 39) (.tmp 37) rfl g (512 + k * 16) (by simpa [Act.eval] using d39) (putAt (mixAt C Z k) (k * 16) P1) P2 _ (by simpa [Act.eval] using d37) (HB4.out.keep hX (by simp)) (rpiece_size HP2.out) (by rw [putAt_len (by rw [mixAt_len, HP1.out]; omega), mixAt_len, HP2.out]; omega) ho2 ?_
        refine hK _ _ ?_
        have kk : ∀ {h : Nat} {t : TypeId} {cs : List Value}, Blk V.drew h t cs → h < g → Blk (W.setRow g (putAt (putAt (mixAt C Z k) (k * 16) P1) (512 + k * 16) P2).toArray) h t cs := fun h hg => (h.keep hX (by simp)).keep (setRow_only _) (by simp; omega)
        have hge := HG.out
        have HB90 := Lib.hid (kk HB0.out (by omega))
        have HB91 := Lib.hid (kk HB1.out (by omega))
        have HB92 := Lib.hid (kk HB2.out (by omega))
        have HB93 := Lib.hid (kk HB3.out (by omega))
        have HB94 : Hid (Blk (W.setRow g (putAt (putAt (mixAt C Z k) (k * 16) P1) (512 + k * 16) P2).toArray) g 38 (mixAt C Z (k + 1))) := Lib.hid (by rw [← HST.out]; exact setRow_at (HB4.out.keep hX (by simp)))
        have HX9 : Hid (Ext w (W.setRow g (putAt (putAt (mixAt C Z k) (k * 16) P1) (512 + k * 16) P2).toArray)) := Lib.hid (setRow_grown (HX3.out.trans hX) _ _ (by omega))
        generalize W.setRow g (putAt (putAt (mixAt C Z k) (k * 16) P1) (512 + k * 16) P2).toArray = V2 at *
        subst hge
        clear hX hK kk
        (try simp only [Exit.then])
        go_wp2_with fail
        go_roundw
        case rel => exact ⟨k + 1, by omega, by go_num, HX9.out, HB90.out, HB91.out, HB92.out, HB93.out, HB94.out⟩
        case measure => simp [intOf]; omega
    · obtain rfl : k = 32 := by omega
      rw [mixAt_all C Z HCL.out HZL.out] at hb4
      have hcm := hb4.cells
      have hr2 : wr.heap[w.heap.size + 1 + 1 + 1]? = some (.cells Z.toArray 38 (0, 0)) := hb3
      have HX := Lib.hid hx
      clear hx hb0 hb1 hb2 hb3 hb4
      go_wp2_with (first
        | (refine wpList_load_agg _ rfl 38 (.tmp 9) rfl _ rfl C _ Try.underlying38 rfl (rsig_size HCL.out) hcm ?_)
        | (refine wpList_store_row _ rfl 38 (.tmp 8) (.tmp 40) rfl (w.heap.size + 1 + 1 + 1) rfl Z C _ rfl hr2 (rsig_size HCL.out) (by rw [HCL.out, HZL.out]) hone ?_)
        | fail)
      have hc9 := Blk.cells (t := 38) (setRow_at (cs' := C.toArray) hr2)
      (try simp only [Exit.inBlock, Exit.then])
      refine bodyPost_ret (results_agg rfl _ _ _ _ _ rfl Try.underlying38 rfl (rsig_size HCL.out) hc9) rfl ?_
      exact ⟨rfl, setRow_grown HX.out _ _ (by omega)⟩
end
end Go.Proofs.Ytfoomnibfibfnaa

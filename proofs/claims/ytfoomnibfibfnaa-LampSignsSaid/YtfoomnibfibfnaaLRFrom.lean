/- The walk of the document's From of layer 4. Conditions: the signature and the digest have their lengths. -/
import Derived.Test.YtfoomnibfibfnaaLRCover
set_option linter.unusedVariables false
set_option linter.unusedSimpArgs false
set_option linter.unnecessarySimpa false
namespace Go.Proofs.Ytfoomnibfibfnaa
open Go.RowKit

theorem rsig_size {n : Nat} (h : n = 1024) : (Try.prog.info? 38).map (·.size) = some n := by subst h; kernel_rfl
theorem arr_size {n : Nat} (h : n = 32) : (Try.prog.info? 22).map (·.size) = some n := by subst h; kernel_rfl
theorem arr_zero : (Try.prog.info? 22).bind (fun i => i.zero.map (·.cells)) = some (bv (List.replicate 32 0)).toArray := by kernel_rfl
set_option maxRecDepth 100000 in
set_option maxHeartbeats 8000000 in
theorem RFrom (S : List UInt8) (hS : S.length = 1024) (d : List UInt8) (hd : d.length = 32) (w : World) :
    Calls Try.prog 18 #[.agg tabsC.toArray, .agg (bv S).toArray, .agg (bv d).toArray] w fun e w' => e = .returned (.agg (bv (fromS S d)).toArray) ∧ Ext w w' := by
  obtain ⟨i0, hi, hz0, hz1, hz2⟩ := info_parts u8_info
  obtain ⟨Z, hz, hzl⟩ : ∃ Z : List Value, (Try.prog.info? 35).bind (fun i => i.zero.map (·.cells)) = some Z.toArray ∧ Z.length = 16 := ⟨_, rpiece_zero, by simp⟩
  obtain ⟨D, hzd, hdl0⟩ : ∃ D : List Value, (Try.prog.info? 22).bind (fun i => i.zero.map (·.cells)) = some D.toArray ∧ D.length = 32 := ⟨_, arr_zero, by simp⟩
  have hp1l : ∀ k, k < 32 → ((S.drop (k * 16)).take 16).length = 16 := fun k h => by rw [List.length_take, List.length_drop, hS]; omega
  have hp2l : ∀ k, k < 32 → ((S.drop (512 + k * 16)).take 16).length = 16 := fun k h => by rw [List.length_take, List.length_drop, hS]; omega
  have hpl : ∀ k, k ≤ 32 → (piecesM (rowS S d) k).length = k * 32 := by
    intro k
    induction k with
    | zero => intro _; simp [piecesM]
    | succ k ih => intro h; rw [piecesM_succ, List.length_append, ih (by omega), rowS, rowFrom_length (hp2l k (by omega)), Nat.succ_mul]
  have hbit := fun (k : Nat) (hk : k < 32) W => RBit d hd k hk W
  have hcov := fun (k : Nat) (hk : k < 32) W => RCover ((S.drop (k * 16)).take 16) (hp1l k hk) W
  have hfor := fun v W F hp2 hF => RFor 2 2 rfl [piecesM (rowS S d) 32] (by simp [blob, be_length, hpl 32 (Nat.le_refl _)]) v W F hp2 hF
  have hlm : sha (textM 2 [piecesM (rowS S d) 32]) = fromS S d := rfl
  rw [hlm] at hfor
  have hrl : (bv (fromS S d)).length = 32 := by rw [bv_length]; exact leafOf_length _
  have hro := bv_one (fromS S d)
  have hdl : (bv d).length = 32 := by rw [bv_length]; exact hd
  have hq := bv_drop_take S
  have hts : (Try.prog.info? 25).map (·.size) = some tabsC.length := tabs_size rfl
  generalize tabsC = TB at *
  have hb0 : Blk ((((w.alloc (.cells TB.toArray 25)).alloc (.cells (bv S).toArray 38)).alloc (.cells (bv d).toArray 22)).alloc (.cells D.toArray 22)) w.heap.size 25 TB := (((Blk.new _ _ _).keep ((Ext.refl _).alloc _) (by simp)).keep ((Ext.refl _).alloc _) (by simp)).keep ((Ext.refl _).alloc _) (by simp)
  have hb1 : Blk ((((w.alloc (.cells TB.toArray 25)).alloc (.cells (bv S).toArray 38)).alloc (.cells (bv d).toArray 22)).alloc (.cells D.toArray 22)) (w.heap.size + 1) 38 (bv S) := ((Blk.fresh (by simp) _ _).keep ((Ext.refl _).alloc _) (by simp)).keep ((Ext.refl _).alloc _) (by simp)
  have hb2 : Blk ((((w.alloc (.cells TB.toArray 25)).alloc (.cells (bv S).toArray 38)).alloc (.cells (bv d).toArray 22)).alloc (.cells D.toArray 22)) (w.heap.size + 1 + 1) 22 (bv d) := (Blk.fresh (by simp) _ _).keep ((Ext.refl _).alloc _) (by simp)
  have hb3 : Blk ((((w.alloc (.cells TB.toArray 25)).alloc (.cells (bv S).toArray 38)).alloc (.cells (bv d).toArray 22)).alloc (.cells D.toArray 22)) (w.heap.size + 1 + 1 + 1) 22 D := Blk.fresh (by simp) _ _
  have hx0 : Ext w ((((w.alloc (.cells TB.toArray 25)).alloc (.cells (bv S).toArray 38)).alloc (.cells (bv d).toArray 22)).alloc (.cells D.toArray 22)) := ((((Ext.refl w).alloc _).alloc _).alloc _).alloc _
  generalize bv (fromS S d) = R at *
  generalize bv S = C at *
  generalize bv d = DC at *
  have HB0 := Lib.hid hb0
  have HB1 := Lib.hid hb1
  have HB2 := Lib.hid hb2
  have HB3 := Lib.hid hb3
  have HX0 := Lib.hid hx0
  have HBIT := Lib.hid hbit
  have HCOV := Lib.hid hcov
  have HFOR := Lib.hid hfor
  have HRL := Lib.hid hrl
  have HZL := Lib.hid hzl
  have HDL0 := Lib.hid hdl0
  have HDL := Lib.hid hdl
  have HQ := Lib.hid hq
  have HPA := Lib.hid hp1l
  have HPB := Lib.hid hp2l
  have HPLA := Lib.hid hpl
  have HTS := Lib.hid hts
  clear hb0 hb1 hb2 hb3 hx0 hbit hcov hfor hrl hdl hdl0 hlm hzl hq hp1l hp2l hpl hts
  go_enter Try.func18, Try.ntmps18
  go_wp2_with (first
    | (refine wpList_alloc _ rfl 22 rfl _ hzd ?_)
    | fail)
  go_loopw [7, 8, 9, 10] (fun u i p q wr => ∃ k : Nat, k ≤ 32 ∧ i = .int .i64 k ∧ OwnB wr u (piecesM (rowS S d) k) ∧ Ext w wr ∧ Blk wr w.heap.size 25 TB ∧ Blk wr (w.heap.size + 1) 38 C ∧ Blk wr (w.heap.size + 1 + 1) 22 DC ∧ Blk wr (w.heap.size + 1 + 1 + 1) 22 D ∧ ∀ b, u.ownBlock = some b → w.heap.size + 1 + 1 + 1 + 1 ≤ b) (fun _ i _ _ _ => 32 - (intOf i).toNat)
  case atStart => exact ⟨0, by omega, rfl, Own.nil _ _ _, HX0.out, HB0.out, HB1.out, HB2.out, HB3.out, fun b hb => by simp [Value.ownBlock] at hb⟩
  case round =>
    clear HX0 HB0 HB1 HB2 HB3
    obtain ⟨k, hk, rfl, hou, hx, hb0, hb1, hb2, hb3, hne⟩ := hrel
    by_cases hlt : k < 32
    · have hq1 := HQ.out (k * 16) 16
      have hq2 := HQ.out (512 + k * 16) 16
      have hl1 : (bv ((S.drop (k * 16)).take 16)).length = 16 := by rw [bv_length]; exact HPA.out k hlt
      have hl2 : (bv ((S.drop (512 + k * 16)).take 16)).length = 16 := by rw [bv_length]; exact HPB.out k hlt
      have hpo2 := bv_one ((S.drop (512 + k * 16)).take 16)
      have hcv := fun W => HCOV.out k hlt W
      have hcl : (bv (coverM ((S.drop (k * 16)).take 16))).length = 16 := by rw [bv_length, coverM_length]
      have hco := bv_one (coverM ((S.drop (k * 16)).take 16))
      have hrow : bv (rowS S d k) = if bitM d k = 0 then bv (coverM ((S.drop (k * 16)).take 16)) ++ bv ((S.drop (512 + k * 16)).take 16) else bv ((S.drop (512 + k * 16)).take 16) ++ bv (coverM ((S.drop (k * 16)).take 16)) := by
        unfold rowS rowFrom
        split <;> rw [bv_append]
      have hrln : (rowS S d k).length = 32 := rowFrom_length (HPB.out k hlt)
      have hbt := fun W => HBIT.out k hlt W
      have hpk := HPLA.out k (by omega)
      generalize bitM d k = b at *
      generalize bv (coverM ((S.drop (k * 16)).take 16)) = CV at *
      generalize bv ((S.drop (k * 16)).take 16) = P1 at *
      generalize bv ((S.drop (512 + k * 16)).take 16) = P2 at *
      have HROW : Hid (piecesM (rowS S d) (k + 1) = piecesM (rowS S d) k ++ rowS S d k) := Lib.hid (piecesM_succ _ _)
      have HLTU := Lib.hid (OwnB.lt hou)
      have HOUr := Lib.hid hou
      have HX := Lib.hid hx
      have HB0 : Hid (Blk wr.drew w.heap.size 25 TB) := Lib.hid hb0
      have HB1 : Hid (Blk wr.drew (w.heap.size + 1) 38 C) := Lib.hid hb1
      have HB2 : Hid (Blk wr.drew (w.heap.size + 1 + 1) 22 DC) := Lib.hid hb2
      have HB3 : Hid (Blk wr.drew (w.heap.size + 1 + 1 + 1) 22 D) := Lib.hid hb3
      have HNE := Lib.hid hne
      have HBT := Lib.hid hbt
      have HQ1 := Lib.hid hq1
      have HQ2 := Lib.hid hq2
      have HP1 := Lib.hid hl1
      have HP2 := Lib.hid hl2
      have HCV := Lib.hid hcv
      have HCL := Lib.hid hcl
      have HRB := Lib.hid hrow
      have HRLN := Lib.hid hrln
      have HPL := Lib.hid hpk
      clear hou hx hb0 hb1 hb2 hb3 hne hbt hq1 hq2 hl1 hl2 hcv hcl hrow hrln hpk
      have HK1 : Hid (∀ W, Ext wr.drew W → Cells W ⟨w.heap.size + 1, k * 16, none⟩ P1) := Lib.hid fun W h => by have h2 := ((HB1.out.keep h (by simp)).cells.drop (k * 16)).take 16; rw [addr_at, HQ1.out] at h2; exact h2
      go_wp2_with fail
      have hdk : decide ((k : Int) < 32) = true := by rw [decide_eq_true_iff]; omega
      (try simp only [hdk])
      clear hdk
      refine stab_store Ext ext_refl ext_trans [[0], [1], [2], [1, 2, 3], [1, 2, 3, 4], [0, 1, 2, 3, 4, 5], [6], [0, 1, 2, 3, 4, 5, 6, 7]] (fun i v wv => match i with | 0 => v = .agg TB.toArray | 1 => v = .int .i64 (k : Int) | 2 => v = .pointer (some ⟨w.heap.size + 1, 0, none⟩) | 3 => v = .pointer (some ⟨w.heap.size + 1, k * 16, none⟩) | 4 => v = .agg P1.toArray | 5 => v = .agg CV.toArray | 6 => ∃ g, v = .pointer (some ⟨g, 0, none⟩) ∧ wr.heap.size ≤ g ∧ Blk wv g 35 Z | _ => True) (by kernel_rfl) (by kernel_rfl) (by kernel_rfl) (by kernel_rfl) (by simp) ?_ ?_ ?_
      · intro i v w1 w2 h hx
        match i, h with
        | 0, h => exact h
        | 1, h => exact h
        | 2, h => exact h
        | 3, h => exact h
        | 4, h => exact h
        | 5, h => exact h
        | 6, h =>
          replace h : ∃ g, v = .pointer (some ⟨g, 0, none⟩) ∧ wr.heap.size ≤ g ∧ Blk w1 g 35 Z := h
          show ∃ g, v = .pointer (some ⟨g, 0, none⟩) ∧ wr.heap.size ≤ g ∧ Blk w2 g 35 Z
          obtain ⟨g, h1, h2, h3⟩ := h
          exact ⟨g, h1, h2, h3.keep hx (by simp)⟩
        | i + 7, h => trivial
      · intro i hi o ho
        match i, hi, ho with
        | 0, _, ho =>
          obtain rfl := Option.some.inj ho
          intro s W hX hd K hK
          rw [if_pos (wanted_plain rfl)]
          clear hd
          replace hK : ∀ (v : Value) (W' : World), Ext W W' → (v = .agg TB.toArray) → _ := hK
          simp only [mkOf, List.map_cons, List.map_nil, Act.put, List.setIfInBounds_toArray, List.set_cons_succ, List.set_cons_zero, Nat.reduceAdd, Nat.zero_add] at hK ⊢
          refine wp_load_agg 25 (.tmp 3) rfl _ rfl TB _ Try.underlying25 rfl HTS.out (HB0.out.keep hX (by simp)).cells ?_
          exact hK _ _ (Ext.refl _) rfl
        | 1, _, ho =>
          obtain rfl := Option.some.inj ho
          intro s W hX hd K hK
          rw [if_pos (wanted_plain rfl)]
          clear hd
          replace hK : ∀ (v : Value) (W' : World), Ext W W' → (v = .int .i64 (k : Int)) → _ := hK
          simp only [mkOf, List.map_cons, List.map_nil, Act.put, List.setIfInBounds_toArray, List.set_cons_succ, List.set_cons_zero, Nat.reduceAdd, Nat.zero_add] at hK ⊢
          go_simp
          exact hK _ _ (Ext.refl _) rfl
        | 2, _, ho =>
          obtain rfl := Option.some.inj ho
          intro s W hX hd K hK
          rw [if_pos (wanted_plain rfl)]
          clear hd
          replace hK : ∀ (v : Value) (W' : World), Ext W W' → (v = .pointer (some ⟨w.heap.size + 1, 0, none⟩)) → _ := hK
          simp only [mkOf, List.map_cons, List.map_nil, Act.put, List.setIfInBounds_toArray, List.set_cons_succ, List.set_cons_zero, Nat.reduceAdd, Nat.zero_add] at hK ⊢
          go_simp
          exact hK _ _ (Ext.refl _) rfl
        | 3, _, ho =>
          obtain rfl := Option.some.inj ho
          intro s W hX hd K hK
          rw [if_pos (wanted_plain rfl)]
          have d16 : (s 1) = .int .i64 (k : Int) := hd 1 (by decide) (by decide)
          have d17 : (s 2) = .pointer (some ⟨w.heap.size + 1, 0, none⟩) := hd 2 (by decide) (by decide)
          clear hd
          replace hK : ∀ (v : Value) (W' : World), Ext W W' → (v = .pointer (some ⟨w.heap.size + 1, k * 16, none⟩)) → _ := hK
          simp only [mkOf, List.map_cons, List.map_nil, Act.put, List.setIfInBounds_toArray, List.set_cons_succ, List.set_cons_zero, Nat.reduceAdd, Nat.zero_add] at hK ⊢
          simp only [d16, d17] at hK ⊢
          go_simp
          exact hK _ _ (Ext.refl _) rfl
        | 4, _, ho =>
          obtain rfl := Option.some.inj ho
          intro s W hX hd K hK
          rw [if_pos (wanted_plain rfl)]
          have d18 : (s 3) = .pointer (some ⟨w.heap.size + 1, k * 16, none⟩) := hd 3 (by decide) (by decide)
          clear hd
          replace hK : ∀ (v : Value) (W' : World), Ext W W' → (v = .agg P1.toArray) → _ := hK
          simp only [mkOf, List.map_cons, List.map_nil, Act.put, List.setIfInBounds_toArray, List.set_cons_succ, List.set_cons_zero, Nat.reduceAdd, Nat.zero_add] at hK ⊢
          simp only [d18] at hK ⊢
          refine wp_load_agg 35 (.tmp 18) rfl _ (by simpa [Act.eval] using d18) P1 _ Try.underlying35 rfl (rpiece_size HP1.out) (HK1.out W hX) ?_
          exact hK _ _ (Ext.refl _) rfl
        | 5, _, ho =>
          obtain rfl := Option.some.inj ho
          intro s W hX hd K hK
          rw [if_pos (wanted_plain rfl)]
          have d15 : (s 0) = .agg TB.toArray := hd 0 (by decide) (by decide)
          have d19 : (s 4) = .agg P1.toArray := hd 4 (by decide) (by decide)
          clear hd
          replace hK : ∀ (v : Value) (W' : World), Ext W W' → (v = .agg CV.toArray) → _ := hK
          simp only [mkOf, List.map_cons, List.map_nil, Act.put, List.setIfInBounds_toArray, List.set_cons_succ, List.set_cons_zero, Nat.reduceAdd, Nat.zero_add] at hK ⊢
          simp only [d15, d19] at hK ⊢
          go_simp
          refine (HCV.out W).mono ?_
          rintro e w' ⟨rfl, hx⟩
          exact hK _ _ hx rfl
        | 6, _, ho =>
          obtain rfl := Option.some.inj ho
          intro s W hX hd K hK
          rw [if_pos (wanted_plain rfl)]
          clear hd
          replace hK : ∀ (v : Value) (W' : World), Ext W W' → (∃ g, v = .pointer (some ⟨g, 0, none⟩) ∧ wr.heap.size ≤ g ∧ Blk W' g 35 Z) → _ := hK
          simp only [mkOf, List.map_cons, List.map_nil, Act.put, List.setIfInBounds_toArray, List.set_cons_succ, List.set_cons_zero, Nat.reduceAdd, Nat.zero_add] at hK ⊢
          refine wp_alloc_agg 35 rfl Z hz ?_
          exact hK _ _ ((Ext.refl _).alloc _) ⟨_, rfl, by have := hX.size; simpa using this, Blk.new _ _ _⟩
        | i + 7, hi, _ => exact absurd hi (by simp)
      · intro o ho
        obtain rfl := Option.some.inj ho
        intro s W hX hd K hK
        rw [if_pos (wanted_plain rfl)]
        have d15 : (s 0) = .agg TB.toArray := hd 0 (by decide)
        have d16 : (s 1) = .int .i64 (k : Int) := hd 1 (by decide)
        have d17 : (s 2) = .pointer (some ⟨w.heap.size + 1, 0, none⟩) := hd 2 (by decide)
        have d18 : (s 3) = .pointer (some ⟨w.heap.size + 1, k * 16, none⟩) := hd 3 (by decide)
        have d19 : (s 4) = .agg P1.toArray := hd 4 (by decide)
        have d20 : (s 5) = .agg CV.toArray := hd 5 (by decide)
        have d9 : ∃ g, (s 6) = .pointer (some ⟨g, 0, none⟩) ∧ wr.heap.size ≤ g ∧ Blk W g 35 Z := hd 6 (by decide)
        clear hd
        simp only [mkOf, List.map_cons, List.map_nil, Act.put, List.setIfInBounds_toArray, List.set_cons_succ, List.set_cons_zero, Nat.reduceAdd, Nat.zero_add]
        obtain ⟨g, hg, hgb, hB⟩ := d9
        rw [hg]
        refine wp_store_row 35 (.tmp 9) (.tmp 20) rfl g rfl Z CV _ (by simpa [Act.eval] using d20) hB (rpiece_size HCL.out) (by rw [HCL.out, HZL.out]) hco ?_
        refine hK _ _ ?_
        have hxr : Ext wr W := (Ext.refl wr).drew.trans hX
        have hV : Ext wr (W.setRow g CV.toArray) := setRow_grown hxr _ _ hgb
        have hgV : Blk (W.setRow g CV.toArray) g 35 CV := setRow_at hB
        have hk2 : Cells (W.setRow g CV.toArray) ⟨w.heap.size + 1, 512 + k * 16, none⟩ P2 := by
          have h2 := ((HB1.out.keep hX (by simp)).keep (setRow_only (g := g) CV.toArray) (by have := HB1.out.lt; simp at this ⊢; omega)).cells
          have h3 := (h2.drop (512 + k * 16)).take 16
          rw [addr_at, HQ2.out] at h3; exact h3
        have hgs : g < W.heap.size := hB.lt
        have hgs2 : g < (W.setRow g CV.toArray).heap.size := hgV.lt
        generalize W.setRow g CV.toArray = V at *
        have hx3 := hV.alloc (.cells P2.toArray 35)
        have hcd := (Blk.keep (w := wr) (t := 22) HB2.out hx3 (by simp)).cells
        have HX2 := Lib.hid hx3
        have HGV := Lib.hid (hgV.keep ((Ext.refl V).alloc (.cells P2.toArray 35)) (by simp))
        have HOV : Hid (Blk (V.alloc (.cells P2.toArray 35)) V.heap.size 35 P2) := Lib.hid (Blk.new _ _ _)
        have HGE : Hid (wr.heap.size ≤ g ∧ wr.heap.size ≤ V.heap.size) := Lib.hid ⟨hgb, by have := hV.size; omega⟩
        clear hK hX hxr hV hgV hgs hx3 hB d15 d16 d17 d18 d19 d20
        (try simp only [Exit.then])
        go_wp2_with (first
          | (refine wpList_load_agg _ rfl 35 (.tmp 23) rfl _ rfl P2 _ Try.underlying35 rfl (rpiece_size HP2.out) hk2 ?_)
          | (refine wpList_alloc _ rfl 35 rfl _ hz ?_)
          | (refine wpList_store_new _ rfl 35 (.tmp 10) (.tmp 24) rfl rfl Z P2 _ rfl (rpiece_size HP2.out) (by rw [HP2.out, HZL.out]) hpo2 ?_)
          | (refine wpList_load_agg _ rfl 22 (.tmp 5) rfl _ rfl DC _ Try.underlying22 rfl (arr_size HDL.out) hcd ?_)
          | fail)
        refine (HBT.out _).mono ?_
        rintro e w3 ⟨rfl, hx4⟩
        have HX3r := Lib.hid (HX2.out.trans hx4)
        have HX3 := Lib.hid (HX.out.trans HX3r.out)
        have HCG := Lib.hid (HGV.out.keep hx4 (by simp)).cells
        have HCO := Lib.hid (HOV.out.keep hx4 (by simp)).cells
        have HLG := Lib.hid (HGV.out.keep hx4 (by simp)).lt
        have HLO := Lib.hid (HOV.out.keep hx4 (by simp)).lt
        have HOU := Lib.hid (HOUr.out.ext HX3r.out)
        have HB30 : Hid (Blk w3 w.heap.size 25 TB) := Lib.hid (Blk.keep (w := wr) HB0.out HX3r.out (by simp))
        have HB31 : Hid (Blk w3 (w.heap.size + 1) 38 C) := Lib.hid (Blk.keep (w := wr) HB1.out HX3r.out (by simp))
        have HB32 : Hid (Blk w3 (w.heap.size + 1 + 1) 22 DC) := Lib.hid (Blk.keep (w := wr) HB2.out HX3r.out (by simp))
        have HB33 : Hid (Blk w3 (w.heap.size + 1 + 1 + 1) 22 D) := Lib.hid (Blk.keep (w := wr) HB3.out HX3r.out (by simp))
        clear hx4 hk2 hcd HX2 HGV HOV HOUr HB0 HB1 HB2 HB3 HX HK1
        generalize V.heap.size = go at *
        by_cases hb0 : b = 0
        · have hbz : ((b : Int) == 0) = true := by subst hb0; rfl
          go_wp2_with (first
            | (at_builtin
               refine wpList_app _ rfl (.tmp 29) (.tmp 30) _ _ rfl 5 5 i0 _ 1 1 Try.underlying55 Try.underlying55 hi hz0 hz1 hz2 rfl (by decide) u7 _ _ rfl HOU.out _ 16 16 CV rfl (by rw [HCL.out]) (fun _ => ⟨_, rfl, HCG.out⟩) hco (by rw [HPL.out]; unfold maxLen; omega) (by rw [HPL.out]; omega) ?_
               intro v8 w8 ho8 hm8
               have HO8 : Hid (Own w8 5 1 v8 ((piecesM (rowS S d) k).length + 16) (bv (piecesM (rowS S d) k) ++ CV)) := Lib.hid ho8
               have HM8 := Lib.hid hm8
               have hs2 : Cells w8 ⟨go, 0, none⟩ P2 := (HCO.out).keep (hm8.grown.block go (HLO.out) (fun e => by have := HLTU.out _ e.symm; have := HGE.out; omega))
               have HS2 := Lib.hid hs2
               clear ho8 hm8 hs2)
            | (at_builtin
               refine wpList_app _ rfl (.tmp 32) (.tmp 33) _ _ rfl 5 5 i0 _ 1 1 Try.underlying55 Try.underlying55 hi hz0 hz1 hz2 rfl (by decide) v8 _ _ rfl HO8.out _ 16 16 P2 rfl (by rw [HP2.out]) (fun _ => ⟨_, rfl, HS2.out⟩) hpo2 (by rw [HPL.out]; unfold maxLen; omega) (by rw [HPL.out]; omega) ?_
               intro v9 w9 ho9 hm9)
            | fail)
          have hm2 := HM8.out.trans hm9
          have hfr : ∀ b, u7.ownBlock = some b → w.heap.size ≤ b := fun b hb => by have := HNE.out b hb; omega
          have hx9 : Ext w w9 := grown_then HX3.out hm2.grown (.inr hfr)
          have hb90 := HB30.out.keep hm2.grown (fun e => by have := HNE.out _ e.symm; omega)
          have hb91 := HB31.out.keep hm2.grown (fun e => by have := HNE.out _ e.symm; omega)
          have hb92 := HB32.out.keep hm2.grown (fun e => by have := HNE.out _ e.symm; omega)
          have hb93 := HB33.out.keep hm2.grown (fun e => by have := HNE.out _ e.symm; omega)
          have hne9 : ∀ b, v9.ownBlock = some b → w.heap.size + 1 + 1 + 1 + 1 ≤ b := fun b hb => by
            rcases hm2.at_ with e | hn
            · exact HNE.out b (e.symm.trans hb)
            · have h1 := hn b hb
              have h2 := HB33.out.lt
              omega
          have ho2 : OwnB w9 v9 (piecesM (rowS S d) (k + 1)) := by
            rw [HROW.out]
            have e3 : ∀ X : List UInt8, X.length = 32 → bv X = CV ++ P2 → OwnB w9 v9 (piecesM (rowS S d) k ++ X) := fun X hXl hX2 => by
              unfold OwnB
              rw [bv_append, hX2, List.length_append, hXl, ← List.append_assoc]
              exact ho9
            exact e3 _ HRLN.out (by rw [HRB.out]; rw [if_pos hb0])
          have HX9 := Lib.hid hx9
          have HB90 := Lib.hid hb90
          have HB91 := Lib.hid hb91
          have HB92 := Lib.hid hb92
          have HB93 := Lib.hid hb93
          have HN9 := Lib.hid hne9
          have HO9 := Lib.hid ho2
          clear hm2 hx9 hb90 hb91 hb92 hb93 hne9 ho2 ho9 hm9
          go_roundw
          case rel => exact ⟨k + 1, by omega, by go_num, HO9.out, HX9.out, HB90.out, HB91.out, HB92.out, HB93.out, HN9.out⟩
          case measure => simp [intOf]; omega
        · have hbz : ((b : Int) == 0) = false := by rw [beq_eq_false_iff_ne]; omega
          go_wp2_with (first
            | (at_builtin
               refine wpList_app _ rfl (.tmp 35) (.tmp 36) _ _ rfl 5 5 i0 _ 1 1 Try.underlying55 Try.underlying55 hi hz0 hz1 hz2 rfl (by decide) u7 _ _ rfl HOU.out _ 16 16 P2 rfl (by rw [HP2.out]) (fun _ => ⟨_, rfl, HCO.out⟩) hpo2 (by rw [HPL.out]; unfold maxLen; omega) (by rw [HPL.out]; omega) ?_
               intro v8 w8 ho8 hm8
               have HO8 : Hid (Own w8 5 1 v8 ((piecesM (rowS S d) k).length + 16) (bv (piecesM (rowS S d) k) ++ P2)) := Lib.hid ho8
               have HM8 := Lib.hid hm8
               have hs2 : Cells w8 ⟨g, 0, none⟩ CV := (HCG.out).keep (hm8.grown.block g (HLG.out) (fun e => by have := HLTU.out _ e.symm; have := HGE.out; omega))
               have HS2 := Lib.hid hs2
               clear ho8 hm8 hs2)
            | (at_builtin
               refine wpList_app _ rfl (.tmp 38) (.tmp 39) _ _ rfl 5 5 i0 _ 1 1 Try.underlying55 Try.underlying55 hi hz0 hz1 hz2 rfl (by decide) v8 _ _ rfl HO8.out _ 16 16 CV rfl (by rw [HCL.out]) (fun _ => ⟨_, rfl, HS2.out⟩) hco (by rw [HPL.out]; unfold maxLen; omega) (by rw [HPL.out]; omega) ?_
               intro v9 w9 ho9 hm9)
            | fail)
          have hm2 := HM8.out.trans hm9
          have hfr : ∀ b, u7.ownBlock = some b → w.heap.size ≤ b := fun b hb => by have := HNE.out b hb; omega
          have hx9 : Ext w w9 := grown_then HX3.out hm2.grown (.inr hfr)
          have hb90 := HB30.out.keep hm2.grown (fun e => by have := HNE.out _ e.symm; omega)
          have hb91 := HB31.out.keep hm2.grown (fun e => by have := HNE.out _ e.symm; omega)
          have hb92 := HB32.out.keep hm2.grown (fun e => by have := HNE.out _ e.symm; omega)
          have hb93 := HB33.out.keep hm2.grown (fun e => by have := HNE.out _ e.symm; omega)
          have hne9 : ∀ b, v9.ownBlock = some b → w.heap.size + 1 + 1 + 1 + 1 ≤ b := fun b hb => by
            rcases hm2.at_ with e | hn
            · exact HNE.out b (e.symm.trans hb)
            · have h1 := hn b hb
              have h2 := HB33.out.lt
              omega
          have ho2 : OwnB w9 v9 (piecesM (rowS S d) (k + 1)) := by
            rw [HROW.out]
            have e3 : ∀ X : List UInt8, X.length = 32 → bv X = P2 ++ CV → OwnB w9 v9 (piecesM (rowS S d) k ++ X) := fun X hXl hX2 => by
              unfold OwnB
              rw [bv_append, hX2, List.length_append, hXl, ← List.append_assoc]
              exact ho9
            exact e3 _ HRLN.out (by rw [HRB.out]; rw [if_neg hb0])
          have HX9 := Lib.hid hx9
          have HB90 := Lib.hid hb90
          have HB91 := Lib.hid hb91
          have HB92 := Lib.hid hb92
          have HB93 := Lib.hid hb93
          have HN9 := Lib.hid hne9
          have HO9 := Lib.hid ho2
          clear hm2 hx9 hb90 hb91 hb92 hb93 hne9 ho2 ho9 hm9
          go_roundw
          case rel => exact ⟨k + 1, by omega, by go_num, HO9.out, HX9.out, HB90.out, HB91.out, HB92.out, HB93.out, HN9.out⟩
          case measure => simp [intOf]; omega
    · obtain rfl : k = 32 := by omega
      obtain ⟨A, c, hv⟩ := OwnB.form hou
      subst hv
      have h1 := hou.holds
      have hlt1 := OwnB.lt hou
      obtain ⟨F, hp9, hF9⟩ := one_part (T := 55) h1 hlt1
      have hct := hb0.cells
      have hf9 := HFOR.out _ _ F hp9 hF9
      have hl32 := HPLA.out 32 (Nat.le_refl _)
      have HF9 := Lib.hid hf9
      have HX := Lib.hid (hx.alloc (.cells #[Value.slice A (piecesM (rowS S d) 32).length c] 55))
      have HB3 := Lib.hid (hb3.keep ((Ext.refl wr).alloc (.cells #[Value.slice A (piecesM (rowS S d) 32).length c] 55)) (by simp))
      clear hx hb0 hb1 hb2 hb3 hou h1 hlt1 hp9 hF9 hf9 hne hl32
      generalize (piecesM (rowS S d) 32).length = n at *
      go_wp2_with (first
        | (refine wpList_load_agg _ rfl 25 (.tmp 3) rfl _ rfl TB _ Try.underlying25 rfl HTS.out hct ?_)
        | fail)
      refine (HF9.out).mono ?_
      rintro e w4 ⟨rfl, hx4⟩
      have hr4 : w4.heap[w.heap.size + 1 + 1 + 1]? = some (.cells D.toArray 22 (0, 0)) := HB3.out.keep hx4 (by simp)
      have hx5 := HX.out.trans hx4
      go_wp2_with (first
        | (refine wpList_store_row _ rfl 22 (.tmp 6) (.tmp 44) rfl (w.heap.size + 1 + 1 + 1) rfl D R _ rfl hr4 (arr_size HRL.out) (by rw [HRL.out, HDL0.out]) hro ?_)
        | fail)
      have hc9 := Blk.cells (t := 22) (setRow_at (cs' := R.toArray) hr4)
      (try simp only [Exit.inBlock, Exit.then])
      refine bodyPost_ret (results_agg rfl _ _ _ _ _ rfl Try.underlying22 rfl (arr_size HRL.out) hc9) rfl ?_
      exact ⟨rfl, setRow_grown hx5 _ _ (by omega)⟩
end Go.Proofs.Ytfoomnibfibfnaa

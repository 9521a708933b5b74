/- The walk of the document's Leaf of layer 4. Conditions: the seed has its length, the number is in its bounds. -/
import Derived.Test.YtfoomnibfibfnaaLRSign
set_option linter.unusedVariables false
set_option linter.unusedSimpArgs false
set_option linter.unnecessarySimpa false
namespace Go.Proofs.Ytfoomnibfibfnaa
open Go.RowKit

def halfM (seed : List UInt8) (n m : Nat) : List UInt8 := coverM (secretM seed n (m / 2) (m % 2))
theorem half_rows (seed : List UInt8) (n : Nat) : ∀ k, piecesM (halfM seed n) (2 * k) = piecesM (rowM seed n) k
  | 0 => by simp [piecesM]
  | k + 1 => by
    rw [show 2 * (k + 1) = 2 * k + 1 + 1 by omega, piecesM_succ, piecesM_succ, half_rows seed n k, piecesM_succ, List.append_assoc]
    unfold halfM rowM
    rw [show 2 * k / 2 = k by omega, show 2 * k % 2 = 0 by omega, show (2 * k + 1) / 2 = k by omega, show (2 * k + 1) % 2 = 1 by omega]
set_option maxRecDepth 100000 in
set_option maxHeartbeats 8000000 in
theorem RLeaf (seed : List UInt8) (hs : seed.length = 32) (n : Nat) (hn : n < 4294967296) (w : World) :
    Calls Try.prog 12 #[.agg tabsC.toArray, .agg (bv seed).toArray, .int .u32 (n : Int)] w fun e w' => e = .returned (.agg (bv (leafM seed n)).toArray) ∧ Ext w w' := by
  obtain ⟨i0, hi, hz0, hz1, hz2⟩ := info_parts u8_info
  obtain ⟨Z, hz, hzl⟩ : ∃ Z : List Value, (Try.prog.info? 35).bind (fun i => i.zero.map (·.cells)) = some Z.toArray ∧ Z.length = 16 := ⟨_, rpiece_zero, by simp⟩
  obtain ⟨D, hzd, hdl0⟩ : ∃ D : List Value, (Try.prog.info? 22).bind (fun i => i.zero.map (·.cells)) = some D.toArray ∧ D.length = 32 := ⟨_, arr_zero, by simp⟩
  have hsl : (bv seed).length = 32 := by rw [bv_length]; exact hs
  have hpl : ∀ m, (piecesM (halfM seed n) m).length = 16 * m := piecesM_length (f := halfM seed n) (fun _ => coverM_length _)
  have hall : piecesM (halfM seed n) 64 = allM seed n := half_rows seed n 32
  have hsec := fun (k : Nat) (hk : k < 32) (bt : Nat) (hbt : bt < 2) W => RSecret seed hs n hn k hk bt hbt W
  have hcov := fun (p : List UInt8) (hp : p.length = 16) W => RCover p hp W
  have hal : (allM seed n).length = 1024 := piecesM_length (f := rowM seed n) (fun k => rowM_length _ _ _) 32
  have hfor := fun v W F hp2 hF => RFor 2 2 rfl [allM seed n] (by simp [blob, be_length, hal]) v W F hp2 hF
  have hlm : sha (textM 2 [allM seed n]) = leafM seed n := rfl
  rw [hlm] at hfor
  have hrl : (bv (leafM seed n)).length = 32 := by rw [bv_length]; exact leafOf_length _
  have hro := bv_one (leafM seed n)
  have hts : (Try.prog.info? 25).map (·.size) = some tabsC.length := tabs_size rfl
  generalize tabsC = TB at *
  generalize bv (leafM seed n) = R at *
  have hb0 : Blk (((w.alloc (.cells TB.toArray 25)).alloc (.cells (bv seed).toArray 22)).alloc (.cells D.toArray 22)) w.heap.size 25 TB := ((Blk.new _ _ _).keep ((Ext.refl _).alloc _) (by simp)).keep ((Ext.refl _).alloc _) (by simp)
  have hb1 : Blk (((w.alloc (.cells TB.toArray 25)).alloc (.cells (bv seed).toArray 22)).alloc (.cells D.toArray 22)) (w.heap.size + 1) 22 (bv seed) := (Blk.fresh (by simp) _ _).keep ((Ext.refl _).alloc _) (by simp)
  have hb2 : Blk (((w.alloc (.cells TB.toArray 25)).alloc (.cells (bv seed).toArray 22)).alloc (.cells D.toArray 22)) (w.heap.size + 1 + 1) 22 D := Blk.fresh (by simp) _ _
  have hx0 : Ext w (((w.alloc (.cells TB.toArray 25)).alloc (.cells (bv seed).toArray 22)).alloc (.cells D.toArray 22)) := (((Ext.refl w).alloc _).alloc _).alloc _
  generalize bv seed = SC at *
  have HB0 := Lib.hid hb0
  have HB1 := Lib.hid hb1
  have HB2 := Lib.hid hb2
  have HX0 := Lib.hid hx0
  have HSL := Lib.hid hsl
  have HZL := Lib.hid hzl
  have HDL0 := Lib.hid hdl0
  have HPL := Lib.hid hpl
  have HALL := Lib.hid hall
  have HSEC := Lib.hid hsec
  have HCOV := Lib.hid hcov
  have HFOR := Lib.hid hfor
  have HRL := Lib.hid hrl
  have HTS := Lib.hid hts
  clear hb0 hb1 hb2 hx0 hsl hzl hdl0 hpl hall hsec hcov hfor hrl hts hlm hal
  go_enter Try.func12, Try.ntmps12
  go_wp2_with (first
    | (refine wpList_alloc _ rfl 22 rfl _ hzd ?_)
    | fail)
  go_loopw [7, 8, 9, 10] (fun u i j p wr => ∃ k : Nat, k ≤ 32 ∧ i = .int .i64 k ∧ OwnB wr u (piecesM (halfM seed n) (2 * k)) ∧ Ext w wr ∧ Blk wr w.heap.size 25 TB ∧ Blk wr (w.heap.size + 1) 22 SC ∧ Blk wr (w.heap.size + 1 + 1) 22 D ∧ ∀ b, u.ownBlock = some b → w.heap.size + 1 + 1 + 1 ≤ b) (fun _ i _ _ _ => 32 - (intOf i).toNat)
  case atStart => exact ⟨0, by omega, rfl, Own.nil _ _ _, HX0.out, HB0.out, HB1.out, HB2.out, fun b hb => by simp [Value.ownBlock] at hb⟩
  case round =>
    clear HX0 HB0 HB1 HB2
    obtain ⟨k, hk, rfl, hou, hx, hb0, hb1, hb2, hne⟩ := hrel
    obtain ⟨wo, hwo⟩ : ∃ wo, wo = wr := ⟨_, rfl⟩
    by_cases hlt : k < 32
    · subst hwo
      have HO := Lib.hid hou
      have HX := Lib.hid hx
      have HB0 := Lib.hid hb0
      have HB1 := Lib.hid hb1
      have HB2 := Lib.hid hb2
      have HNE := Lib.hid hne
      clear hou hx hb0 hb1 hb2 hne
      go_wp2_with fail
      have hdk0 : decide ((k : Int) < 32) = true := by rw [decide_eq_true_iff]; omega
      (try simp only [hdk0])
      clear hdk0
      go_loopw [7, 9, 10] (fun u i p wr => ∃ j : Nat, j ≤ 2 ∧ i = .int .i64 j ∧ OwnB wr u (piecesM (halfM seed n) (2 * k + j)) ∧ Ext w wr ∧ Blk wr w.heap.size 25 TB ∧ Blk wr (w.heap.size + 1) 22 SC ∧ Blk wr (w.heap.size + 1 + 1) 22 D ∧ ∀ b, u.ownBlock = some b → w.heap.size + 1 + 1 + 1 ≤ b) (fun _ i _ _ => 2 - (intOf i).toNat)
      case atStart => exact ⟨0, by omega, rfl, HO.out, HX.out, HB0.out, HB1.out, HB2.out, HNE.out⟩
      case round =>
        clear HO HX HB0 HB1 HB2 HNE
        obtain ⟨j, hj, rfl, hou, hx, hb0, hb1, hb2, hne⟩ := hrel
        by_cases hlj : j < 2
        · have hsc := fun W => HSEC.out k hlt j hlj W
          have hcv := fun W => HCOV.out (secretM seed n k j) (secretM_length _ _ _ _) W
          have hcl : (bv (coverM (secretM seed n k j))).length = 16 := by rw [bv_length, coverM_length]
          have hco := bv_one (coverM (secretM seed n k j))
          have hst : piecesM (halfM seed n) (2 * k + (j + 1)) = piecesM (halfM seed n) (2 * k + j) ++ coverM (secretM seed n k j) := by
            rw [← Nat.add_assoc, piecesM_succ]
            unfold halfM
            rw [show (2 * k + j) / 2 = k by omega, show (2 * k + j) % 2 = j by omega]
          have hpk := HPL.out (2 * k + j)
          have hcvl := coverM_length (secretM seed n k j)
          generalize bv (secretM seed n k j) = S1 at *
          generalize hcvb : coverM (secretM seed n k j) = CB at *
          generalize hCV : bv CB = CV at *
          have HSC := Lib.hid hsc
          have HCV := Lib.hid hcv
          have HCL := Lib.hid hcl
          have HST := Lib.hid hst
          have HPK := Lib.hid hpk
          have HCVE := Lib.hid hCV
          have HCBL := Lib.hid hcvl
          have HOUr := Lib.hid hou
          have HX := Lib.hid hx
          have HB0 : Hid (Blk wr.drew w.heap.size 25 TB) := Lib.hid hb0
          have HB1 : Hid (Blk wr.drew (w.heap.size + 1) 22 SC) := Lib.hid hb1
          have HB2 : Hid (Blk wr.drew (w.heap.size + 1 + 1) 22 D) := Lib.hid hb2
          have HNE := Lib.hid hne
          have HLTU := Lib.hid (OwnB.lt hou)
          clear hsc hcv hcl hst hpk hCV hcvl hou hx hb0 hb1 hb2 hne hcvb
          go_wp2_with fail
          have hdk : decide ((k : Int) < 32) = true := by rw [decide_eq_true_iff]; omega
          have hdj : decide ((j : Int) < 2) = true := by rw [decide_eq_true_iff]; omega
          (try simp only [hdk])
          (try simp only [hdj])
          clear hdk hdj
          refine stab_store Ext ext_refl ext_trans [[0], [1], [2], [3], [4], [5], [1, 2, 3, 4, 5, 6], [0, 1, 2, 3, 4, 5, 6, 7], [8], [0, 1, 2, 3, 4, 5, 6, 7, 8, 9]] (fun i v wv => match i with | 0 => v = .agg TB.toArray | 1 => v = .agg TB.toArray | 2 => v = .agg SC.toArray | 3 => v = .int .u32 (n : Int) | 4 => v = .int .i64 (k : Int) | 5 => v = .int .i64 (j : Int) | 6 => v = .agg S1.toArray | 7 => v = .agg CV.toArray | 8 => ∃ g, v = .pointer (some ⟨g, 0, none⟩) ∧ wr.heap.size ≤ g ∧ Blk wv g 35 Z | _ => True) (by kernel_rfl) (by kernel_rfl) (by kernel_rfl) (by kernel_rfl) (by simp) ?_ ?_ ?_
          · intro i v w1 w2 h hx
            match i, h with
            | 0, h => exact h
            | 1, h => exact h
            | 2, h => exact h
            | 3, h => exact h
            | 4, h => exact h
            | 5, h => exact h
            | 6, h => exact h
            | 7, h => exact h
            | 8, h =>
              replace h : ∃ g, v = .pointer (some ⟨g, 0, none⟩) ∧ wr.heap.size ≤ g ∧ Blk w1 g 35 Z := h
              show ∃ g, v = .pointer (some ⟨g, 0, none⟩) ∧ wr.heap.size ≤ g ∧ Blk w2 g 35 Z
              obtain ⟨g, h1, h2, h3⟩ := h
              exact ⟨g, h1, h2, h3.keep hx (by simp)⟩
            | i + 9, h => trivial
          · intro i hi o ho
            match i, hi, ho with
            | 0, _, ho =>
              obtain rfl := Option.some.inj ho
              intro s W hX hd K hK
              rw [if_pos (wanted_plain rfl)]
              clear hd
              replace hK : ∀ (v : Value) (W' : World), Ext W W' → (v = .agg TB.toArray) → _ := hK
              simp only [mkOf, List.map_cons, List.map_nil, Act.put, List.setIfInBounds_toArray, List.set_cons_succ, List.set_cons_zero, Nat.reduceAdd, Nat.zero_add] at hK ⊢
              refine wp_load_agg 25 (.tmp 3) rfl _ rfl TB _ Try.underlying25 rfl HTS.out (HB0.out.keep hX (by simp)).cells ?_
              exact hK _ _ (Ext.refl _) rfl
            | 1, _, ho =>
              obtain rfl := Option.some.inj ho
              intro s W hX hd K hK
              rw [if_pos (wanted_plain rfl)]
              clear hd
              replace hK : ∀ (v : Value) (W' : World), Ext W W' → (v = .agg TB.toArray) → _ := hK
              simp only [mkOf, List.map_cons, List.map_nil, Act.put, List.setIfInBounds_toArray, List.set_cons_succ, List.set_cons_zero, Nat.reduceAdd, Nat.zero_add] at hK ⊢
              refine wp_load_agg 25 (.tmp 3) rfl _ rfl TB _ Try.underlying25 rfl HTS.out (HB0.out.keep hX (by simp)).cells ?_
              exact hK _ _ (Ext.refl _) rfl
            | 2, _, ho =>
              obtain rfl := Option.some.inj ho
              intro s W hX hd K hK
              rw [if_pos (wanted_plain rfl)]
              clear hd
              replace hK : ∀ (v : Value) (W' : World), Ext W W' → (v = .agg SC.toArray) → _ := hK
              simp only [mkOf, List.map_cons, List.map_nil, Act.put, List.setIfInBounds_toArray, List.set_cons_succ, List.set_cons_zero, Nat.reduceAdd, Nat.zero_add] at hK ⊢
              refine wp_load_agg 22 (.tmp 4) rfl _ rfl SC _ Try.underlying22 rfl (arr_size HSL.out) (HB1.out.keep hX (by simp)).cells ?_
              exact hK _ _ (Ext.refl _) rfl
            | 3, _, ho =>
              obtain rfl := Option.some.inj ho
              intro s W hX hd K hK
              rw [if_pos (wanted_plain rfl)]
              clear hd
              replace hK : ∀ (v : Value) (W' : World), Ext W W' → (v = .int .u32 (n : Int)) → _ := hK
              simp only [mkOf, List.map_cons, List.map_nil, Act.put, List.setIfInBounds_toArray, List.set_cons_succ, List.set_cons_zero, Nat.reduceAdd, Nat.zero_add] at hK ⊢
              go_simp
              exact hK _ _ (Ext.refl _) rfl
            | 4, _, ho =>
              obtain rfl := Option.some.inj ho
              intro s W hX hd K hK
              rw [if_pos (wanted_plain rfl)]
              clear hd
              replace hK : ∀ (v : Value) (W' : World), Ext W W' → (v = .int .i64 (k : Int)) → _ := hK
              simp only [mkOf, List.map_cons, List.map_nil, Act.put, List.setIfInBounds_toArray, List.set_cons_succ, List.set_cons_zero, Nat.reduceAdd, Nat.zero_add] at hK ⊢
              go_simp
              exact hK _ _ (Ext.refl _) rfl
            | 5, _, ho =>
              obtain rfl := Option.some.inj ho
              intro s W hX hd K hK
              rw [if_pos (wanted_plain rfl)]
              clear hd
              replace hK : ∀ (v : Value) (W' : World), Ext W W' → (v = .int .i64 (j : Int)) → _ := hK
              simp only [mkOf, List.map_cons, List.map_nil, Act.put, List.setIfInBounds_toArray, List.set_cons_succ, List.set_cons_zero, Nat.reduceAdd, Nat.zero_add] at hK ⊢
              go_simp
              exact hK _ _ (Ext.refl _) rfl
            | 6, _, ho =>
              obtain rfl := Option.some.inj ho
              intro s W hX hd K hK
              rw [if_pos (wanted_plain rfl)]
              have d20 : (s 1) = .agg TB.toArray := hd 1 (by decide) (by decide)
              have d21 : (s 2) = .agg SC.toArray := hd 2 (by decide) (by decide)
              have d22 : (s 3) = .int .u32 (n : Int) := hd 3 (by decide) (by decide)
              have d23 : (s 4) = .int .i64 (k : Int) := hd 4 (by decide) (by decide)
              have d24 : (s 5) = .int .i64 (j : Int) := hd 5 (by decide) (by decide)
              clear hd
              replace hK : ∀ (v : Value) (W' : World), Ext W W' → (v = .agg S1.toArray) → _ := hK
              simp only [mkOf, List.map_cons, List.map_nil, Act.put, List.setIfInBounds_toArray, List.set_cons_succ, List.set_cons_zero, Nat.reduceAdd, Nat.zero_add] at hK ⊢
              simp only [d20, d21, d22, d23, d24] at hK ⊢
              go_simp
              refine (HSC.out W).mono ?_
              rintro e w' ⟨rfl, hx⟩
              exact hK _ _ hx rfl
            | 7, _, ho =>
              obtain rfl := Option.some.inj ho
              intro s W hX hd K hK
              rw [if_pos (wanted_plain rfl)]
              have d19 : (s 0) = .agg TB.toArray := hd 0 (by decide) (by decide)
              have d25 : (s 6) = .agg S1.toArray := hd 6 (by decide) (by decide)
              clear hd
              replace hK : ∀ (v : Value) (W' : World), Ext W W' → (v = .agg CV.toArray) → _ := hK
              simp only [mkOf, List.map_cons, List.map_nil, Act.put, List.setIfInBounds_toArray, List.set_cons_succ, List.set_cons_zero, Nat.reduceAdd, Nat.zero_add] at hK ⊢
              simp only [d19, d25] at hK ⊢
              go_simp
              refine (HCV.out W).mono ?_
              rintro e w' ⟨rfl, hx⟩
              exact hK _ _ hx rfl
            | 8, _, ho =>
              obtain rfl := Option.some.inj ho
              intro s W hX hd K hK
              rw [if_pos (wanted_plain rfl)]
              clear hd
              replace hK : ∀ (v : Value) (W' : World), Ext W W' → (∃ g, v = .pointer (some ⟨g, 0, none⟩) ∧ wr.heap.size ≤ g ∧ Blk W' g 35 Z) → _ := hK
              simp only [mkOf, List.map_cons, List.map_nil, Act.put, List.setIfInBounds_toArray, List.set_cons_succ, List.set_cons_zero, Nat.reduceAdd, Nat.zero_add] at hK ⊢
              refine wp_alloc_agg 35 rfl Z hz ?_
              exact hK _ _ ((Ext.refl _).alloc _) ⟨_, rfl, by have := hX.size; simpa using this, Blk.new _ _ _⟩
            | i + 9, hi, _ => exact absurd hi (by simp)
          · intro o ho
            obtain rfl := Option.some.inj ho
            intro s W hX hd K hK
            rw [if_pos (wanted_plain rfl)]
            have d19 : (s 0) = .agg TB.toArray := hd 0 (by decide)
            have d20 : (s 1) = .agg TB.toArray := hd 1 (by decide)
            have d21 : (s 2) = .agg SC.toArray := hd 2 (by decide)
            have d22 : (s 3) = .int .u32 (n : Int) := hd 3 (by decide)
            have d23 : (s 4) = .int .i64 (k : Int) := hd 4 (by decide)
            have d24 : (s 5) = .int .i64 (j : Int) := hd 5 (by decide)
            have d25 : (s 6) = .agg S1.toArray := hd 6 (by decide)
            have d26 : (s 7) = .agg CV.toArray := hd 7 (by decide)
            have d10 : ∃ g, (s 8) = .pointer (some ⟨g, 0, none⟩) ∧ wr.heap.size ≤ g ∧ Blk W g 35 Z := hd 8 (by decide)
            clear hd
            simp only [mkOf, List.map_cons, List.map_nil, Act.put, List.setIfInBounds_toArray, List.set_cons_succ, List.set_cons_zero, Nat.reduceAdd, Nat.zero_add]
            obtain ⟨g, hg, hgb, hB⟩ := d10
            rw [hg]
            refine wp_store_row 35 (.tmp 10) (.tmp 26) rfl g rfl Z CV _ (by simpa [Act.eval] using d26) hB (rpiece_size HCL.out) (by rw [HCL.out, HZL.out]) hco ?_
            refine hK _ _ ?_
            have hV : Ext wr (W.setRow g CV.toArray) := setRow_grown ((Ext.refl wr).drew.trans hX) _ _ hgb
            have hgV : Blk (W.setRow g CV.toArray) g 35 CV := setRow_at hB
            generalize W.setRow g CV.toArray = V at *
            have HVX := Lib.hid hV
            have HCG := Lib.hid hgV.cells
            have HOU := Lib.hid (HOUr.out.ext hV)
            clear hK hX hV hgV hB d19 d20 d21 d22 d23 d24 d25 d26
            (try simp only [Exit.then])
            go_wp2_with (first
              | (at_builtin
                 refine wpList_app _ rfl (.tmp 27) (.tmp 28) _ _ rfl 5 5 i0 _ 1 1 Try.underlying55 Try.underlying55 hi hz0 hz1 hz2 rfl (by decide) u7 _ _ rfl HOU.out _ 16 16 CV rfl (by rw [HCL.out]) (fun _ => ⟨_, rfl, HCG.out⟩) hco (by rw [HPK.out]; unfold maxLen; omega) (by rw [HPK.out]; omega) ?_
                 intro v9 w9 ho9 hm9)
              | fail)
            have hfr : ∀ b, u7.ownBlock = some b → w.heap.size ≤ b := fun b hb => by have := HNE.out b hb; omega
            have hx9 : Ext w w9 := grown_then (HX.out.trans HVX.out) hm9.grown (.inr hfr)
            have kk : ∀ {h : Nat} {t : TypeId} {cs : List Value}, Blk wr h t cs → h < w.heap.size + 1 + 1 + 1 → Blk w9 h t cs := fun h hg => (h.keep HVX.out (by simp)).keep hm9.grown (fun e => by have := HNE.out _ e.symm; omega)
            have HB90 := Lib.hid (kk (t := 25) HB0.out (by omega))
            have HB91 := Lib.hid (kk (t := 22) HB1.out (by omega))
            have HB92 := Lib.hid (kk (t := 22) HB2.out (by omega))
            have HN9 : Hid (∀ b, v9.ownBlock = some b → w.heap.size + 1 + 1 + 1 ≤ b) := Lib.hid fun b hb => by
              rcases hm9.at_ with e | hn
              · exact HNE.out b (e.symm.trans hb)
              · have h1 := hn b hb
                have h2 := HVX.out.size
                have h3 := Blk.lt (w := wr) (t := 22) HB2.out
                omega
            have HO9 : Hid (OwnB w9 v9 (piecesM (halfM seed n) (2 * k + (j + 1)))) := Lib.hid (by
              rw [HST.out]
              unfold OwnB
              rw [bv_append, HCVE.out, List.length_append, HCBL.out]
              exact ho9)
            have HX9 := Lib.hid hx9
            clear hx9 kk ho9 hm9 hfr
            go_wp2_with fail
            go_roundw
            case rel => exact ⟨j + 1, by omega, by go_num, HO9.out, HX9.out, HB90.out, HB91.out, HB92.out, HN9.out⟩
            case measure => simp [intOf]; omega
        · obtain rfl : j = 2 := by omega
          have HO9 := Lib.hid hou
          have HX9 := Lib.hid hx
          have HB90 := Lib.hid hb0
          have HB91 := Lib.hid hb1
          have HB92 := Lib.hid hb2
          have HN9 := Lib.hid hne
          clear hou hx hb0 hb1 hb2 hne
          go_wp2_with fail
          go_roundw
          case rel => exact ⟨k + 1, by omega, by go_num, by rw [show 2 * (k + 1) = 2 * k + 2 by omega]; exact HO9.out, HX9.out, HB90.out, HB91.out, HB92.out, HN9.out⟩
          case measure => simp [intOf]; omega
    · obtain rfl : k = 32 := by omega
      rw [show 2 * 32 = 64 from rfl, HALL.out] at hou
      obtain ⟨A, c, hv⟩ := OwnB.form hou
      subst hv
      have h1 := hou.holds
      have hlt1 := OwnB.lt hou
      obtain ⟨F, hp9, hF9⟩ := one_part (T := 55) h1 hlt1
      have hct := hb0.cells
      have HF9 := Lib.hid (HFOR.out _ _ F hp9 hF9)
      have HX := Lib.hid (hx.alloc (.cells #[Value.slice A (allM seed n).length c] 55))
      have HB3 := Lib.hid (hb2.keep ((Ext.refl wr).alloc (.cells #[Value.slice A (allM seed n).length c] 55)) (by simp))
      clear hx hb0 hb1 hb2 hou h1 hlt1 hp9 hF9 hne
      generalize (allM seed n).length = m at *
      clear hwo
      go_wp2_with (first
        | (refine wpList_load_agg _ rfl 25 (.tmp 3) rfl _ rfl TB _ Try.underlying25 rfl HTS.out hct ?_)
        | fail)
      refine (HF9.out).mono ?_
      rintro e w4 ⟨rfl, hx4⟩
      have hr4 : w4.heap[w.heap.size + 1 + 1]? = some (.cells D.toArray 22 (0, 0)) := HB3.out.keep hx4 (by simp)
      have hx5 := HX.out.trans hx4
      go_wp2_with (first
        | (refine wpList_store_row _ rfl 22 (.tmp 6) (.tmp 33) rfl (w.heap.size + 1 + 1) rfl D R _ rfl hr4 (arr_size HRL.out) (by rw [HRL.out, HDL0.out]) hro ?_)
        | fail)
      have hc9 := Blk.cells (t := 22) (setRow_at (cs' := R.toArray) hr4)
      (try simp only [Exit.inBlock, Exit.then])
      refine bodyPost_ret (results_agg rfl _ _ _ _ _ rfl Try.underlying22 rfl (arr_size HRL.out) hc9) rfl ?_
      exact ⟨rfl, setRow_grown hx5 _ _ (by omega)⟩
end Go.Proofs.Ytfoomnibfibfnaa

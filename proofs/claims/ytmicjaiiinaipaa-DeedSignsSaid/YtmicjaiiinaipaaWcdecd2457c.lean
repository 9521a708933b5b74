/- Walks and plain laws, put together in build order. Conditions: what each of them names. -/
import Derived.Test.YtmicjaiiinaipaaW351edf4225
set_option linter.unusedVariables false
set_option linter.unusedSimpArgs false
set_option linter.unnecessarySimpa false
namespace Go.Proofs.Ytmicjaiiinaipaa
section
open Go.RowKit

theorem roots_size {n : Nat} (h : n = 65) : (Try.prog.info? 79).map (·.size) = some n := by subst h; kernel_rfl
set_option maxRecDepth 100000 in
set_option maxHeartbeats 8000000 in
theorem DRight0 (RC : List Value) (hRL : RC.length = 65) (rr : Dg) (hrl : List.length (α := UInt8) rr = 32) (hrr : (RC.drop 0).take 32 = bv rr) (tall : Nat) (htall : tall ≤ 8) (hrt : RC[64]? = some (.int .i64 (tall : Int)))
    (s0 : St) (hw : StWf s0) (u : Value) (F : Fp) (w : World) (hc : Conds w F u s0.cs) (hF : ∀ b, F b → b < w.heap.size) (hlen : List.length (α := Cd) s0.cs ≤ 1000) (hr : s0.round < 2147483648)
    (S : List UInt8) (hS : S.length = 1024) (keyS : Nat) (v : Value) (ds : List Dg) (F2 : Fp) (hv : Ways w F2 v ds) (hF2 : ∀ b, F2 b → b < w.heap.size) (hdl : List.length (α := Dg) ds ≤ 1099511627776) (hkeyS : (Lit.int .u32 (keyS : Int)).wf = true) :
    Calls Try.prog 23 #[.agg RC.toArray, .int .i64 0, stv s0 u, .agg (sigC (bv S) keyS v).toArray] w fun e w' => e = .returned (.bool (rightM S keyS ds rr (tall : Int) s0.round (sumD s0))) ∧ Ext w w' := by
  have hkwf : (Lit.int .u32 (s0.round : Int)).wf = true := Go.WalkArith.wf_u32 (by omega)
  have htwf : (Lit.int .i64 (tall : Int)).wf = true := Go.WalkArith.wf_i64 (by omega)
  have hri0 := fun W (hx : Ext w W) => Right S hS keyS v ds rr hrl (sumD s0) (sha_length _) F2 W (hx.holds hF2 hv) (fun b hb => Nat.lt_of_lt_of_le (hF2 b hb) hx.size) hdl hkeyS (tall : Int) htwf s0.round hkwf
  have hsum0 := fun W (hx : Ext w W) => DSum s0 hw u F W (hx.holds hF hc) (fun b hb => Nat.lt_of_lt_of_le (hF b hb) hx.size) hlen
  have hkey := fun W => DKey s0.round hr W
  obtain ⟨A, c, xs, rfl, hlc, hcm, -⟩ := conds_open hc
  obtain ⟨SC, hSC⟩ : ∃ SC, SC = stc s0 (.slice A (List.length (α := Cd) s0.cs) c) := ⟨_, rfl⟩
  have hst : stv s0 (.slice A (List.length (α := Cd) s0.cs) c) = .agg SC.toArray := by rw [hSC]; rfl
  have hscl : SC.length = 7 := by rw [hSC]; rfl
  have hs1 : SC[1]? = some (.int .u64 (s0.round : Int)) := by rw [hSC]; rfl
  rw [hst] at hsum0 ⊢
  have hgl := sigC_len (show (bv S).length = 1024 by rw [bv_length]; exact hS) keyS v
  have hrdl : (bv rr).length = 32 := by rw [bv_length]; exact hrl
  generalize sigC (bv S) keyS v = GC at *
  generalize rightM S keyS ds rr (tall : Int) s0.round (sumD s0) = B at *
  generalize bv (sumD s0) = DD at *
  generalize bv rr = RD at *
  have hx0 : Ext w (((w.alloc (.cells RC.toArray 79)).alloc (.cells SC.toArray 40)).alloc (.cells GC.toArray 70)).drew := ((((Ext.refl w).alloc _).alloc _).alloc _).drew
  have hbr : Blk (((w.alloc (.cells RC.toArray 79)).alloc (.cells SC.toArray 40)).alloc (.cells GC.toArray 70)).drew w.heap.size 79 RC := (Blk.new _ _ _).keep (((Ext.refl _).alloc _).alloc _).drew (by simp)
  have hbs : Blk (((w.alloc (.cells RC.toArray 79)).alloc (.cells SC.toArray 40)).alloc (.cells GC.toArray 70)).drew (w.heap.size + 1) 40 SC := (Blk.new_at (by simp) _ _).keep ((Ext.refl _).alloc (.cells GC.toArray 70)).drew (by simp)
  have hbg : Blk (((w.alloc (.cells RC.toArray 79)).alloc (.cells SC.toArray 40)).alloc (.cells GC.toArray 70)).drew (w.heap.size + 2) 70 GC := Blk.new_at (by simp) _ _
  have hcr : ∀ W, Ext (((w.alloc (.cells RC.toArray 79)).alloc (.cells SC.toArray 40)).alloc (.cells GC.toArray 70)).drew W → Cells W ⟨w.heap.size, 0, none⟩ RD := fun W hX => by
    have h := ((hbr.keep hX (by simp)).cells.drop 0).take 32
    rw [hrr] at h
    exact h
  have hsum := fun W (hX : Ext (((w.alloc (.cells RC.toArray 79)).alloc (.cells SC.toArray 40)).alloc (.cells GC.toArray 70)).drew W) => hsum0 W (hx0.trans hX)
  have hri := fun W (hX : Ext (((w.alloc (.cells RC.toArray 79)).alloc (.cells SC.toArray 40)).alloc (.cells GC.toArray 70)).drew W) => hri0 W (hx0.trans hX)
  have HX0 := Lib.hid hx0
  have HBR := Lib.hid hbr
  have HBS := Lib.hid hbs
  have HBG := Lib.hid hbg
  have HCR := Lib.hid hcr
  have HSUM := Lib.hid hsum
  have HRI := Lib.hid hri
  have HKEY := Lib.hid hkey
  have HRT := Lib.hid hrt
  have HS1 := Lib.hid hs1
  have HGL := Lib.hid hgl
  have HRDL := Lib.hid hrdl
  have HSCL := Lib.hid hscl
  clear hx0 hbr hbs hbg hcr hsum hri hkey hrt hs1 hgl hrdl hscl hsum0 hri0 hst hSC hc hlc hcm hw hF hlen hrr hrl hS hv hF2 hdl hkeyS hkwf htwf hRL htall hr
  go_enter Try.func23, Try.ntmps23
  go_wp2_with fail
  (try simp only [World.size_alloc])
  generalize (((w.alloc (.cells RC.toArray 79)).alloc (.cells SC.toArray 40)).alloc (.cells GC.toArray 70)) = wz at *
  refine stab_plain Ext ext_refl ext_trans [[0], [1], [2], [1, 2, 3], [1, 2, 3, 4], [5], [5, 6], [7], [7, 8], [7, 8, 9], [10], [7, 8, 9, 10, 11], [0, 1, 2, 3, 4, 5, 6, 7, 8, 9, 10, 11, 12], [0, 1, 2, 3, 4, 5, 6, 7, 8, 9, 10, 11, 12, 13]] (fun i v wv => match i with | 0 => v = .agg GC.toArray | 1 => v = .int .i64 0 | 2 => v = .pointer (some ⟨w.heap.size, 0, none⟩) | 3 => v = .pointer (some ⟨w.heap.size, 0, none⟩) | 4 => v = .agg RD.toArray | 5 => v = .pointer (some ⟨w.heap.size, 64, none⟩) | 6 => v = .int .i64 (tall : Int) | 7 => v = .pointer (some ⟨w.heap.size + 1, 1, none⟩) | 8 => v = .int .u64 (s0.round : Int) | 9 => v = .int .u32 (s0.round : Int) | 10 => v = .agg SC.toArray | 11 => v = .agg DD.toArray | 12 => v = .bool B | 13 => v = .bool B | _ => True) (by kernel_rfl) (by kernel_rfl) (by kernel_rfl) ?_ ?_ ?_
  · intro i v w1 w2 h hx
    match i, h with
    | 0, h => exact h
    | 1, h => exact h
    | 2, h => exact h
    | 3, h => exact h
    | 4, h => exact h
    | 5, h => exact h
    | 6, h => exact h
    | 7, h => exact h
    | 8, h => exact h
    | 9, h => exact h
    | 10, h => exact h
    | 11, h => exact h
    | 12, h => exact h
    | 13, h => exact h
    | i + 14, h => trivial
  · intro i hi o ho
    match i, hi, ho with
    | 0, _, ho =>
      obtain rfl := Option.some.inj ho
      intro s W hX hd K hK
      rw [if_pos (wanted_plain rfl)]
      clear hd
      replace hK : ∀ (v : Value) (W' : World), Ext W W' → (v = .agg GC.toArray) → _ := hK
      simp only [mkOf, List.map_cons, List.map_nil, Act.put, List.setIfInBounds_toArray, List.set_cons_succ, List.set_cons_zero, Nat.reduceAdd, Nat.zero_add] at hK ⊢
      refine wp_load_aggD 70 (.tmp 7) rfl _ rfl GC _ Try.underlying70 rfl (szOutTo05 HGL.out) (HBG.out.keep hX (by simp)).cells ?_
      exact hK _ _ (Ext.refl _) rfl
    | 1, _, ho =>
      obtain rfl := Option.some.inj ho
      intro s W hX hd K hK
      rw [if_pos (wanted_plain rfl)]
      clear hd
      replace hK : ∀ (v : Value) (W' : World), Ext W W' → (v = .int .i64 0) → _ := hK
      simp only [mkOf, List.map_cons, List.map_nil, Act.put, List.setIfInBounds_toArray, List.set_cons_succ, List.set_cons_zero, Nat.reduceAdd, Nat.zero_add] at hK ⊢
      go_simp
      exact hK _ _ (Ext.refl _) rfl
    | 2, _, ho =>
      obtain rfl := Option.some.inj ho
      intro s W hX hd K hK
      rw [if_pos (wanted_plain rfl)]
      clear hd
      replace hK : ∀ (v : Value) (W' : World), Ext W W' → (v = .pointer (some ⟨w.heap.size, 0, none⟩)) → _ := hK
      simp only [mkOf, List.map_cons, List.map_nil, Act.put, List.setIfInBounds_toArray, List.set_cons_succ, List.set_cons_zero, Nat.reduceAdd, Nat.zero_add] at hK ⊢
      go_simp
      exact hK _ _ (Ext.refl _) rfl
    | 3, _, ho =>
      obtain rfl := Option.some.inj ho
      intro s W hX hd K hK
      rw [if_pos (wanted_plain rfl)]
      have d16 : (s 1) = .int .i64 0 := hd 1 (by decide) (by decide)
      have d17 : (s 2) = .pointer (some ⟨w.heap.size, 0, none⟩) := hd 2 (by decide) (by decide)
      clear hd
      replace hK : ∀ (v : Value) (W' : World), Ext W W' → (v = .pointer (some ⟨w.heap.size, 0, none⟩)) → _ := hK
      simp only [mkOf, List.map_cons, List.map_nil, Act.put, List.setIfInBounds_toArray, List.set_cons_succ, List.set_cons_zero, Nat.reduceAdd, Nat.zero_add] at hK ⊢
      simp only [d16, d17] at hK ⊢
      go_simp
      exact hK _ _ (Ext.refl _) rfl
    | 4, _, ho =>
      obtain rfl := Option.some.inj ho
      intro s W hX hd K hK
      rw [if_pos (wanted_plain rfl)]
      have d18 : (s 3) = .pointer (some ⟨w.heap.size, 0, none⟩) := hd 3 (by decide) (by decide)
      clear hd
      replace hK : ∀ (v : Value) (W' : World), Ext W W' → (v = .agg RD.toArray) → _ := hK
      simp only [mkOf, List.map_cons, List.map_nil, Act.put, List.setIfInBounds_toArray, List.set_cons_succ, List.set_cons_zero, Nat.reduceAdd, Nat.zero_add] at hK ⊢
      simp only [d18] at hK ⊢
      refine wp_load_aggD 52 (.tmp 18) rfl _ rfl RD _ Try.underlying52 rfl (digest_size HRDL.out) (HCR.out W hX) ?_
      exact hK _ _ (Ext.refl _) rfl
    | 5, _, ho =>
      obtain rfl := Option.some.inj ho
      intro s W hX hd K hK
      rw [if_pos (wanted_plain rfl)]
      clear hd
      replace hK : ∀ (v : Value) (W' : World), Ext W W' → (v = .pointer (some ⟨w.heap.size, 64, none⟩)) → _ := hK
      simp only [mkOf, List.map_cons, List.map_nil, Act.put, List.setIfInBounds_toArray, List.set_cons_succ, List.set_cons_zero, Nat.reduceAdd, Nat.zero_add] at hK ⊢
      go_simp
      exact hK _ _ (Ext.refl _) rfl
    | 6, _, ho =>
      obtain rfl := Option.some.inj ho
      intro s W hX hd K hK
      rw [if_pos (wanted_plain rfl)]
      have d20 : (s 5) = .pointer (some ⟨w.heap.size, 64, none⟩) := hd 5 (by decide) (by decide)
      clear hd
      replace hK : ∀ (v : Value) (W' : World), Ext W W' → (v = .int .i64 (tall : Int)) → _ := hK
      simp only [mkOf, List.map_cons, List.map_nil, Act.put, List.setIfInBounds_toArray, List.set_cons_succ, List.set_cons_zero, Nat.reduceAdd, Nat.zero_add] at hK ⊢
      simp only [d20] at hK ⊢
      have c64 := ((HBR.out.keep hX (by simp)).cell 64).trans HRT.out
      go_simp
      exact hK _ _ (Ext.refl _) rfl
    | 7, _, ho =>
      obtain rfl := Option.some.inj ho
      intro s W hX hd K hK
      rw [if_pos (wanted_plain rfl)]
      clear hd
      replace hK : ∀ (v : Value) (W' : World), Ext W W' → (v = .pointer (some ⟨w.heap.size + 1, 1, none⟩)) → _ := hK
      simp only [mkOf, List.map_cons, List.map_nil, Act.put, List.setIfInBounds_toArray, List.set_cons_succ, List.set_cons_zero, Nat.reduceAdd, Nat.zero_add] at hK ⊢
      go_simp
      exact hK _ _ (Ext.refl _) rfl
    | 8, _, ho =>
      obtain rfl := Option.some.inj ho
      intro s W hX hd K hK
      rw [if_pos (wanted_plain rfl)]
      have d22 : (s 7) = .pointer (some ⟨w.heap.size + 1, 1, none⟩) := hd 7 (by decide) (by decide)
      clear hd
      replace hK : ∀ (v : Value) (W' : World), Ext W W' → (v = .int .u64 (s0.round : Int)) → _ := hK
      simp only [mkOf, List.map_cons, List.map_nil, Act.put, List.setIfInBounds_toArray, List.set_cons_succ, List.set_cons_zero, Nat.reduceAdd, Nat.zero_add] at hK ⊢
      simp only [d22] at hK ⊢
      have c1 := ((HBS.out.keep hX (by simp)).cell 1).trans HS1.out
      go_simp
      exact hK _ _ (Ext.refl _) rfl
    | 9, _, ho =>
      obtain rfl := Option.some.inj ho
      intro s W hX hd K hK
      rw [if_pos (wanted_plain rfl)]
      have d23 : (s 8) = .int .u64 (s0.round : Int) := hd 8 (by decide) (by decide)
      clear hd
      replace hK : ∀ (v : Value) (W' : World), Ext W W' → (v = .int .u32 (s0.round : Int)) → _ := hK
      simp only [mkOf, List.map_cons, List.map_nil, Act.put, List.setIfInBounds_toArray, List.set_cons_succ, List.set_cons_zero, Nat.reduceAdd, Nat.zero_add] at hK ⊢
      simp only [d23] at hK ⊢
      go_simp
      refine (HKEY.out _).mono ?_
      rintro e w' ⟨rfl, hx⟩
      exact hK _ _ hx rfl
    | 10, _, ho =>
      obtain rfl := Option.some.inj ho
      intro s W hX hd K hK
      rw [if_pos (wanted_plain rfl)]
      clear hd
      replace hK : ∀ (v : Value) (W' : World), Ext W W' → (v = .agg SC.toArray) → _ := hK
      simp only [mkOf, List.map_cons, List.map_nil, Act.put, List.setIfInBounds_toArray, List.set_cons_succ, List.set_cons_zero, Nat.reduceAdd, Nat.zero_add] at hK ⊢
      refine wp_load_aggD 40 (.tmp 6) rfl _ rfl SC _ Try.underlying40 rfl (szStD HSCL.out) (HBS.out.keep hX (by simp)).cells ?_
      exact hK _ _ (Ext.refl _) rfl
    | 11, _, ho =>
      obtain rfl := Option.some.inj ho
      intro s W hX hd K hK
      rw [if_pos (wanted_plain rfl)]
      have d25 : (s 10) = .agg SC.toArray := hd 10 (by decide) (by decide)
      clear hd
      replace hK : ∀ (v : Value) (W' : World), Ext W W' → (v = .agg DD.toArray) → _ := hK
      simp only [mkOf, List.map_cons, List.map_nil, Act.put, List.setIfInBounds_toArray, List.set_cons_succ, List.set_cons_zero, Nat.reduceAdd, Nat.zero_add] at hK ⊢
      simp only [d25] at hK ⊢
      go_simp
      refine (HSUM.out _ hX).mono ?_
      rintro e w' ⟨rfl, hx⟩
      exact hK _ _ hx rfl
    | 12, _, ho =>
      obtain rfl := Option.some.inj ho
      intro s W hX hd K hK
      rw [if_pos (wanted_plain rfl)]
      have d15 : (s 0) = .agg GC.toArray := hd 0 (by decide) (by decide)
      have d19 : (s 4) = .agg RD.toArray := hd 4 (by decide) (by decide)
      have d21 : (s 6) = .int .i64 (tall : Int) := hd 6 (by decide) (by decide)
      have d24 : (s 9) = .int .u32 (s0.round : Int) := hd 9 (by decide) (by decide)
      have d26 : (s 11) = .agg DD.toArray := hd 11 (by decide) (by decide)
      clear hd
      replace hK : ∀ (v : Value) (W' : World), Ext W W' → (v = .bool B) → _ := hK
      simp only [mkOf, List.map_cons, List.map_nil, Act.put, List.setIfInBounds_toArray, List.set_cons_succ, List.set_cons_zero, Nat.reduceAdd, Nat.zero_add] at hK ⊢
      simp only [d15, d19, d21, d24, d26] at hK ⊢
      go_simp
      refine (HRI.out _ hX).mono ?_
      rintro e w' ⟨rfl, hx⟩
      exact hK _ _ hx rfl
    | 13, _, ho =>
      obtain rfl := Option.some.inj ho
      intro s W hX hd K hK
      rw [if_pos (wanted_plain rfl)]
      have d27 : (s 12) = .bool B := hd 12 (by decide) (by decide)
      clear hd
      replace hK : ∀ (v : Value) (W' : World), Ext W W' → (v = .bool B) → _ := hK
      simp only [mkOf, List.map_cons, List.map_nil, Act.put, List.setIfInBounds_toArray, List.set_cons_succ, List.set_cons_zero, Nat.reduceAdd, Nat.zero_add] at hK ⊢
      simp only [d27] at hK ⊢
      go_simp
      exact hK _ _ (Ext.refl _) rfl
    | i + 14, hi, _ => exact absurd hi (by simp)
  · intro s W hX hd
    have d15 : (s 0) = .agg GC.toArray := hd 0 (by decide)
    have d16 : (s 1) = .int .i64 0 := hd 1 (by decide)
    have d17 : (s 2) = .pointer (some ⟨w.heap.size, 0, none⟩) := hd 2 (by decide)
    have d18 : (s 3) = .pointer (some ⟨w.heap.size, 0, none⟩) := hd 3 (by decide)
    have d19 : (s 4) = .agg RD.toArray := hd 4 (by decide)
    have d20 : (s 5) = .pointer (some ⟨w.heap.size, 64, none⟩) := hd 5 (by decide)
    have d21 : (s 6) = .int .i64 (tall : Int) := hd 6 (by decide)
    have d22 : (s 7) = .pointer (some ⟨w.heap.size + 1, 1, none⟩) := hd 7 (by decide)
    have d23 : (s 8) = .int .u64 (s0.round : Int) := hd 8 (by decide)
    have d24 : (s 9) = .int .u32 (s0.round : Int) := hd 9 (by decide)
    have d25 : (s 10) = .agg SC.toArray := hd 10 (by decide)
    have d26 : (s 11) = .agg DD.toArray := hd 11 (by decide)
    have d27 : (s 12) = .bool B := hd 12 (by decide)
    have d8 : (s 13) = .bool B := hd 13 (by decide)
    clear hd
    simp only [mkOf, List.map_cons, List.map_nil, Act.put, List.setIfInBounds_toArray, List.set_cons_succ, List.set_cons_zero, Nat.reduceAdd, Nat.zero_add]
    simp only [d8]
    (try simp only [Exit.then])
    go_wp2_with fail
    go_ret
    exact ⟨rfl, HX0.out.trans hX⟩
set_option maxRecDepth 100000 in
set_option maxHeartbeats 8000000 in
theorem DRight1 (RC : List Value) (hRL : RC.length = 65) (rr : Dg) (hrl : List.length (α := UInt8) rr = 32) (hrr : (RC.drop 32).take 32 = bv rr) (tall : Nat) (htall : tall ≤ 8) (hrt : RC[64]? = some (.int .i64 (tall : Int)))
    (s0 : St) (hw : StWf s0) (u : Value) (F : Fp) (w : World) (hc : Conds w F u s0.cs) (hF : ∀ b, F b → b < w.heap.size) (hlen : List.length (α := Cd) s0.cs ≤ 1000) (hr : s0.round < 2147483648)
    (S : List UInt8) (hS : S.length = 1024) (keyS : Nat) (v : Value) (ds : List Dg) (F2 : Fp) (hv : Ways w F2 v ds) (hF2 : ∀ b, F2 b → b < w.heap.size) (hdl : List.length (α := Dg) ds ≤ 1099511627776) (hkeyS : (Lit.int .u32 (keyS : Int)).wf = true) :
    Calls Try.prog 23 #[.agg RC.toArray, .int .i64 1, stv s0 u, .agg (sigC (bv S) keyS v).toArray] w fun e w' => e = .returned (.bool (rightM S keyS ds rr (tall : Int) s0.round (sumD s0))) ∧ Ext w w' := by
  have hkwf : (Lit.int .u32 (s0.round : Int)).wf = true := Go.WalkArith.wf_u32 (by omega)
  have htwf : (Lit.int .i64 (tall : Int)).wf = true := Go.WalkArith.wf_i64 (by omega)
  have hri0 := fun W (hx : Ext w W) => Right S hS keyS v ds rr hrl (sumD s0) (sha_length _) F2 W (hx.holds hF2 hv) (fun b hb => Nat.lt_of_lt_of_le (hF2 b hb) hx.size) hdl hkeyS (tall : Int) htwf s0.round hkwf
  have hsum0 := fun W (hx : Ext w W) => DSum s0 hw u F W (hx.holds hF hc) (fun b hb => Nat.lt_of_lt_of_le (hF b hb) hx.size) hlen
  have hkey := fun W => DKey s0.round hr W
  obtain ⟨A, c, xs, rfl, hlc, hcm, -⟩ := conds_open hc
  obtain ⟨SC, hSC⟩ : ∃ SC, SC = stc s0 (.slice A (List.length (α := Cd) s0.cs) c) := ⟨_, rfl⟩
  have hst : stv s0 (.slice A (List.length (α := Cd) s0.cs) c) = .agg SC.toArray := by rw [hSC]; rfl
  have hscl : SC.length = 7 := by rw [hSC]; rfl
  have hs1 : SC[1]? = some (.int .u64 (s0.round : Int)) := by rw [hSC]; rfl
  rw [hst] at hsum0 ⊢
  have hgl := sigC_len (show (bv S).length = 1024 by rw [bv_length]; exact hS) keyS v
  have hrdl : (bv rr).length = 32 := by rw [bv_length]; exact hrl
  generalize sigC (bv S) keyS v = GC at *
  generalize rightM S keyS ds rr (tall : Int) s0.round (sumD s0) = B at *
  generalize bv (sumD s0) = DD at *
  generalize bv rr = RD at *
  have hx0 : Ext w (((w.alloc (.cells RC.toArray 79)).alloc (.cells SC.toArray 40)).alloc (.cells GC.toArray 70)).drew := ((((Ext.refl w).alloc _).alloc _).alloc _).drew
  have hbr : Blk (((w.alloc (.cells RC.toArray 79)).alloc (.cells SC.toArray 40)).alloc (.cells GC.toArray 70)).drew w.heap.size 79 RC := (Blk.new _ _ _).keep (((Ext.refl _).alloc _).alloc _).drew (by simp)
  have hbs : Blk (((w.alloc (.cells RC.toArray 79)).alloc (.cells SC.toArray 40)).alloc (.cells GC.toArray 70)).drew (w.heap.size + 1) 40 SC := (Blk.new_at (by simp) _ _).keep ((Ext.refl _).alloc (.cells GC.toArray 70)).drew (by simp)
  have hbg : Blk (((w.alloc (.cells RC.toArray 79)).alloc (.cells SC.toArray 40)).alloc (.cells GC.toArray 70)).drew (w.heap.size + 2) 70 GC := Blk.new_at (by simp) _ _
  have hcr : ∀ W, Ext (((w.alloc (.cells RC.toArray 79)).alloc (.cells SC.toArray 40)).alloc (.cells GC.toArray 70)).drew W → Cells W ⟨w.heap.size, 32, none⟩ RD := fun W hX => by
    have h := ((hbr.keep hX (by simp)).cells.drop 32).take 32
    rw [hrr] at h
    exact h
  have hsum := fun W (hX : Ext (((w.alloc (.cells RC.toArray 79)).alloc (.cells SC.toArray 40)).alloc (.cells GC.toArray 70)).drew W) => hsum0 W (hx0.trans hX)
  have hri := fun W (hX : Ext (((w.alloc (.cells RC.toArray 79)).alloc (.cells SC.toArray 40)).alloc (.cells GC.toArray 70)).drew W) => hri0 W (hx0.trans hX)
  have HX0 := Lib.hid hx0
  have HBR := Lib.hid hbr
  have HBS := Lib.hid hbs
  have HBG := Lib.hid hbg
  have HCR := Lib.hid hcr
  have HSUM := Lib.hid hsum
  have HRI := Lib.hid hri
  have HKEY := Lib.hid hkey
  have HRT := Lib.hid hrt
  have HS1 := Lib.hid hs1
  have HGL := Lib.hid hgl
  have HRDL := Lib.hid hrdl
  have HSCL := Lib.hid hscl
  clear hx0 hbr hbs hbg hcr hsum hri hkey hrt hs1 hgl hrdl hscl hsum0 hri0 hst hSC hc hlc hcm hw hF hlen hrr hrl hS hv hF2 hdl hkeyS hkwf htwf hRL htall hr
  go_enter Try.func23, Try.ntmps23
  go_wp2_with fail
  (try simp only [World.size_alloc])
  generalize (((w.alloc (.cells RC.toArray 79)).alloc (.cells SC.toArray 40)).alloc (.cells GC.toArray 70)) = wz at *
  refine stab_plain Ext ext_refl ext_trans [[0], [1], [2], [1, 2, 3], [1, 2, 3, 4], [5], [5, 6], [7], [7, 8], [7, 8, 9], [10], [7, 8, 9, 10, 11], [0, 1, 2, 3, 4, 5, 6, 7, 8, 9, 10, 11, 12], [0, 1, 2, 3, 4, 5, 6, 7, 8, 9, 10, 11, 12, 13]] (fun i v wv => match i with | 0 => v = .agg GC.toArray | 1 => v = .int .i64 1 | 2 => v = .pointer (some ⟨w.heap.size, 0, none⟩) | 3 => v = .pointer (some ⟨w.heap.size, 32, none⟩) | 4 => v = .agg RD.toArray | 5 => v = .pointer (some ⟨w.heap.size, 64, none⟩) | 6 => v = .int .i64 (tall : Int) | 7 => v = .pointer (some ⟨w.heap.size + 1, 1, none⟩) | 8 => v = .int .u64 (s0.round : Int) | 9 => v = .int .u32 (s0.round : Int) | 10 => v = .agg SC.toArray | 11 => v = .agg DD.toArray | 12 => v = .bool B | 13 => v = .bool B | _ => True) (by kernel_rfl) (by kernel_rfl) (by kernel_rfl) ?_ ?_ ?_
  · intro i v w1 w2 h hx
    match i, h with
    | 0, h => exact h
    | 1, h => exact h
    | 2, h => exact h
    | 3, h => exact h
    | 4, h => exact h
    | 5, h => exact h
    | 6, h => exact h
    | 7, h => exact h
    | 8, h => exact h
    | 9, h => exact h
    | 10, h => exact h
    | 11, h => exact h
    | 12, h => exact h
    | 13, h => exact h
    | i + 14, h => trivial
  · intro i hi o ho
    match i, hi, ho with
    | 0, _, ho =>
      obtain rfl := Option.some.inj ho
      intro s W hX hd K hK
      rw [if_pos (wanted_plain rfl)]
      clear hd
      replace hK : ∀ (v : Value) (W' : World), Ext W W' → (v = .agg GC.toArray) → _ := hK
      simp only [mkOf, List.map_cons, List.map_nil, Act.put, List.setIfInBounds_toArray, List.set_cons_succ, List.set_cons_zero, Nat.reduceAdd, Nat.zero_add] at hK ⊢
      refine wp_load_aggD 70 (.tmp 7) rfl _ rfl GC _ Try.underlying70 rfl (szOutTo05 HGL.out) (HBG.out.keep hX (by simp)).cells ?_
      exact hK _ _ (Ext.refl _) rfl
    | 1, _, ho =>
      obtain rfl := Option.some.inj ho
      intro s W hX hd K hK
      rw [if_pos (wanted_plain rfl)]
      clear hd
      replace hK : ∀ (v : Value) (W' : World), Ext W W' → (v = .int .i64 1) → _ := hK
      simp only [mkOf, List.map_cons, List.map_nil, Act.put, List.setIfInBounds_toArray, List.set_cons_succ, List.set_cons_zero, Nat.reduceAdd, Nat.zero_add] at hK ⊢
      go_simp
      exact hK _ _ (Ext.refl _) rfl
    | 2, _, ho =>
      obtain rfl := Option.some.inj ho
      intro s W hX hd K hK
      rw [if_pos (wanted_plain rfl)]
      clear hd
      replace hK : ∀ (v : Value) (W' : World), Ext W W' → (v = .pointer (some ⟨w.heap.size, 0, none⟩)) → _ := hK
      simp only [mkOf, List.map_cons, List.map_nil, Act.put, List.setIfInBounds_toArray, List.set_cons_succ, List.set_cons_zero, Nat.reduceAdd, Nat.zero_add] at hK ⊢
      go_simp
      exact hK _ _ (Ext.refl _) rfl
    | 3, _, ho =>
      obtain rfl := Option.some.inj ho
      intro s W hX hd K hK
      rw [if_pos (wanted_plain rfl)]
      have d16 : (s 1) = .int .i64 1 := hd 1 (by decide) (by decide)
      have d17 : (s 2) = .pointer (some ⟨w.heap.size, 0, none⟩) := hd 2 (by decide) (by decide)
      clear hd
      replace hK : ∀ (v : Value) (W' : World), Ext W W' → (v = .pointer (some ⟨w.heap.size, 32, none⟩)) → _ := hK
      simp only [mkOf, List.map_cons, List.map_nil, Act.put, List.setIfInBounds_toArray, List.set_cons_succ, List.set_cons_zero, Nat.reduceAdd, Nat.zero_add] at hK ⊢
      simp only [d16, d17] at hK ⊢
      go_simp
      exact hK _ _ (Ext.refl _) rfl
    | 4, _, ho =>
      obtain rfl := Option.some.inj ho
      intro s W hX hd K hK
      rw [if_pos (wanted_plain rfl)]
      have d18 : (s 3) = .pointer (some ⟨w.heap.size, 32, none⟩) := hd 3 (by decide) (by decide)
      clear hd
      replace hK : ∀ (v : Value) (W' : World), Ext W W' → (v = .agg RD.toArray) → _ := hK
      simp only [mkOf, List.map_cons, List.map_nil, Act.put, List.setIfInBounds_toArray, List.set_cons_succ, List.set_cons_zero, Nat.reduceAdd, Nat.zero_add] at hK ⊢
      simp only [d18] at hK ⊢
      refine wp_load_aggD 52 (.tmp 18) rfl _ rfl RD _ Try.underlying52 rfl (digest_size HRDL.out) (HCR.out W hX) ?_
      exact hK _ _ (Ext.refl _) rfl
    | 5, _, ho =>
      obtain rfl := Option.some.inj ho
      intro s W hX hd K hK
      rw [if_pos (wanted_plain rfl)]
      clear hd
      replace hK : ∀ (v : Value) (W' : World), Ext W W' → (v = .pointer (some ⟨w.heap.size, 64, none⟩)) → _ := hK
      simp only [mkOf, List.map_cons, List.map_nil, Act.put, List.setIfInBounds_toArray, List.set_cons_succ, List.set_cons_zero, Nat.reduceAdd, Nat.zero_add] at hK ⊢
      go_simp
      exact hK _ _ (Ext.refl _) rfl
    | 6, _, ho =>
      obtain rfl := Option.some.inj ho
      intro s W hX hd K hK
      rw [if_pos (wanted_plain rfl)]
      have d20 : (s 5) = .pointer (some ⟨w.heap.size, 64, none⟩) := hd 5 (by decide) (by decide)
      clear hd
      replace hK : ∀ (v : Value) (W' : World), Ext W W' → (v = .int .i64 (tall : Int)) → _ := hK
      simp only [mkOf, List.map_cons, List.map_nil, Act.put, List.setIfInBounds_toArray, List.set_cons_succ, List.set_cons_zero, Nat.reduceAdd, Nat.zero_add] at hK ⊢
      simp only [d20] at hK ⊢
      have c64 := ((HBR.out.keep hX (by simp)).cell 64).trans HRT.out
      go_simp
      exact hK _ _ (Ext.refl _) rfl
    | 7, _, ho =>
      obtain rfl := Option.some.inj ho
      intro s W hX hd K hK
      rw [if_pos (wanted_plain rfl)]
      clear hd
      replace hK : ∀ (v : Value) (W' : World), Ext W W' → (v = .pointer (some ⟨w.heap.size + 1, 1, none⟩)) → _ := hK
      simp only [mkOf, List.map_cons, List.map_nil, Act.put, List.setIfInBounds_toArray, List.set_cons_succ, List.set_cons_zero, Nat.reduceAdd, Nat.zero_add] at hK ⊢
      go_simp
      exact hK _ _ (Ext.refl _) rfl
    | 8, _, ho =>
      obtain rfl := Option.some.inj ho
      intro s W hX hd K hK
      rw [if_pos (wanted_plain rfl)]
      have d22 : (s 7) = .pointer (some ⟨w.heap.size + 1, 1, none⟩) := hd 7 (by decide) (by decide)
      clear hd
      replace hK : ∀ (v : Value) (W' : World), Ext W W' → (v = .int .u64 (s0.round : Int)) → _ := hK
      simp only [mkOf, List.map_cons, List.map_nil, Act.put, List.setIfInBounds_toArray, List.set_cons_succ, List.set_cons_zero, Nat.reduceAdd, Nat.zero_add] at hK ⊢
      simp only [d22] at hK ⊢
      have c1 := ((HBS.out.keep hX (by simp)).cell 1).trans HS1.out
      go_simp
      exact hK _ _ (Ext.refl _) rfl
    | 9, _, ho =>
      obtain rfl := Option.some.inj ho
      intro s W hX hd K hK
      rw [if_pos (wanted_plain rfl)]
      have d23 : (s 8) = .int .u64 (s0.round : Int) := hd 8 (by decide) (by decide)
      clear hd
      replace hK : ∀ (v : Value) (W' : World), Ext W W' → (v = .int .u32 (s0.round : Int)) → _ := hK
      simp only [mkOf, List.map_cons, List.map_nil, Act.put, List.setIfInBounds_toArray, List.set_cons_succ, List.set_cons_zero, Nat.reduceAdd, Nat.zero_add] at hK ⊢
      simp only [d23] at hK ⊢
      go_simp
      refine (HKEY.out _).mono ?_
      rintro e w' ⟨rfl, hx⟩
      exact hK _ _ hx rfl
    | 10, _, ho =>
      obtain rfl := Option.some.inj ho
      intro s W hX hd K hK
      rw [if_pos (wanted_plain rfl)]
      clear hd
      replace hK : ∀ (v : Value) (W' : World), Ext W W' → (v = .agg SC.toArray) → _ := hK
      simp only [mkOf, List.map_cons, List.map_nil, Act.put, List.setIfInBounds_toArray, List.set_cons_succ, List.set_cons_zero, Nat.reduceAdd, Nat.zero_add] at hK ⊢
      refine wp_load_aggD 40 (.tmp 6) rfl _ rfl SC _ Try.underlying40 rfl (szStD HSCL.out) (HBS.out.keep hX (by simp)).cells ?_
      exact hK _ _ (Ext.refl _) rfl
    | 11, _, ho =>
      obtain rfl := Option.some.inj ho
      intro s W hX hd K hK
      rw [if_pos (wanted_plain rfl)]
      have d25 : (s 10) = .agg SC.toArray := hd 10 (by decide) (by decide)
      clear hd
      replace hK : ∀ (v : Value) (W' : World), Ext W W' → (v = .agg DD.toArray) → _ := hK
      simp only [mkOf, List.map_cons, List.map_nil, Act.put, List.setIfInBounds_toArray, List.set_cons_succ, List.set_cons_zero, Nat.reduceAdd, Nat.zero_add] at hK ⊢
      simp only [d25] at hK ⊢
      go_simp
      refine (HSUM.out _ hX).mono ?_
      rintro e w' ⟨rfl, hx⟩
      exact hK _ _ hx rfl
    | 12, _, ho =>
      obtain rfl := Option.some.inj ho
      intro s W hX hd K hK
      rw [if_pos (wanted_plain rfl)]
      have d15 : (s 0) = .agg GC.toArray := hd 0 (by decide) (by decide)
      have d19 : (s 4) = .agg RD.toArray := hd 4 (by decide) (by decide)
      have d21 : (s 6) = .int .i64 (tall : Int) := hd 6 (by decide) (by decide)
      have d24 : (s 9) = .int .u32 (s0.round : Int) := hd 9 (by decide) (by decide)
      have d26 : (s 11) = .agg DD.toArray := hd 11 (by decide) (by decide)
      clear hd
      replace hK : ∀ (v : Value) (W' : World), Ext W W' → (v = .bool B) → _ := hK
      simp only [mkOf, List.map_cons, List.map_nil, Act.put, List.setIfInBounds_toArray, List.set_cons_succ, List.set_cons_zero, Nat.reduceAdd, Nat.zero_add] at hK ⊢
      simp only [d15, d19, d21, d24, d26] at hK ⊢
      go_simp
      refine (HRI.out _ hX).mono ?_
      rintro e w' ⟨rfl, hx⟩
      exact hK _ _ hx rfl
    | 13, _, ho =>
      obtain rfl := Option.some.inj ho
      intro s W hX hd K hK
      rw [if_pos (wanted_plain rfl)]
      have d27 : (s 12) = .bool B := hd 12 (by decide) (by decide)
      clear hd
      replace hK : ∀ (v : Value) (W' : World), Ext W W' → (v = .bool B) → _ := hK
      simp only [mkOf, List.map_cons, List.map_nil, Act.put, List.setIfInBounds_toArray, List.set_cons_succ, List.set_cons_zero, Nat.reduceAdd, Nat.zero_add] at hK ⊢
      simp only [d27] at hK ⊢
      go_simp
      exact hK _ _ (Ext.refl _) rfl
    | i + 14, hi, _ => exact absurd hi (by simp)
  · intro s W hX hd
    have d15 : (s 0) = .agg GC.toArray := hd 0 (by decide)
    have d16 : (s 1) = .int .i64 1 := hd 1 (by decide)
    have d17 : (s 2) = .pointer (some ⟨w.heap.size, 0, none⟩) := hd 2 (by decide)
    have d18 : (s 3) = .pointer (some ⟨w.heap.size, 32, none⟩) := hd 3 (by decide)
    have d19 : (s 4) = .agg RD.toArray := hd 4 (by decide)
    have d20 : (s 5) = .pointer (some ⟨w.heap.size, 64, none⟩) := hd 5 (by decide)
    have d21 : (s 6) = .int .i64 (tall : Int) := hd 6 (by decide)
    have d22 : (s 7) = .pointer (some ⟨w.heap.size + 1, 1, none⟩) := hd 7 (by decide)
    have d23 : (s 8) = .int .u64 (s0.round : Int) := hd 8 (by decide)
    have d24 : (s 9) = .int .u32 (s0.round : Int) := hd 9 (by decide)
    have d25 : (s 10) = .agg SC.toArray := hd 10 (by decide)
    have d26 : (s 11) = .agg DD.toArray := hd 11 (by decide)
    have d27 : (s 12) = .bool B := hd 12 (by decide)
    have d8 : (s 13) = .bool B := hd 13 (by decide)
    clear hd
    simp only [mkOf, List.map_cons, List.map_nil, Act.put, List.setIfInBounds_toArray, List.set_cons_succ, List.set_cons_zero, Nat.reduceAdd, Nat.zero_add]
    simp only [d8]
    (try simp only [Exit.then])
    go_wp2_with fail
    go_ret
    exact ⟨rfl, HX0.out.trans hX⟩
set_option maxRecDepth 100000 in
set_option maxHeartbeats 8000000 in
theorem DWholeYes (RC : List Value) (hRL : RC.length = 65) (DC SC G0 G1 : List Value) (ch r : Nat) (hr0 : r ≠ 0) (hd0 : DC[0]? = some (.int .u32 (ch : Int))) (hd1 : DC[1]? = some (.int .u64 (r : Int)))
    (htk : DC.take 7 = SC) (hk0 : (DC.drop 7).take 1026 = G0) (hk1 : (DC.drop 1033).take 1026 = G1) (hsl : SC.length = 7) (hg0 : G0.length = 1026) (hg1 : G1.length = 1026) (w : World)
    (h0 : ∀ W, Ext w W → Calls Try.prog 23 #[.agg RC.toArray, .int .i64 0, .agg SC.toArray, .agg G0.toArray] W fun e w' => e = .returned (.bool true) ∧ Ext W w')
    (h1 : ∀ W, Ext w W → Calls Try.prog 23 #[.agg RC.toArray, .int .i64 1, .agg SC.toArray, .agg G1.toArray] W fun e w' => e = .returned (.bool true) ∧ Ext W w') :
    Calls Try.prog 22 #[.agg RC.toArray, .agg DC.toArray, .int .u32 (ch : Int)] w fun e w' => e = .returned (.bool true) ∧ Ext w w' := by
  have hx0 : Ext w ((w.alloc (.cells RC.toArray 79)).alloc (.cells DC.toArray 75)) := ((Ext.refl w).alloc _).alloc _
  have hbr : Blk ((w.alloc (.cells RC.toArray 79)).alloc (.cells DC.toArray 75)) w.heap.size 79 RC := (Blk.new _ _ _).keep ((Ext.refl _).alloc _) (by simp)
  have hbd : Blk ((w.alloc (.cells RC.toArray 79)).alloc (.cells DC.toArray 75)) (w.heap.size + 1) 75 DC := Blk.new_at (by simp) _ _
  have c0 : ((w.alloc (.cells RC.toArray 79)).alloc (.cells DC.toArray 75)).cell? ⟨w.heap.size + 1, 0, none⟩ = some (.int .u32 (ch : Int)) := (hbd.cell 0).trans hd0
  have c1 : ((w.alloc (.cells RC.toArray 79)).alloc (.cells DC.toArray 75)).cell? ⟨w.heap.size + 1, 1, none⟩ = some (.int .u64 (r : Int)) := (hbd.cell 1).trans hd1
  have hne : ((ch : Int) != (ch : Int)) = false := bne_self_eq_false _
  have hrn : ((r : Int) == 0) = false := by simpa using hr0
  have hcs : ∀ W, Ext ((w.alloc (.cells RC.toArray 79)).alloc (.cells DC.toArray 75)) W → Cells W ⟨w.heap.size + 1, 0, none⟩ SC := fun W hX => by have h := (hbd.keep hX (by simp)).cells.take 7; rw [htk] at h; exact h
  have hc0 : ∀ W, Ext ((w.alloc (.cells RC.toArray 79)).alloc (.cells DC.toArray 75)) W → Cells W ⟨w.heap.size + 1, 7, none⟩ G0 := fun W hX => by have h := ((hbd.keep hX (by simp)).cells.drop 7).take 1026; rw [hk0] at h; exact h
  have hc1 : ∀ W, Ext ((w.alloc (.cells RC.toArray 79)).alloc (.cells DC.toArray 75)) W → Cells W ⟨w.heap.size + 1, 1033, none⟩ G1 := fun W hX => by have h := ((hbd.keep hX (by simp)).cells.drop 1033).take 1026; rw [hk1] at h; exact h
  have HX0 := Lib.hid hx0
  have HBR := Lib.hid hbr
  have HCS := Lib.hid hcs
  have HC0 := Lib.hid hc0
  have HC1 := Lib.hid hc1
  have HSL := Lib.hid hsl
  have HG0 := Lib.hid hg0
  have HG1 := Lib.hid hg1
  have HRL := Lib.hid hRL
  have H0 := Lib.hid h0
  have H1 := Lib.hid h1
  clear hx0 hbr hbd hcs hc0 hc1 hsl hg0 hg1 hRL h0 h1 hd0 hd1 htk hk0 hk1 hr0
  go_enter Try.func22, Try.ntmps22
  go_wp2_with (first
    | ((with_reducible refine wpDst 21 rfl ?_); refine wpList_load_agg _ rfl 79 (.tmp 3) rfl _ rfl RC _ Try.underlying79 rfl (roots_size HRL.out) (by exact HBR.out.cells) ?_)
    | ((with_reducible refine wpDst 23 rfl ?_); refine wpList_load_agg _ rfl 40 (.tmp 22) rfl _ rfl SC _ Try.underlying40 rfl (szStD HSL.out) (by exact HCS.out _ (Ext.refl _)) ?_)
    | ((with_reducible refine wpDst 26 rfl ?_); refine wpList_load_agg _ rfl 70 (.tmp 25) rfl _ rfl G0 _ Try.underlying70 rfl (szOutTo05 HG0.out) (by exact HC0.out _ (Ext.refl _)) ?_)
    | fail)
  refine (H0.out _ HX0.out).mono ?_
  rintro e w1 ⟨rfl, hx1⟩
  have HX1 := Lib.hid hx1
  have hbr1 := HBR.out.keep hx1 (by simp)
  have HBR1 := Lib.hid hbr1
  clear hx1 hbr1 c0 c1 hne hrn
  go_wp2_with (first
    | ((with_reducible refine wpDst 29 rfl ?_); refine wpList_loadG (.inr (by kernel_rfl)) 79 (.tmp 3) rfl _ rfl RC _ Try.underlying79 rfl (roots_size HRL.out) (by exact HBR1.out.cells) ?_)
    | ((with_reducible refine wpDst 31 rfl ?_); refine wpList_loadG (.inr (by kernel_rfl)) 40 (.tmp 30) rfl _ rfl SC _ Try.underlying40 rfl (szStD HSL.out) (by exact HCS.out _ HX1.out) ?_)
    | ((with_reducible refine wpDst 34 rfl ?_); refine wpList_loadG (.inr (by kernel_rfl)) 70 (.tmp 33) rfl _ rfl G1 _ Try.underlying70 rfl (szOutTo05 HG1.out) (by exact HC1.out _ HX1.out) ?_)
    | fail)
  refine (H1.out _ (HX0.out.trans HX1.out)).mono ?_
  rintro e w2 ⟨rfl, hx2⟩
  go_wp2_with fail
  go_ret
  exact ⟨rfl, (HX0.out.trans HX1.out).trans hx2⟩
set_option maxRecDepth 100000 in
set_option maxHeartbeats 8000000 in
theorem DWholeNo (RC DC : List Value) (ch c2 : Nat) (hne : ch ≠ c2) (hd0 : DC[0]? = some (.int .u32 (ch : Int))) (w : World) :
    Calls Try.prog 22 #[.agg RC.toArray, .agg DC.toArray, .int .u32 (c2 : Int)] w fun e w' => e = .returned (.bool false) ∧ Ext w w' := by
  have hx0 : Ext w ((w.alloc (.cells RC.toArray 79)).alloc (.cells DC.toArray 75)) := ((Ext.refl w).alloc _).alloc _
  have hbd : Blk ((w.alloc (.cells RC.toArray 79)).alloc (.cells DC.toArray 75)) (w.heap.size + 1) 75 DC := Blk.new_at (by simp) _ _
  have c0 : ((w.alloc (.cells RC.toArray 79)).alloc (.cells DC.toArray 75)).cell? ⟨w.heap.size + 1, 0, none⟩ = some (.int .u32 (ch : Int)) := (hbd.cell 0).trans hd0
  have hn : ((ch : Int) != (c2 : Int)) = true := by simp; omega
  have HX0 := Lib.hid hx0
  clear hx0 hbd hd0 hne
  go_enter Try.func22, Try.ntmps22
  go_wp2_with fail
  go_ret
  exact ⟨rfl, HX0.out⟩
end
section
open Go.RowKit

theorem own1_cells {w : World} {b : Addr} {x : UInt8} {e : TypeId} (h : Own w e 1 (.slice (some b) 1 1) 1 [.int .u8 (x.toNat : Int)]) : ∀ j v, [Value.int .u8 (x.toNat : Int)][j]? = some v → w.cell? (b.add j) = some v := by
  rcases h.2 with ⟨h1, _⟩ | ⟨g, cap, cur, hv, _⟩
  · cases h1
  · cases hv
    exact World.ownsRow.cells h rfl
section
variable {P : Program}
/-- .. appended to a full slice of one: a new array. -/
theorem wpList_app1_full {w : World} {ops : Array Oper} {rest : List Oper} {o : Oper} {a : Act} {Q : Exit → Act → World → Prop} (hgd : o.guard = none) (s p : Operand) (t t' : TypeId)
    (ho : o.op = .call { callee := .builtin .append, args := #[s, p], argTypes := #[t, t'] })
    (e e' : TypeId) (i : TypeInfo) (z : Value) (ht : P.underlying t = some (.slice e)) (ht' : P.underlying t' = some (.slice e')) (hi : P.info? e = some i) (hz : i.zero = some z)
    (hsize : i.size = 1) (hby : i.bytes = 1) (hzs : z.cells.size = 1)
    (b : Addr) (x : UInt8) (u : Value) (ad : Addr) (c : Nat) (hs : a.eval s = .slice (some b) 1 1) (hown : Own w e 1 (.slice (some b) 1 1) 1 [.int .u8 (x.toNat : Int)])
    (hx : a.eval p = .slice (some ad) 1 c) (hc : Cells w ad [u]) (h1 : u.oneCell' = true)
    (h : ∀ v' w', Own w' e 1 v' 2 [.int .u8 (x.toNat : Int), u] → Ext w w' → (∀ g, v'.ownBlock = some g → w.heap.size ≤ g) → wpList P ops Q rest (a.put o.dst v') w') : wpList P ops Q (o :: rest) a w := by
  obtain ⟨v', w', hr, h2, h3⟩ := run_app (P := P) w t t' o.type e e' i z 1 1 ht ht' hi hz hsize hby hzs (by decide) _ 1 [.int .u8 (x.toNat : Int)] hown (some ad) 1 c [u] rfl (fun _ => ⟨_, rfl, hc⟩) (by simpa using h1) (by decide) (by decide)
  have hg := run_append_grow (P := P) (w := w) t o.type e i z ht hi hz b 1 1 [.int .u8 (x.toNat : Int)] (by rw [hsize]; rfl) (own1_cells hown) ad 1 c [u] (by rw [hsize]; rfl) (fun j v hj => hc j v hj) (by omega) (by omega)
    (by rw [hby, show Builtin.nextslicecap (1 + 1) 1 = 2 from by decide]; omega)
  rw [← append_types w ht ht'] at hg
  rw [hr] at hg
  have hq := hg
  simp only [Result.ok.injEq] at hq
  obtain ⟨hv, hw⟩ := hq
  refine wpList_plain hgd fun K hK => ?_
  unfold Oper.wp execOp
  simp only [ho, resolve, invoke, builtin, Sem.run_bind, Sem.run_pure, Result.andThen_ok, List.map_toArray, List.map_cons, List.map_nil, hs, hx, hr]
  refine hK _ _ (h v' w' (by simpa using h2) ?_ ?_)
  · rw [hw]; exact (Ext.refl _).drew.alloc _
  · intro g hgb
    rw [hv] at hgb
    simp [Value.ownBlock] at hgb
    omega
end
set_option maxRecDepth 100000 in
set_option maxHeartbeats 400000 in
theorem numF (b : Addr) (x : UInt8) (n size : Nat) (w : World) (ho : OwnB w (.slice (some b) 1 1) [x]) (_hn : n < 18446744073709551616) (hs : size ≤ 8) (hs0 : 0 < size) :
    Calls Try.prog 47 #[.slice (some b) 1 1, .int .u64 n, .int .i64 size] w fun e w' => ∃ v', e = .returned v' ∧ OwnB w' v' ([x] ++ be size n) ∧ Ext w w' ∧ ∀ g, v'.ownBlock = some g → w.heap.size ≤ g := by
  obtain ⟨i0, hi, hz0, hz1, hz2⟩ := info_parts u8_info
  have HO := Lib.hid ho
  clear ho
  go_enter Try.func47, Try.ntmps47
  go_wp2
  go_loopw [0, 7] (fun vr i wr => ∃ j : Nat, j ≤ size ∧ i = .int .i64 ((j : Int) - 1) ∧ Ext w wr ∧ ((j = size ∧ vr = .slice (some b) 1 1) ∨ (j < size ∧ OwnB wr vr ([x] ++ beTop size j n) ∧ ∀ g, vr.ownBlock = some g → w.heap.size ≤ g))) (fun _ i _ => (intOf i + 1).toNat)
  case atStart => exact ⟨size, by omega, rfl, Ext.refl _, .inl ⟨rfl, rfl⟩⟩
  case round =>
    obtain ⟨j, hj, rfl, hxr, hst⟩ := hrel
    rcases hst with ⟨rfl, rfl⟩ | ⟨hjs, hor, hnr⟩
    · have hxa : Ext wr (wr.alloc (.cells #[.int .u8 ((n : Int) / 2 ^ (8 * (j - 1)) % 256)] 5)) := (Ext.refl wr).alloc _
      have hor := (HO.out.ext hxr).ext hxa
      have hca : Cells (wr.alloc (.cells #[.int .u8 ((n : Int) / 2 ^ (8 * (j - 1)) % 256)] 5)) ⟨wr.heap.size, 0, none⟩ [.int .u8 ((n : Int) / 2 ^ (8 * (j - 1)) % 256)] := by have h := Cells.of_block (heap_alloc_new wr (.cells #[.int .u8 ((n : Int) / 2 ^ (8 * (j - 1)) % 256)] 5)); simpa using h
      go_wp2_with (at_builtin; refine wpList_app1_full rfl (.tmp 14) (.tmp 20) _ _ rfl _ _ i0 _ Try.underlying36 Try.underlying36 hi hz0 hz1 hz2 rfl b x (.int .u8 ((n : Int) / 2 ^ (8 * (j - 1)) % 256)) _ _ rfl hor rfl hca rfl ?_; intro v' w1 ho1 hx1 hn1)
      go_roundw
      case rel =>
        refine ⟨j - 1, by omega, by rw [show ((j - 1 : Nat) : Int) = (j : Int) - 1 by omega], (hxr.trans hxa).trans hx1, .inr ⟨by omega, ?_, fun g hg => Nat.le_trans hxr.size (Nat.le_trans hxa.size (hn1 g hg))⟩⟩
        rw [beTop_step j j n hs0 (Nat.le_refl j)]
        have e : beTop j j n = [] := by simp [beTop]
        rw [e]
        have h3 : Own w1 5 1 v' ([x].length + 1) (bv [x] ++ [.int .u8 ((n : Int) / 2 ^ (8 * (j - 1)) % 256)]) := ho1
        have h4 := OwnB.snoc h3 (be_byte n j)
        simpa using h4
      case measure => simp [intOf]; omega
    · have hl := beTop_length size j n
      have hl2 : ([x] ++ beTop size j n).length = size - j + 1 := by rw [List.length_append, hl]; simp; omega
      by_cases hlt : 0 < j
      · go_wp2_with (at_builtin; refine wpList_app1 wr rfl (.tmp 14) (.tmp 20) _ _ rfl _ _ 5 i0 _ 1 1 Try.underlying36 Try.underlying36 hi hz0 hz1 hz2 rfl (by decide) _ _ _ [.int .u8 ((n : Int) / 2 ^ (8 * (j - 1)) % 256)] rfl hor rfl rfl (by simp [Value.oneCell']) (by unfold maxLen; omega) (by omega) ?_; intro v' w1 ho1 hm1)
        go_roundw
        case rel =>
          refine ⟨j - 1, by omega, by rw [show ((j - 1 : Nat) : Int) = (j : Int) - 1 by omega], grown_then hxr hm1.grown (.inr hnr), .inr ⟨by omega, ?_, fun g hg => ?_⟩⟩
          · rw [beTop_step size j n hlt hj, ← List.append_assoc]
            exact OwnB.snoc ho1 (be_byte n j)
          · rcases hm1.at_ with e | hn
            · exact hnr g (e.symm.trans hg)
            · exact Nat.le_trans hxr.size (hn g hg)
        case measure => simp [intOf]; omega
      · obtain rfl : j = 0 := by omega
        go_wp2
        go_ret
        exact ⟨_, rfl, by simpa [beTop, List.take_of_length_le, be_length] using hor, hxr, hnr⟩
set_option maxRecDepth 100000 in
set_option maxHeartbeats 400000 in
theorem fourF (b : Addr) (x : UInt8) (vl : Value) (n : Nat) (w : World) (F : Fp) (ho : OwnB w (.slice (some b) 1 1) [x]) (hl : (Ty.sl (.nat .u32)).holds w F [vl] [n]) (hF : ∀ b, F b → b < w.heap.size) :
    Calls Try.prog 26 #[.slice (some b) 1 1, vl] w fun e w' => ∃ v', e = .returned v' ∧ OwnB w' v' ([x] ++ be 4 n) ∧ Ext w w' ∧ ∀ g, v'.ownBlock = some g → w.heap.size ≤ g := by
  obtain ⟨A, c, xs, hv, hlc, hc, _, hcell, hall⟩ := hl
  cases hv
  unfold maxLen at hc
  obtain ⟨ad, rfl, hf, hcells⟩ := hcell (by simp)
  obtain ⟨hx, hwf⟩ := AllH.nat_at hall (show 0 < [n].length by simp)
  have hcx := hcells 0 _ hx
  have hbd := bounds_u32 hwf
  have hfl := hF _ hf
  have HO := Lib.hid ho
  clear hwf hx hall hcells hcell ho
  simp only [List.getElem_cons_zero] at hcx hbd
  replace hcx : w.cell? ad = some (.int .u32 (n : Int)) := hcx
  go_enter Try.func26, Try.ntmps26
  go_wp2
  go_loopw [0, 9] (fun vr i wr => Ext w wr ∧ ((i = .int .i64 0 ∧ vr = .slice (some b) 1 1) ∨ (i = .int .i64 1 ∧ OwnB wr vr ([x] ++ be 4 n) ∧ ∀ g, vr.ownBlock = some g → w.heap.size ≤ g))) (fun _ i _ => 1 - (intOf i).toNat)
  case atStart => exact ⟨Ext.refl _, .inl ⟨rfl, rfl⟩⟩
  case round =>
    obtain ⟨hxr, hst⟩ := hrel
    rcases hst with ⟨rfl, rfl⟩ | ⟨rfl, hor, hnr⟩
    · have hor := HO.out.ext hxr
      have hcr := World.grownBy.cell hxr hcx (by simp)
      go_wp2_with fail
      refine (numF b x n 4 _ hor (by omega) (by omega) (by omega)).mono ?_
      rintro e w1 ⟨v1, rfl, ho1, hx1, hn1⟩
      go_wp2
      go_roundw
      case rel => exact ⟨hxr.trans hx1, .inr ⟨rfl, ho1, fun g hg => Nat.le_trans hxr.size (hn1 g hg)⟩⟩
      case measure => simp [intOf]
    · go_wp2
      go_ret
      exact ⟨_, rfl, hor, hxr, hnr⟩
set_option maxRecDepth 100000 in
set_option maxHeartbeats 400000 in
theorem oneF (b : Addr) (x y : UInt8) (vl : Value) (w : World) (F : Fp) (ho : OwnB w (.slice (some b) 1 1) [x]) (hl : (Ty.sl .u8).holds w F [vl] [y]) :
    Calls Try.prog 28 #[.slice (some b) 1 1, vl] w fun e w' => ∃ v', e = .returned v' ∧ OwnB w' v' ([x] ++ [y]) ∧ Ext w w' ∧ ∀ g, v'.ownBlock = some g → w.heap.size ≤ g := by
  obtain ⟨i0, hi, hz0, hz1, hz2⟩ := info_parts u8_info
  obtain ⟨A, c, xs, hv, hlc, hc, _, hcell, hall⟩ := hl
  cases hv
  unfold maxLen at hc
  obtain ⟨ad, rfl, hf, hcells⟩ := hcell (by simp)
  rw [AllH.bytes.1 hall] at hcells
  have hca : Cells w ad [.int .u8 (y.toNat : Int)] := hcells
  have HO := Lib.hid ho
  have HCA := Lib.hid hca
  clear hall hcells hcell ho hca
  go_enter Try.func28, Try.ntmps28
  go_wp2_with (at_builtin; refine wpList_app1_full rfl _ _ _ _ rfl _ _ i0 _ Try.underlying36 Try.underlying35 hi hz0 hz1 hz2 rfl b x (.int .u8 (y.toNat : Int)) _ _ rfl HO.out rfl HCA.out rfl ?_; intro v' w1 ho1 hx1 hn1)
  go_ret
  exact ⟨_, rfl, ho1, hx1, hn1⟩
section
variable {g : Nat} {w0 w : World} {cur : Value} {xs : List Item}
theorem CJ.four1 (h : CJ g w0 (.slice none 0 0) cur [] xs w) (b : Addr) (x : UInt8) (hb : OwnB w0 (.slice (some b) 1 1) [x]) {n : Nat} {vl : Value} (hx : (⟨.nat .u32, [n], vl⟩ : Item) ∈ xs) :
    Calls Try.prog 26 #[.slice (some b) 1 1, vl] w fun e w' => ∃ v', e = .returned v' ∧ CJ g w0 (.slice none 0 0) v' ([x] ++ be 4 n) xs w' ∧ KeepB (fun b => b = g) w w' := by
  refine (fourF b x vl n w _ (hb.ext h.mv.grown) (h.it _ hx).1.1 (h.it _ hx).1.2).mono ?_
  rintro e w' ⟨v', rfl, ho, hxt, hn⟩
  exact ⟨v', rfl, h.call ho ⟨hxt.any _, .inr hn⟩⟩
theorem CJ.one1 (h : CJ g w0 (.slice none 0 0) cur [] xs w) (b : Addr) (x y : UInt8) (hb : OwnB w0 (.slice (some b) 1 1) [x]) {vl : Value} (hx : (⟨.u8, [y], vl⟩ : Item) ∈ xs) :
    Calls Try.prog 28 #[.slice (some b) 1 1, vl] w fun e w' => ∃ v', e = .returned v' ∧ CJ g w0 (.slice none 0 0) v' ([x] ++ [y]) xs w' ∧ KeepB (fun b => b = g) w w' := by
  refine (oneF b x y vl w _ (hb.ext h.mv.grown) (h.it _ hx).1.1).mono ?_
  rintro e w' ⟨v', rfl, ho, hxt, hn⟩
  exact ⟨v', rfl, h.call ho ⟨hxt.any _, .inr hn⟩⟩
end
end
end Go.Proofs.Ytmicjaiiinaipaa

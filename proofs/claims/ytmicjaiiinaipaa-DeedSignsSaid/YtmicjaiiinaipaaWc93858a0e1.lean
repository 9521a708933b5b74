/- Walks and plain laws, put together in build order. Conditions: what each of them names. -/
import Derived.Test.YtmicjaiiinaipaaWf6be60d3c6
set_option linter.unusedVariables false
set_option linter.unusedSimpArgs false
set_option linter.unnecessarySimpa false
namespace Go.Proofs.Ytmicjaiiinaipaa
section
open Go.RowKit

/-- A ring's cells. -/
def ringC (seed : List UInt8) (tall : Nat) (R T : Value) : List Value := bv seed ++ [.int .i64 (tall : Int), R, T]
theorem ringC_len {seed : List UInt8} (h : seed.length = 32) (tall : Nat) (R T : Value) : (ringC seed tall R T).length = 35 := by simp [ringC, h]
theorem ringC_take {seed : List UInt8} (h : seed.length = 32) (tall : Nat) (R T : Value) : (ringC seed tall R T).take 32 = bv seed := List.take_left' (by rw [bv_length]; exact h)
theorem ringC_tall {seed : List UInt8} (h : seed.length = 32) (tall : Nat) (R T : Value) : (ringC seed tall R T)[32]? = some (.int .i64 (tall : Int)) := by rw [ringC, List.getElem?_append_right (by rw [bv_length]; omega), bv_length, h]; rfl
theorem ringC_rows {seed : List UInt8} (h : seed.length = 32) (tall : Nat) (R T : Value) : (ringC seed tall R T)[33]? = some R := by rw [ringC, List.getElem?_append_right (by rw [bv_length]; omega), bv_length, h]; rfl
theorem ringC_taken {seed : List UInt8} (h : seed.length = 32) (tall : Nat) (R T : Value) : (ringC seed tall R T)[34]? = some T := by rw [ringC, List.getElem?_append_right (by rw [bv_length]; omega), bv_length, h]; rfl
def boolsC (tk : List Bool) : List Value := tk.map .bool
abbrev Levs (w : World) (F : Fp) (v : Value) (ls : List (List Dg)) := (Ty.sl (.sl DigT)).holds w F [v] ls
/-- The ring lies in block g, what was taken in block tb, its rows in F's blocks. -/
structure RingAt (w : World) (g tb : Nat) (F : Fp) (R : Value) (seed : List UInt8) (tall : Nat) (tk : List Bool) : Prop where
  blk : Blk w g 107 (ringC seed tall R (.slice (some ⟨tb, 0, none⟩) (2 ^ tall) (2 ^ tall)))
  tak : Blk w tb 4 (boolsC tk)
  rows : Levs w F R (levsM seed tall)
  ne : tb ≠ g
  fp : ∀ b, F b → b < w.heap.size ∧ b ≠ g ∧ b ≠ tb
  len : tk.length = 2 ^ tall
  low : tall ≤ 8
  seedl : seed.length = 32
theorem RingAt.keep {w w' : World} {g tb : Nat} {F : Fp} {R : Value} {seed : List UInt8} {tall : Nat} {tk : List Bool} {row : Option Nat} (h : RingAt w g tb F R seed tall tk) (hg : w.grownBy w' row) (h1 : some g ≠ row) (h2 : some tb ≠ row) (h3 : ∀ b, F b → some b ≠ row) : RingAt w' g tb F R seed tall tk :=
  ⟨h.blk.keep hg h1, h.tak.keep hg h2, Ty.keep (fun b hb => hg.block b (h.fp b hb).1 (h3 b hb)) (fun _ h => h) _ h.rows, h.ne, fun b hb => ⟨Nat.lt_of_lt_of_le (h.fp b hb).1 hg.size, (h.fp b hb).2⟩, h.len, h.low, h.seedl⟩
theorem RingAt.ext {w w' : World} {g tb : Nat} {F : Fp} {R : Value} {seed : List UInt8} {tall : Nat} {tk : List Bool} (h : RingAt w g tb F R seed tall tk) (hx : Ext w w') : RingAt w' g tb F R seed tall tk := h.keep hx (by simp) (by simp) (by simp)
theorem pow_low {tall : Nat} (h : tall ≤ 8) : 0 < 2 ^ tall ∧ 2 ^ tall ≤ 256 := ⟨Nat.two_pow_pos _, Nat.pow_le_pow_right (n := 2) (by decide) h⟩
section
variable {w : World} {g tb : Nat} {F : Fp} {R : Value} {seed : List UInt8} {tall : Nat} {tk : List Bool}
set_option maxRecDepth 100000 in
set_option maxHeartbeats 4000000 in
theorem Ring_in (h : RingAt w g tb F R seed tall tk) (key : Nat) (hkey : (Lit.int .u32 (key : Int)).wf = true) :
    Calls Try.prog 59 #[.pointer (some ⟨g, 0, none⟩), .int .u32 (key : Int)] w fun e w' => e = .returned (.bool (decide (key < 2 ^ tall))) ∧ Ext w w' := by
  have hk32 : key < 4294967296 := by have := bounds_u32 hkey; omega
  have c34 := (h.blk.cell 34).trans (ringC_taken h.seedl tall R _)
  have hp := pow_low h.low
  have HX : Hid (Ext w w) := Lib.hid (Ext.refl w)
  have HE : Hid (decide ((key : Int) < ((2 ^ tall : Nat) : Int)) = decide (key < 2 ^ tall)) := Lib.hid (by rw [decide_eq_decide]; omega)
  clear h
  generalize 2 ^ tall = n at *
  go_enter Try.func59, Try.ntmps59
  go_wp2
  go_ret
  exact ⟨by rw [← HE.out]; rfl, HX.out⟩
/-- .. is a key taken? -/
def takenM (tk : List Bool) (key : Nat) : Bool := tk.getD key false
theorem bools_at (h : RingAt w g tb F R seed tall tk) {key : Nat} (hk : key < 2 ^ tall) : w.cell? ⟨tb, key, none⟩ = some (.bool (takenM tk key)) := by
  refine (h.tak.cell key).trans ?_
  have hl := h.len
  simp [boolsC, takenM, List.getD, show key < tk.length by omega]
theorem taken_out (h : RingAt w g tb F R seed tall tk) {key : Nat} (hk : ¬ key < 2 ^ tall) : takenM tk key = false := by
  have hl := h.len
  simp [takenM, List.getD, List.getElem?_eq_none (show tk.length ≤ key by omega)]
theorem same_add (ad : Addr) (i : Nat) : (ad.add i).block = ad.block := add_block ad i
/-- The rows, each with its sums, in every world that has kept them. -/
theorem ring_rows (h : RingAt w g tb F R seed tall tk) : ∃ ad c, R = .slice (some ad) (tall + 1) c ∧ tall + 1 ≤ c ∧ c ≤ maxLen ∧ F ad.block ∧ ∀ j, j ≤ tall → ∃ ad2 c2, 2 ^ (tall - j) ≤ c2 ∧ c2 ≤ maxLen ∧ F ad2.block ∧
    ∀ W : World, (∀ b, F b → W.heap[b]? = w.heap[b]?) → W.cell? (ad.add j) = some (.slice (some ad2) (2 ^ (tall - j)) c2) ∧ ∀ i, i < 2 ^ (tall - j) → Cells W (ad2.add (i * 32)) (bv ((levM seed tall j).getD i [])) := by
  have hll0 : (levsM seed tall).length = tall + 1 := by simp [levsM]
  have hll : List.length (α := (Ty.sl DigT).Data) (levsM seed tall) = tall + 1 := hll0
  obtain ⟨A, c, xs, hv, h1, h2, h3, h4, h5⟩ := h.rows
  cases hv
  obtain ⟨ad, rfl, hF, hc⟩ := h4 (by intro e; rw [e] at hll; simp at hll)
  rw [hll] at h1 ⊢
  refine ⟨ad, c, rfl, h1, h2, hF, fun j hj => ?_⟩
  have hlj : j < List.length (α := (Ty.sl DigT).Data) (levsM seed tall) := by omega
  obtain ⟨v, hv, hw⟩ := AllH.sl_at h5 hlj
  have hel : (levsM seed tall)[j]'(by rw [hll0]; omega) = levM seed tall j := by simp [levsM]
  have hw' : (Ty.sl DigT).holds w F [v] (levM seed tall j) := by rw [← hel]; exact hw
  obtain ⟨A2, c2, ys, hv2, k1, k2, k3, k4, k5⟩ := hw'
  obtain rfl : v = _ := by simpa using hv2
  have hl := levM_length seed tall j hj
  have hpos : 0 < 2 ^ (tall - j) := Nat.two_pow_pos _
  obtain ⟨ad2, rfl, hF2, hc2⟩ := k4 (by
    intro e
    have e' : List.length (α := Dg) (levM seed tall j) = 0 := by rw [e]; rfl
    omega)
  replace k1 : List.length (α := Dg) (levM seed tall j) ≤ c2 := k1
  replace hv : xs[j]? = some (.slice (some ad2) (List.length (α := Dg) (levM seed tall j)) c2) := hv
  rw [hl] at k1 hv
  refine ⟨ad2, c2, k1, k2, hF2, fun W hW => ⟨?_, fun i hi => ?_⟩⟩
  · exact (hc.keep (hW _ hF)) j _ hv
  · have hi' : i < List.length (α := Dg) (levM seed tall j) := by rw [hl]; exact hi
    have := digs_at (w' := W) k5 (hc2.keep (hW _ hF2)) hi'
    rw [show (levM seed tall j).getD i [] = (levM seed tall j)[i] by simp [List.getD, hi']]
    exact this.1
end
end
section
open Go.RowKit

set_option maxRecDepth 100000 in
set_option maxHeartbeats 4000000 in
theorem Ring_Root {w : World} {g tb : Nat} {F : Fp} {R : Value} {seed : List UInt8} {tall : Nat} {tk : List Bool} (h : RingAt w g tb F R seed tall tk) :
    Calls Try.prog 19 #[.pointer (some ⟨g, 0, none⟩)] w fun e w' => e = .returned (.agg (bv (rootM seed tall)).toArray) ∧ Ext w w' := by
  have hzd := digest_zero
  have hdl : (bv (List.replicate 32 0)).length = 32 := by simp
  generalize bv (List.replicate 32 0) = D at hzd hdl
  have hx0 : Ext w (w.alloc (.cells D.toArray 52)).drew := ((Ext.refl w).alloc _).trans (Ext.refl _).drew
  have hz : Blk (w.alloc (.cells D.toArray 52)).drew w.heap.size 52 D := (Blk.new _ _ _).keep (Ext.refl _).drew (by simp)
  have hb := h.blk.keep hx0 (by simp)
  obtain ⟨ad, c, rfl, hc1, hc2, hFa, hrows⟩ := ring_rows h
  obtain ⟨ad2, c2, hk1, hk2, hF2, hrow⟩ := hrows tall (Nat.le_refl _)
  rw [Nat.sub_self, Nat.pow_zero] at hrow hk1
  have hro := bv_one (rootM seed tall)
  have hrl : (bv (rootM seed tall)).length = 32 := by rw [bv_length]; exact rootM_length _ _
  have hrow2 : ∀ W, Ext (w.alloc (.cells D.toArray 52)).drew W → W.cell? (ad.add tall) = some (.slice (some ad2) 1 c2) ∧ Cells W ad2 (bv (rootM seed tall)) := fun W hX => by
    have h1 := hrow W (fun b hb => (hx0.trans hX).block b (h.fp b hb).1 (by simp))
    refine ⟨h1.1, ?_⟩
    have h2 := h1.2 0 (by decide)
    rw [Nat.zero_mul] at h2
    exact h2
  have hcr := ringC_rows h.seedl tall (.slice (some ad) (tall + 1) c) (.slice (some ⟨tb, 0, none⟩) (2 ^ tall) (2 ^ tall))
  have hct := ringC_tall h.seedl tall (.slice (some ad) (tall + 1) c) (.slice (some ⟨tb, 0, none⟩) (2 ^ tall) (2 ^ tall))
  have hlow := h.low
  generalize bv (rootM seed tall) = RT at *
  generalize ringC seed tall (.slice (some ad) (tall + 1) c) (.slice (some ⟨tb, 0, none⟩) (2 ^ tall) (2 ^ tall)) = RC at *
  have HDL := Lib.hid hdl
  have HX0 := Lib.hid hx0
  have HZ := Lib.hid hz
  have HB := Lib.hid hb
  have HROW := Lib.hid hrow2
  have HRL := Lib.hid hrl
  have HCR := Lib.hid hcr
  have HCT := Lib.hid hct
  clear hdl hx0 hz hb hrow2 hrl hcr hct hrows hrow h
  unfold maxLen at hc2 hk2
  go_enter Try.func19, Try.ntmps19
  go_wp2_with (first
    | ((with_reducible refine wpDst 2 rfl ?_); refine wpList_alloc _ rfl 52 rfl _ hzd ?_)
    | fail)
  refine stab_store Ext ext_refl ext_trans [[0], [0, 1], [0, 1, 2], [0, 1, 2, 3], [4], [4, 5], [4, 5, 6], [4, 5, 6, 7], [0, 1, 2, 3, 4, 5, 6, 7, 8], [0, 1, 2, 3, 4, 5, 6, 7, 8, 9], [0, 1, 2, 3, 4, 5, 6, 7, 8, 9, 10], [0, 1, 2, 3, 4, 5, 6, 7, 8, 9, 10, 11], [0, 1, 2, 3, 4, 5, 6, 7, 8, 9, 10, 11, 12]] (fun i v wv => match i with | 0 => v = .pointer (some ⟨g, 0, none⟩) | 1 => v = .pointer (some ⟨g, 0, none⟩) | 2 => v = .pointer (some ⟨g, 33, none⟩) | 3 => v = .slice (some ad) (tall + 1) c | 4 => v = .pointer (some ⟨g, 0, none⟩) | 5 => v = .pointer (some ⟨g, 0, none⟩) | 6 => v = .pointer (some ⟨g, 32, none⟩) | 7 => v = .int .i64 (tall : Int) | 8 => v = .pointer (some (ad.add tall)) | 9 => v = .slice (some ad2) 1 c2 | 10 => v = .pointer (some ad2) | 11 => v = .agg RT.toArray | _ => True) (by kernel_rfl) (by kernel_rfl) (by kernel_rfl) (by kernel_rfl) (by simp) ?_ ?_ ?_
  · intro i v w1 w2 h hx
    match i, h with
    | 0, h => exact h
    | 1, h => exact h
    | 2, h => exact h
    | 3, h => exact h
    | 4, h => exact h
    | 5, h => exact h
    | 6, h => exact h
    | 7, h => exact h
    | 8, h => exact h
    | 9, h => exact h
    | 10, h => exact h
    | 11, h => exact h
    | i + 12, h => trivial
  · intro i hi o ho
    match i, hi, ho with
    | 0, _, ho =>
      obtain rfl := Option.some.inj ho
      intro s W hX hd K hK
      rw [if_pos (wanted_plain rfl)]
      clear hd
      replace hK : ∀ (v : Value) (W' : World), Ext W W' → (v = .pointer (some ⟨g, 0, none⟩)) → _ := hK
      simp only [mkOf, List.map_cons, List.map_nil, Act.put, List.setIfInBounds_toArray, List.set_cons_succ, List.set_cons_zero, Nat.reduceAdd, Nat.zero_add] at hK ⊢
      go_simp
      exact hK _ _ (Ext.refl _) rfl
    | 1, _, ho =>
      obtain rfl := Option.some.inj ho
      intro s W hX hd K hK
      rw [if_pos (wanted_plain rfl)]
      have d6 : (s 0) = .pointer (some ⟨g, 0, none⟩) := hd 0 (by decide) (by decide)
      clear hd
      replace hK : ∀ (v : Value) (W' : World), Ext W W' → (v = .pointer (some ⟨g, 0, none⟩)) → _ := hK
      simp only [mkOf, List.map_cons, List.map_nil, Act.put, List.setIfInBounds_toArray, List.set_cons_succ, List.set_cons_zero, Nat.reduceAdd, Nat.zero_add] at hK ⊢
      simp only [d6] at hK ⊢
      go_simp
      exact hK _ _ (Ext.refl _) rfl
    | 2, _, ho =>
      obtain rfl := Option.some.inj ho
      intro s W hX hd K hK
      rw [if_pos (wanted_plain rfl)]
      have d7 : (s 1) = .pointer (some ⟨g, 0, none⟩) := hd 1 (by decide) (by decide)
      clear hd
      replace hK : ∀ (v : Value) (W' : World), Ext W W' → (v = .pointer (some ⟨g, 33, none⟩)) → _ := hK
      simp only [mkOf, List.map_cons, List.map_nil, Act.put, List.setIfInBounds_toArray, List.set_cons_succ, List.set_cons_zero, Nat.reduceAdd, Nat.zero_add] at hK ⊢
      simp only [d7] at hK ⊢
      go_simp
      exact hK _ _ (Ext.refl _) rfl
    | 3, _, ho =>
      obtain rfl := Option.some.inj ho
      intro s W hX hd K hK
      rw [if_pos (wanted_plain rfl)]
      have d8 : (s 2) = .pointer (some ⟨g, 33, none⟩) := hd 2 (by decide) (by decide)
      clear hd
      replace hK : ∀ (v : Value) (W' : World), Ext W W' → (v = .slice (some ad) (tall + 1) c) → _ := hK
      simp only [mkOf, List.map_cons, List.map_nil, Act.put, List.setIfInBounds_toArray, List.set_cons_succ, List.set_cons_zero, Nat.reduceAdd, Nat.zero_add] at hK ⊢
      simp only [d8] at hK ⊢
      have c33 := (HB.out.keep hX (by simp)).cell 33
      rw [HCR.out] at c33
      go_simp
      exact hK _ _ (Ext.refl _) rfl
    | 4, _, ho =>
      obtain rfl := Option.some.inj ho
      intro s W hX hd K hK
      rw [if_pos (wanted_plain rfl)]
      clear hd
      replace hK : ∀ (v : Value) (W' : World), Ext W W' → (v = .pointer (some ⟨g, 0, none⟩)) → _ := hK
      simp only [mkOf, List.map_cons, List.map_nil, Act.put, List.setIfInBounds_toArray, List.set_cons_succ, List.set_cons_zero, Nat.reduceAdd, Nat.zero_add] at hK ⊢
      go_simp
      exact hK _ _ (Ext.refl _) rfl
    | 5, _, ho =>
      obtain rfl := Option.some.inj ho
      intro s W hX hd K hK
      rw [if_pos (wanted_plain rfl)]
      have d10 : (s 4) = .pointer (some ⟨g, 0, none⟩) := hd 4 (by decide) (by decide)
      clear hd
      replace hK : ∀ (v : Value) (W' : World), Ext W W' → (v = .pointer (some ⟨g, 0, none⟩)) → _ := hK
      simp only [mkOf, List.map_cons, List.map_nil, Act.put, List.setIfInBounds_toArray, List.set_cons_succ, List.set_cons_zero, Nat.reduceAdd, Nat.zero_add] at hK ⊢
      simp only [d10] at hK ⊢
      go_simp
      exact hK _ _ (Ext.refl _) rfl
    | 6, _, ho =>
      obtain rfl := Option.some.inj ho
      intro s W hX hd K hK
      rw [if_pos (wanted_plain rfl)]
      have d11 : (s 5) = .pointer (some ⟨g, 0, none⟩) := hd 5 (by decide) (by decide)
      clear hd
      replace hK : ∀ (v : Value) (W' : World), Ext W W' → (v = .pointer (some ⟨g, 32, none⟩)) → _ := hK
      simp only [mkOf, List.map_cons, List.map_nil, Act.put, List.setIfInBounds_toArray, List.set_cons_succ, List.set_cons_zero, Nat.reduceAdd, Nat.zero_add] at hK ⊢
      simp only [d11] at hK ⊢
      go_simp
      exact hK _ _ (Ext.refl _) rfl
    | 7, _, ho =>
      obtain rfl := Option.some.inj ho
      intro s W hX hd K hK
      rw [if_pos (wanted_plain rfl)]
      have d12 : (s 6) = .pointer (some ⟨g, 32, none⟩) := hd 6 (by decide) (by decide)
      clear hd
      replace hK : ∀ (v : Value) (W' : World), Ext W W' → (v = .int .i64 (tall : Int)) → _ := hK
      simp only [mkOf, List.map_cons, List.map_nil, Act.put, List.setIfInBounds_toArray, List.set_cons_succ, List.set_cons_zero, Nat.reduceAdd, Nat.zero_add] at hK ⊢
      simp only [d12] at hK ⊢
      have c32 := (HB.out.keep hX (by simp)).cell 32
      rw [HCT.out] at c32
      go_simp
      exact hK _ _ (Ext.refl _) rfl
    | 8, _, ho =>
      obtain rfl := Option.some.inj ho
      intro s W hX hd K hK
      rw [if_pos (wanted_plain rfl)]
      have d9 : (s 3) = .slice (some ad) (tall + 1) c := hd 3 (by decide) (by decide)
      have d13 : (s 7) = .int .i64 (tall : Int) := hd 7 (by decide) (by decide)
      clear hd
      replace hK : ∀ (v : Value) (W' : World), Ext W W' → (v = .pointer (some (ad.add tall))) → _ := hK
      simp only [mkOf, List.map_cons, List.map_nil, Act.put, List.setIfInBounds_toArray, List.set_cons_succ, List.set_cons_zero, Nat.reduceAdd, Nat.zero_add] at hK ⊢
      simp only [d9, d13] at hK ⊢
      have hlt : (tall : Int) < (tall : Int) + 1 := by omega
      go_simp
      exact hK _ _ (Ext.refl _) rfl
    | 9, _, ho =>
      obtain rfl := Option.some.inj ho
      intro s W hX hd K hK
      rw [if_pos (wanted_plain rfl)]
      have d14 : (s 8) = .pointer (some (ad.add tall)) := hd 8 (by decide) (by decide)
      clear hd
      replace hK : ∀ (v : Value) (W' : World), Ext W W' → (v = .slice (some ad2) 1 c2) → _ := hK
      simp only [mkOf, List.map_cons, List.map_nil, Act.put, List.setIfInBounds_toArray, List.set_cons_succ, List.set_cons_zero, Nat.reduceAdd, Nat.zero_add] at hK ⊢
      simp only [d14] at hK ⊢
      have cr := (HROW.out W hX).1
      go_simp
      exact hK _ _ (Ext.refl _) rfl
    | 10, _, ho =>
      obtain rfl := Option.some.inj ho
      intro s W hX hd K hK
      rw [if_pos (wanted_plain rfl)]
      have d15 : (s 9) = .slice (some ad2) 1 c2 := hd 9 (by decide) (by decide)
      clear hd
      replace hK : ∀ (v : Value) (W' : World), Ext W W' → (v = .pointer (some ad2)) → _ := hK
      simp only [mkOf, List.map_cons, List.map_nil, Act.put, List.setIfInBounds_toArray, List.set_cons_succ, List.set_cons_zero, Nat.reduceAdd, Nat.zero_add] at hK ⊢
      simp only [d15] at hK ⊢
      go_simp
      exact hK _ _ (Ext.refl _) rfl
    | 11, _, ho =>
      obtain rfl := Option.some.inj ho
      intro s W hX hd K hK
      rw [if_pos (wanted_plain rfl)]
      have d16 : (s 10) = .pointer (some ad2) := hd 10 (by decide) (by decide)
      clear hd
      replace hK : ∀ (v : Value) (W' : World), Ext W W' → (v = .agg RT.toArray) → _ := hK
      simp only [mkOf, List.map_cons, List.map_nil, Act.put, List.setIfInBounds_toArray, List.set_cons_succ, List.set_cons_zero, Nat.reduceAdd, Nat.zero_add] at hK ⊢
      simp only [d16] at hK ⊢
      refine wp_load_agg 52 (.tmp 16) rfl ad2 (by simp [Act.eval]) RT _ Try.underlying52 rfl (digest_size HRL.out) (HROW.out W hX).2 ?_
      exact hK _ _ (Ext.refl _) rfl
    | i + 12, hi, _ => exact absurd hi (by simp)
  · intro o ho
    obtain rfl := Option.some.inj ho
    intro s W hX hd K hK
    rw [if_pos (wanted_plain rfl)]
    have d6 : (s 0) = .pointer (some ⟨g, 0, none⟩) := hd 0 (by decide)
    have d7 : (s 1) = .pointer (some ⟨g, 0, none⟩) := hd 1 (by decide)
    have d8 : (s 2) = .pointer (some ⟨g, 33, none⟩) := hd 2 (by decide)
    have d9 : (s 3) = .slice (some ad) (tall + 1) c := hd 3 (by decide)
    have d10 : (s 4) = .pointer (some ⟨g, 0, none⟩) := hd 4 (by decide)
    have d11 : (s 5) = .pointer (some ⟨g, 0, none⟩) := hd 5 (by decide)
    have d12 : (s 6) = .pointer (some ⟨g, 32, none⟩) := hd 6 (by decide)
    have d13 : (s 7) = .int .i64 (tall : Int) := hd 7 (by decide)
    have d14 : (s 8) = .pointer (some (ad.add tall)) := hd 8 (by decide)
    have d15 : (s 9) = .slice (some ad2) 1 c2 := hd 9 (by decide)
    have d16 : (s 10) = .pointer (some ad2) := hd 10 (by decide)
    have d17 : (s 11) = .agg RT.toArray := hd 11 (by decide)
    clear hd
    simp only [mkOf, List.map_cons, List.map_nil, Act.put, List.setIfInBounds_toArray, List.set_cons_succ, List.set_cons_zero, Nat.reduceAdd, Nat.zero_add]
    have hB := HZ.out.keep hX (by simp)
    refine wp_store_row 52 (.tmp 2) (.tmp 17) rfl w.heap.size (by simp [Act.eval]) D RT _ (by simpa [Act.eval] using d17) hB (digest_size HRL.out) (by rw [HRL.out, HDL.out]) hro ?_
    refine hK _ _ ?_
    have hxw : Ext w (W.setRow w.heap.size RT.toArray) := setRow_grown (HX0.out.trans hX) _ _ (Nat.le_refl _)
    have hc : Cells (W.setRow w.heap.size RT.toArray) ⟨w.heap.size, 0, none⟩ RT := Blk.cells (t := 52) (setRow_at hB)
    (try simp only [Exit.then])
    go_wp2_with fail
    (try simp only [Exit.inBlock, Exit.then])
    refine bodyPost_ret (results_agg rfl _ _ _ _ _ rfl Try.underlying52 rfl (digest_size HRL.out) hc) rfl ?_
    exact ⟨rfl, hxw⟩
end
section
open Go.RowKit

def GrB (g : Nat) (w w' : World) : Prop := w.grownBy w' (some g)
theorem GrB.of {g : Nat} {w w' : World} (h : GrB g w w') : w.grownBy w' (some g) := h
theorem GrB.rf (g : Nat) (a : World) : GrB g a a := World.grownBy.refl _ _
theorem GrB.tr (g : Nat) (a b c : World) (h : GrB g a b) (k : GrB g b c) : GrB g a c := World.grownBy.trans h k
section
variable {P : Program} {md : Region.Mode} {ops : Array Oper} {Q : Exit → Act → World → Prop} {B : Nat}
theorem takeG (i : Nat) {oi : Oper} {fuel : Nat} {listed : Array Bool} {a : Act} {w : World} (hi : (ops.toList.drop i).head? = some oi)
    (hs : Region.noSelect ops = true) (hf : Region.free md ops listed i = true) (hr : (Region.ready md ops listed).contains i = true) (hc : valB oi.op = true)
    (hQ : ∀ v c a w, Q (.panic c) (a.put oi.dst v) w → Q (.panic c) a w) (hw : Region.wanted oi (yielded ops a.tmps) = true)
    (h : ∀ K : Act → Prop, (∀ a', wpAnyM P md ops Q (GrB B) fuel (listed.setIfInBounds i true) a' w → K a') → oi.quiet P a (GrB B w) K) : wpAnyM P md ops Q (GrB B) (fuel + 1) listed a w :=
  takeM (GrB.rf B) (GrB.tr B) i (op_at hi) hs hf hr hQ hw fun K hK => quiet_val hc (h K hK)
theorem skipG (i : Nat) {oi : Oper} {fuel : Nat} {listed : Array Bool} {a : Act} {w : World} (hi : (ops.toList.drop i).head? = some oi)
    (hs : Region.noSelect ops = true) (hf : Region.free md ops listed i = true) (hr : (Region.ready md ops listed).contains i = true)
    (hQ : ∀ v c a w, Q (.panic c) (a.put oi.dst v) w → Q (.panic c) a w) (hw : Region.wanted oi (yielded ops a.tmps) = false)
    (h : wpAnyM P md ops Q (GrB B) fuel (listed.setIfInBounds i true) (a.put oi.dst undef) w) : wpAnyM P md ops Q (GrB B) (fuel + 1) listed a w :=
  skipM (GrB.rf B) (GrB.tr B) i (op_at hi) hs hf hr hQ hw h
theorem nilG (i : Nat) {oi : Oper} {fuel : Nat} {listed : Array Bool} {a : Act} {w : World} (hi : (ops.toList.drop i).head? = some oi)
    (hs : Region.noSelect ops = true) (hf : Region.free md ops listed i = true) (hr : (Region.ready md ops listed).contains i = true) (x : Operand) (ho : oi.op = .nilCheck x) (ad : Addr) (hx : a.eval x = .pointer (some ad))
    (hQ : ∀ v c a w, Q (.panic c) (a.put oi.dst v) w → Q (.panic c) a w) (hw : Region.wanted oi (yielded ops a.tmps) = true)
    (h : wpAnyM P md ops Q (GrB B) fuel (listed.setIfInBounds i true) (a.put oi.dst (.pointer (some ad))) w) : wpAnyM P md ops Q (GrB B) (fuel + 1) listed a w :=
  takeM (GrB.rf B) (GrB.tr B) i (op_at hi) hs hf hr hQ hw fun K hK => ⟨_, fun w' _ => by unfold execOp; simp only [ho, hx]; rfl, hK _ h⟩
end
section
variable {P : Program} {C : World → Prop} {o : Oper} {a : Act} {K : Act → Prop}
/-- A comparison whose run is known. -/
theorem quiet_bin2 (op : BinOp) (t : TypeId) {t' : TypeId} (x y : Operand) (ho : o.op = .binOp op t x y t') (u v : Value) {r : Value} (hx : a.eval x = u) (hy : a.eval y = v)
    (hg : ∀ w, (eqGuard op t x y u v).run P w = .ok () w) (hb : ∀ w, (binOp op t u v).run P w = .ok r w) (hk : K (a.put o.dst r)) : o.quiet P a C K :=
  quiet_run r (fun w _ => by
    unfold execOp
    simp only [ho, hx, hy, Sem.run_bind, hg, hb, Result.andThen_ok, Sem.run_pure]) hk
end
end
section
open Go.RowKit

theorem side_lt {m n : Nat} (h : m < 2 ^ n) (hn : 0 < n) : sideM m < 2 ^ n := by
  obtain ⟨k, rfl⟩ : ∃ k, n = k + 1 := ⟨n - 1, by omega⟩
  rw [Nat.pow_succ] at *
  unfold sideM
  split <;> omega
theorem xor_side : ∀ m : Fin 256, bits .xor .i64 (m.val : Int) 1 = ((sideM m.val : Nat) : Int) := by decide +kernel
theorem xor_run (P : Program) (t : TypeId) {m sm : Nat} (h : bits .xor .i64 (m : Int) 1 = (sm : Int)) (w : World) : (binOp .xor t (.int .i64 (m : Int)) (.int .i64 1)).run P w = .ok (.int .i64 (sm : Int)) w := by rw [← h]; rfl
theorem quo_two (P : Program) (t : TypeId) {m : Nat} (hm : m < 1000) (w : World) : (binOp .quo t (.int .i64 (m : Int)) (.int .i64 2)).run P w = .ok (.int .i64 ((m / 2 : Nat) : Int)) w := by
  have h : IntKind.i64.wrap ((m : Int).tdiv 2) = ((m / 2 : Nat) : Int) := by
    rw [Int.tdiv_eq_ediv_of_nonneg (by omega)]
    simp [IntKind.wrap, IntKind.bits, IntKind.signed]
    omega
  rw [← h]; rfl
theorem key_row {tall key j : Nat} (hk : key < 2 ^ tall) (hj : j ≤ tall) : key / 2 ^ j < 2 ^ (tall - j) := by
  rw [Nat.div_lt_iff_lt_mul (Nat.two_pow_pos j), ← Nat.pow_add, show tall - j + j = tall by omega]
  exact hk
set_option maxRecDepth 100000 in
set_option maxHeartbeats 8000000 in
theorem Ring_show {w : World} {g tb : Nat} {F : Fp} {R : Value} {seed : List UInt8} {tall : Nat} {tk : List Bool} (h : RingAt w g tb F R seed tall tk) (key : Nat) (hk : key < 2 ^ tall) (d : Dg) (hd : List.length (α := UInt8) d = 32) :
    Calls Try.prog 60 #[.pointer (some ⟨g, 0, none⟩), .int .u32 (key : Int), .agg (bv d).toArray] w fun e w' => ∃ v, e = .returned (.agg (sigC (bv (signM seed key d)) key v).toArray) ∧ OwnD 52 w' v (wayM seed tall key) ∧ Ext w w' ∧ ∀ b, v.ownBlock = some b → w.heap.size ≤ b := by
  have hp8 := pow_low h.low
  have hkey : (Lit.int .u32 (key : Int)).wf = true := by simp [Lit.wf, IntKind.bits, IntKind.signed, IntKind.min, IntKind.max]; omega
  obtain ⟨i1, z1, hi1, hz1, hi2, hi3, hi4⟩ := partsTo05
  obtain ⟨fields, hfu, hfp⟩ := fieldsTo05
  have hgl : (bv (signM seed key d)).length = 1024 := by rw [bv_length]; exact signM_length _ _ _
  have hgo := bv_one (signM seed key d)
  have hnew := fun W => NewKey seed h.seedl key W
  have hsg := fun W => Sign seed h.seedl key hkey d hd W
  obtain ⟨ZR, hzr, hzl, hfl⟩ : ∃ ZR : List Value, (Try.prog.info? 70).bind (fun i => i.zero.map (·.cells)) = some ZR.toArray ∧ ZR.length = 1026 ∧ fillL ([(0, 1024), (1024, 1), (1025, 1)].toArray[·]?) ZR [(0, bv (signM seed key d)), (1, [.int .u32 (key : Int)])] = some (sigC (bv (signM seed key d)) key (.slice none 0 0)) := by
    refine ⟨_, zOutTo05, by simp, ?_⟩
    simp [fillL, signM_length, sigC, List.drop_append]
  generalize bv (signM seed key d) = SG at *
  generalize keyC seed key = KC at *
  have hx0 : Ext w ((w.alloc (.cells (bv d).toArray 52)).alloc (.cells ZR.toArray 70)).drew := (((Ext.refl w).alloc _).alloc _).trans (Ext.refl _).drew
  have hbd : Blk ((w.alloc (.cells (bv d).toArray 52)).alloc (.cells ZR.toArray 70)).drew w.heap.size 52 (bv d) := ((Blk.new _ _ _).keep ((Ext.refl _).alloc _) (by simp)).keep (Ext.refl _).drew (by simp)
  have hbz : Blk ((w.alloc (.cells (bv d).toArray 52)).alloc (.cells ZR.toArray 70)).drew (w.heap.size + 1) 70 ZR := (Blk.fresh (by simp) _ _).keep (Ext.refl _).drew (by simp)
  have hdl : (bv d).length = 32 := by rw [bv_length]; exact hd
  have hsl : (bv seed).length = 32 := by rw [bv_length]; exact h.seedl
  obtain ⟨ad, c, rfl, hc1, hc2, hFa, hrows⟩ := ring_rows h
  have hsd : ∀ W, Ext ((w.alloc (.cells (bv d).toArray 52)).alloc (.cells ZR.toArray 70)).drew W → Cells W ⟨g, 0, none⟩ (bv seed) := fun W hX => by
    have h1 := ((h.blk.keep hx0 (by simp)).keep hX (by simp)).cells.take 32
    rw [ringC_take h.seedl] at h1
    exact h1
  have hcr := ringC_rows h.seedl tall (.slice (some ad) (tall + 1) c) (.slice (some ⟨tb, 0, none⟩) (2 ^ tall) (2 ^ tall))
  have hct := ringC_tall h.seedl tall (.slice (some ad) (tall + 1) c) (.slice (some ⟨tb, 0, none⟩) (2 ^ tall) (2 ^ tall))
  have hlow := h.low
  have hb := h.blk
  have hfp9 : ∀ b, F b → b < w.heap.size := fun b hb => (h.fp b hb).1
  have hall := fun (j i : Nat) (hj : j ≤ tall) (hi : i < 2 ^ (tall - j)) => levM_all seed tall j i hj hi
  have hwt := fun (j : Nat) (hj : j < tall) => wayM_take seed tall key hj
  have hwl := wayM_length seed tall key
  have hrowk := fun (j : Nat) (hj : j ≤ tall) => key_row hk hj
  clear h
  generalize ringC seed tall (.slice (some ad) (tall + 1) c) (.slice (some ⟨tb, 0, none⟩) (2 ^ tall) (2 ^ tall)) = RC at *
  generalize bv seed = SC at *
  generalize bv d = DC at *
  have HDL := Lib.hid hdl
  have HSL := Lib.hid hsl
  have HGL := Lib.hid hgl
  have HZL := Lib.hid hzl
  have HFL := Lib.hid hfl
  have HX0 := Lib.hid hx0
  have HBD := Lib.hid hbd
  have HBZ := Lib.hid hbz
  have HSD := Lib.hid hsd
  have HNEW := Lib.hid hnew
  have HSG := Lib.hid hsg
  have HCR := Lib.hid hcr
  have HCT := Lib.hid hct
  have HB := Lib.hid hb
  have HROWS := Lib.hid hrows
  have HFP := Lib.hid hfp9
  have HALL := Lib.hid hall
  have HWT := Lib.hid hwt
  have HWL := Lib.hid hwl
  have HRK := Lib.hid hrowk
  have HLOW := Lib.hid hlow
  have HFA := Lib.hid hFa
  clear hdl hsl hgl hzl hfl hx0 hbd hbz hsd hnew hsg hcr hct hb hrows hfp9 hall hwt hwl hrowk hFa
  unfold maxLen at hc2
  go_enter Try.func60, Try.ntmps60
  go_wp2_with (first
    | ((with_reducible refine wpDst 6 rfl ?_); refine wpList_alloc _ rfl 70 rfl _ hzr ?_)
    | fail)
  simp only [World.size_alloc]
  refine stab_store Ext ext_refl ext_trans [[0], [0, 1], [0, 1, 2], [0, 1, 2, 3], [4], [0, 1, 2, 3, 4, 5], [6], [0, 1, 2, 3, 4, 5, 6, 7], [8], [0, 1, 2, 3, 4, 5, 6, 7, 8, 9], [10], [0, 1, 2, 3, 4, 5, 6, 7, 8, 9, 10, 11]] (fun i v wv => match i with | 0 => v = .pointer (some ⟨g, 0, none⟩) | 1 => v = .pointer (some ⟨g, 0, none⟩) | 2 => v = .pointer (some ⟨g, 0, none⟩) | 3 => v = .agg SC.toArray | 4 => v = .int .u32 (key : Int) | 5 => v = .agg KC.toArray | 6 => v = .agg DC.toArray | 7 => v = .agg SG.toArray | 8 => v = .int .u32 (key : Int) | 9 => v = .agg (sigC SG key (.slice none 0 0)).toArray | 10 => ∃ sg, v = .pointer (some ⟨sg, 0, none⟩) ∧ w.heap.size + 2 ≤ sg ∧ Blk wv sg 70 ZR | _ => True) (by kernel_rfl) (by kernel_rfl) (by kernel_rfl) (by kernel_rfl) (by simp) ?_ ?_ ?_
  · intro i v w1 w2 h hx
    match i, h with
    | 0, h => exact h
    | 1, h => exact h
    | 2, h => exact h
    | 3, h => exact h
    | 4, h => exact h
    | 5, h => exact h
    | 6, h => exact h
    | 7, h => exact h
    | 8, h => exact h
    | 9, h => exact h
    | 10, h =>
      replace h : ∃ sg, v = .pointer (some ⟨sg, 0, none⟩) ∧ w.heap.size + 2 ≤ sg ∧ Blk w1 sg 70 ZR := h
      show ∃ sg, v = .pointer (some ⟨sg, 0, none⟩) ∧ w.heap.size + 2 ≤ sg ∧ Blk w2 sg 70 ZR
      obtain ⟨sg, h1, h2, h3⟩ := h
      exact ⟨sg, h1, h2, h3.keep hx (by simp)⟩
    | i + 11, h => trivial
  · intro i hi o ho
    match i, hi, ho with
    | 0, _, ho =>
      obtain rfl := Option.some.inj ho
      intro s W hX hd K hK
      rw [if_pos (wanted_plain rfl)]
      clear hd
      replace hK : ∀ (v : Value) (W' : World), Ext W W' → (v = .pointer (some ⟨g, 0, none⟩)) → _ := hK
      simp only [mkOf, List.map_cons, List.map_nil, Act.put, List.setIfInBounds_toArray, List.set_cons_succ, List.set_cons_zero, Nat.reduceAdd, Nat.zero_add] at hK ⊢
      go_simp
      exact hK _ _ (Ext.refl _) rfl
    | 1, _, ho =>
      obtain rfl := Option.some.inj ho
      intro s W hX hd K hK
      rw [if_pos (wanted_plain rfl)]
      have d11 : (s 0) = .pointer (some ⟨g, 0, none⟩) := hd 0 (by decide) (by decide)
      clear hd
      replace hK : ∀ (v : Value) (W' : World), Ext W W' → (v = .pointer (some ⟨g, 0, none⟩)) → _ := hK
      simp only [mkOf, List.map_cons, List.map_nil, Act.put, List.setIfInBounds_toArray, List.set_cons_succ, List.set_cons_zero, Nat.reduceAdd, Nat.zero_add] at hK ⊢
      simp only [d11] at hK ⊢
      go_simp
      exact hK _ _ (Ext.refl _) rfl
    | 2, _, ho =>
      obtain rfl := Option.some.inj ho
      intro s W hX hd K hK
      rw [if_pos (wanted_plain rfl)]
      have d12 : (s 1) = .pointer (some ⟨g, 0, none⟩) := hd 1 (by decide) (by decide)
      clear hd
      replace hK : ∀ (v : Value) (W' : World), Ext W W' → (v = .pointer (some ⟨g, 0, none⟩)) → _ := hK
      simp only [mkOf, List.map_cons, List.map_nil, Act.put, List.setIfInBounds_toArray, List.set_cons_succ, List.set_cons_zero, Nat.reduceAdd, Nat.zero_add] at hK ⊢
      simp only [d12] at hK ⊢
      go_simp
      exact hK _ _ (Ext.refl _) rfl
    | 3, _, ho =>
      obtain rfl := Option.some.inj ho
      intro s W hX hd K hK
      rw [if_pos (wanted_plain rfl)]
      have d13 : (s 2) = .pointer (some ⟨g, 0, none⟩) := hd 2 (by decide) (by decide)
      clear hd
      replace hK : ∀ (v : Value) (W' : World), Ext W W' → (v = .agg SC.toArray) → _ := hK
      simp only [mkOf, List.map_cons, List.map_nil, Act.put, List.setIfInBounds_toArray, List.set_cons_succ, List.set_cons_zero, Nat.reduceAdd, Nat.zero_add] at hK ⊢
      simp only [d13] at hK ⊢
      refine wp_load_agg 28 (.tmp 13) rfl ⟨g, 0, none⟩ (by simp [Act.eval]) SC _ Try.underlying28 rfl (szElTo05 HSL.out) (HSD.out W hX) ?_
      exact hK _ _ (Ext.refl _) rfl
    | 4, _, ho =>
      obtain rfl := Option.some.inj ho
      intro s W hX hd K hK
      rw [if_pos (wanted_plain rfl)]
      clear hd
      replace hK : ∀ (v : Value) (W' : World), Ext W W' → (v = .int .u32 (key : Int)) → _ := hK
      simp only [mkOf, List.map_cons, List.map_nil, Act.put, List.setIfInBounds_toArray, List.set_cons_succ, List.set_cons_zero, Nat.reduceAdd, Nat.zero_add] at hK ⊢
      go_simp
      exact hK _ _ (Ext.refl _) rfl
    | 5, _, ho =>
      obtain rfl := Option.some.inj ho
      intro s W hX hd K hK
      rw [if_pos (wanted_plain rfl)]
      have d14 : (s 3) = .agg SC.toArray := hd 3 (by decide) (by decide)
      have d15 : (s 4) = .int .u32 (key : Int) := hd 4 (by decide) (by decide)
      clear hd
      replace hK : ∀ (v : Value) (W' : World), Ext W W' → (v = .agg KC.toArray) → _ := hK
      simp only [mkOf, List.map_cons, List.map_nil, Act.put, List.setIfInBounds_toArray, List.set_cons_succ, List.set_cons_zero, Nat.reduceAdd, Nat.zero_add] at hK ⊢
      simp only [d14, d15] at hK ⊢
      go_simp
      refine (HNEW.out _).mono ?_
      rintro e w' ⟨rfl, hx⟩
      exact hK _ _ hx rfl
    | 6, _, ho =>
      obtain rfl := Option.some.inj ho
      intro s W hX hd K hK
      rw [if_pos (wanted_plain rfl)]
      clear hd
      replace hK : ∀ (v : Value) (W' : World), Ext W W' → (v = .agg DC.toArray) → _ := hK
      simp only [mkOf, List.map_cons, List.map_nil, Act.put, List.setIfInBounds_toArray, List.set_cons_succ, List.set_cons_zero, Nat.reduceAdd, Nat.zero_add] at hK ⊢
      refine wp_load_agg 52 (.tmp 5) rfl _ rfl DC _ Try.underlying52 rfl (digest_size HDL.out) (HBD.out.keep hX (by simp)).cells ?_
      exact hK _ _ (Ext.refl _) rfl
    | 7, _, ho =>
      obtain rfl := Option.some.inj ho
      intro s W hX hd K hK
      rw [if_pos (wanted_plain rfl)]
      have d16 : (s 5) = .agg KC.toArray := hd 5 (by decide) (by decide)
      have d17 : (s 6) = .agg DC.toArray := hd 6 (by decide) (by decide)
      clear hd
      replace hK : ∀ (v : Value) (W' : World), Ext W W' → (v = .agg SG.toArray) → _ := hK
      simp only [mkOf, List.map_cons, List.map_nil, Act.put, List.setIfInBounds_toArray, List.set_cons_succ, List.set_cons_zero, Nat.reduceAdd, Nat.zero_add] at hK ⊢
      simp only [d16, d17] at hK ⊢
      go_simp
      refine (HSG.out _).mono ?_
      rintro e w' ⟨rfl, hx⟩
      exact hK _ _ hx rfl
    | 8, _, ho =>
      obtain rfl := Option.some.inj ho
      intro s W hX hd K hK
      rw [if_pos (wanted_plain rfl)]
      clear hd
      replace hK : ∀ (v : Value) (W' : World), Ext W W' → (v = .int .u32 (key : Int)) → _ := hK
      simp only [mkOf, List.map_cons, List.map_nil, Act.put, List.setIfInBounds_toArray, List.set_cons_succ, List.set_cons_zero, Nat.reduceAdd, Nat.zero_add] at hK ⊢
      go_simp
      exact hK _ _ (Ext.refl _) rfl
    | 9, _, ho =>
      obtain rfl := Option.some.inj ho
      intro s W hX hd K hK
      rw [if_pos (wanted_plain rfl)]
      have d18 : (s 7) = .agg SG.toArray := hd 7 (by decide) (by decide)
      have d19 : (s 8) = .int .u32 (key : Int) := hd 8 (by decide) (by decide)
      clear hd
      replace hK : ∀ (v : Value) (W' : World), Ext W W' → (v = .agg (sigC SG key (.slice none 0 0)).toArray) → _ := hK
      simp only [mkOf, List.map_cons, List.map_nil, Act.put, List.setIfInBounds_toArray, List.set_cons_succ, List.set_cons_zero, Nat.reduceAdd, Nat.zero_add] at hK ⊢
      simp only [d18, d19] at hK ⊢
      refine wp_known _ (exec_build_st W 70 #[(0, .tmp 18), (1, .tmp 19)] rfl fields ZR (sigC SG key (.slice none 0 0)) _ [(0, SG), (1, [.int .u32 (key : Int)])] hfu hzr hfp (by simp [Value.cells, Act.eval]) HFL.out) ?_
      exact hK _ _ (Ext.refl _) rfl
    | 10, _, ho =>
      obtain rfl := Option.some.inj ho
      intro s W hX hd K hK
      rw [if_pos (wanted_plain rfl)]
      clear hd
      replace hK : ∀ (v : Value) (W' : World), Ext W W' → (∃ sg, v = .pointer (some ⟨sg, 0, none⟩) ∧ w.heap.size + 2 ≤ sg ∧ Blk W' sg 70 ZR) → _ := hK
      simp only [mkOf, List.map_cons, List.map_nil, Act.put, List.setIfInBounds_toArray, List.set_cons_succ, List.set_cons_zero, Nat.reduceAdd, Nat.zero_add] at hK ⊢
      refine wp_alloc_agg 70 rfl ZR hzr ?_
      exact hK _ _ ((Ext.refl _).alloc _) ⟨_, rfl, by have := hX.size; simp at this; omega, Blk.new _ _ _⟩
    | i + 11, hi, _ => exact absurd hi (by simp)
  · intro o ho
    obtain rfl := Option.some.inj ho
    intro s W hX hd K hK
    rw [if_pos (wanted_plain rfl)]
    have d11 : (s 0) = .pointer (some ⟨g, 0, none⟩) := hd 0 (by decide)
    have d12 : (s 1) = .pointer (some ⟨g, 0, none⟩) := hd 1 (by decide)
    have d13 : (s 2) = .pointer (some ⟨g, 0, none⟩) := hd 2 (by decide)
    have d14 : (s 3) = .agg SC.toArray := hd 3 (by decide)
    have d15 : (s 4) = .int .u32 (key : Int) := hd 4 (by decide)
    have d16 : (s 5) = .agg KC.toArray := hd 5 (by decide)
    have d17 : (s 6) = .agg DC.toArray := hd 6 (by decide)
    have d18 : (s 7) = .agg SG.toArray := hd 7 (by decide)
    have d19 : (s 8) = .int .u32 (key : Int) := hd 8 (by decide)
    have d20 : (s 9) = .agg (sigC SG key (.slice none 0 0)).toArray := hd 9 (by decide)
    have d7 : ∃ sg, (s 10) = .pointer (some ⟨sg, 0, none⟩) ∧ w.heap.size + 2 ≤ sg ∧ Blk W sg 70 ZR := hd 10 (by decide)
    clear hd
    simp only [mkOf, List.map_cons, List.map_nil, Act.put, List.setIfInBounds_toArray, List.set_cons_succ, List.set_cons_zero, Nat.reduceAdd, Nat.zero_add]
    obtain ⟨sg, hsg, hsgb, hB⟩ := d7
    refine wp_store_row 70 (.tmp 7) (.tmp 20) rfl sg (by simpa [Act.eval] using hsg) ZR (sigC SG key (.slice none 0 0)) _ (by simpa [Act.eval] using d20) hB (szOutTo05 (sigC_len HGL.out _ _)) (by rw [sigC_len HGL.out, HZL.out]) (sigC_one hgo _ _ _ _) ?_
    refine hK _ _ ?_
    have hx9 : Ext w (W.setRow sg (sigC SG key (.slice none 0 0)).toArray) := setRow_grown (HX0.out.trans hX) _ _ (by omega)
    have hbs : Blk (W.setRow sg (sigC SG key (.slice none 0 0)).toArray) sg 70 (sigC SG key (.slice none 0 0)) := setRow_at hB
    have hbz2 := (HBZ.out.keep hX (by simp)).keep (setRow_only (g := sg) (sigC SG key (.slice none 0 0)).toArray) (by simp; omega)
    have hb2 := HB.out.keep hx9 (by simp)
    clear d20 hB hX hK
    generalize W.setRow sg (sigC SG key (.slice none 0 0)).toArray = w1 at *
    have HX9 := Lib.hid hx9
    have HBS0 := Lib.hid hbs
    have HBZ2 := Lib.hid hbz2
    have HB3 : Hid (Blk w1.drew g 107 RC) := Lib.hid hb2
    have hk64 : (key : Int) < 9223372036854775808 := by omega
    clear hx9 hbs hbz2 hb2
    (try simp only [Exit.then])
    go_wp2_with fail
    refine stab_plain Ext ext_refl ext_trans [[0], [0, 1], [0, 1, 2], [0, 1, 2, 3], [4], [4, 5], [4, 5, 6], [4, 5, 6, 7], [0, 1, 2, 3, 4, 5, 6, 7, 8], [0, 1, 2, 3, 4, 5, 6, 7, 8, 9], [10]] (fun i v wv => match i with | 0 => v = .pointer (some ⟨g, 0, none⟩) | 1 => v = .pointer (some ⟨g, 0, none⟩) | 2 => v = .pointer (some ⟨g, 33, none⟩) | 3 => v = .slice (some ad) (tall + 1) c | 4 => v = .pointer (some ⟨g, 0, none⟩) | 5 => v = .pointer (some ⟨g, 0, none⟩) | 6 => v = .pointer (some ⟨g, 32, none⟩) | 7 => v = .int .i64 (tall : Int) | 8 => v = .slice (some ad) tall c | 9 => v = .int .i64 (tall : Int) | 10 => v = .int .i64 0 | _ => True) (by kernel_rfl) (by kernel_rfl) (by kernel_rfl) ?_ ?_ ?_
    · intro i v w1 w2 h hx
      match i, h with
      | 0, h => exact h
      | 1, h => exact h
      | 2, h => exact h
      | 3, h => exact h
      | 4, h => exact h
      | 5, h => exact h
      | 6, h => exact h
      | 7, h => exact h
      | 8, h => exact h
      | 9, h => exact h
      | 10, h => exact h
      | i + 11, h => trivial
    · intro i hi o ho
      match i, hi, ho with
      | 0, _, ho =>
        obtain rfl := Option.some.inj ho
        intro s W hX hd K hK
        rw [if_pos (wanted_plain rfl)]
        clear hd
        replace hK : ∀ (v : Value) (W' : World), Ext W W' → (v = .pointer (some ⟨g, 0, none⟩)) → _ := hK
        simp only [mkOf, List.map_cons, List.map_nil, Act.put, List.setIfInBounds_toArray, List.set_cons_succ, List.set_cons_zero, Nat.reduceAdd, Nat.zero_add] at hK ⊢
        go_simp
        exact hK _ _ (Ext.refl _) rfl
      | 1, _, ho =>
        obtain rfl := Option.some.inj ho
        intro s W hX hd K hK
        rw [if_pos (wanted_plain rfl)]
        have d23 : (s 0) = .pointer (some ⟨g, 0, none⟩) := hd 0 (by decide) (by decide)
        clear hd
        replace hK : ∀ (v : Value) (W' : World), Ext W W' → (v = .pointer (some ⟨g, 0, none⟩)) → _ := hK
        simp only [mkOf, List.map_cons, List.map_nil, Act.put, List.setIfInBounds_toArray, List.set_cons_succ, List.set_cons_zero, Nat.reduceAdd, Nat.zero_add] at hK ⊢
        simp only [d23] at hK ⊢
        go_simp
        exact hK _ _ (Ext.refl _) rfl
      | 2, _, ho =>
        obtain rfl := Option.some.inj ho
        intro s W hX hd K hK
        rw [if_pos (wanted_plain rfl)]
        have d24 : (s 1) = .pointer (some ⟨g, 0, none⟩) := hd 1 (by decide) (by decide)
        clear hd
        replace hK : ∀ (v : Value) (W' : World), Ext W W' → (v = .pointer (some ⟨g, 33, none⟩)) → _ := hK
        simp only [mkOf, List.map_cons, List.map_nil, Act.put, List.setIfInBounds_toArray, List.set_cons_succ, List.set_cons_zero, Nat.reduceAdd, Nat.zero_add] at hK ⊢
        simp only [d24] at hK ⊢
        go_simp
        exact hK _ _ (Ext.refl _) rfl
      | 3, _, ho =>
        obtain rfl := Option.some.inj ho
        intro s W hX hd K hK
        rw [if_pos (wanted_plain rfl)]
        have d25 : (s 2) = .pointer (some ⟨g, 33, none⟩) := hd 2 (by decide) (by decide)
        clear hd
        replace hK : ∀ (v : Value) (W' : World), Ext W W' → (v = .slice (some ad) (tall + 1) c) → _ := hK
        simp only [mkOf, List.map_cons, List.map_nil, Act.put, List.setIfInBounds_toArray, List.set_cons_succ, List.set_cons_zero, Nat.reduceAdd, Nat.zero_add] at hK ⊢
        simp only [d25] at hK ⊢
        have c33 := (HB3.out.keep hX (by simp)).cell 33
        rw [HCR.out] at c33
        go_simp
        exact hK _ _ (Ext.refl _) rfl
      | 4, _, ho =>
        obtain rfl := Option.some.inj ho
        intro s W hX hd K hK
        rw [if_pos (wanted_plain rfl)]
        clear hd
        replace hK : ∀ (v : Value) (W' : World), Ext W W' → (v = .pointer (some ⟨g, 0, none⟩)) → _ := hK
        simp only [mkOf, List.map_cons, List.map_nil, Act.put, List.setIfInBounds_toArray, List.set_cons_succ, List.set_cons_zero, Nat.reduceAdd, Nat.zero_add] at hK ⊢
        go_simp
        exact hK _ _ (Ext.refl _) rfl
      | 5, _, ho =>
        obtain rfl := Option.some.inj ho
        intro s W hX hd K hK
        rw [if_pos (wanted_plain rfl)]
        have d27 : (s 4) = .pointer (some ⟨g, 0, none⟩) := hd 4 (by decide) (by decide)
        clear hd
        replace hK : ∀ (v : Value) (W' : World), Ext W W' → (v = .pointer (some ⟨g, 0, none⟩)) → _ := hK
        simp only [mkOf, List.map_cons, List.map_nil, Act.put, List.setIfInBounds_toArray, List.set_cons_succ, List.set_cons_zero, Nat.reduceAdd, Nat.zero_add] at hK ⊢
        simp only [d27] at hK ⊢
        go_simp
        exact hK _ _ (Ext.refl _) rfl
      | 6, _, ho =>
        obtain rfl := Option.some.inj ho
        intro s W hX hd K hK
        rw [if_pos (wanted_plain rfl)]
        have d28 : (s 5) = .pointer (some ⟨g, 0, none⟩) := hd 5 (by decide) (by decide)
        clear hd
        replace hK : ∀ (v : Value) (W' : World), Ext W W' → (v = .pointer (some ⟨g, 32, none⟩)) → _ := hK
        simp only [mkOf, List.map_cons, List.map_nil, Act.put, List.setIfInBounds_toArray, List.set_cons_succ, List.set_cons_zero, Nat.reduceAdd, Nat.zero_add] at hK ⊢
        simp only [d28] at hK ⊢
        go_simp
        exact hK _ _ (Ext.refl _) rfl
      | 7, _, ho =>
        obtain rfl := Option.some.inj ho
        intro s W hX hd K hK
        rw [if_pos (wanted_plain rfl)]
        have d29 : (s 6) = .pointer (some ⟨g, 32, none⟩) := hd 6 (by decide) (by decide)
        clear hd
        replace hK : ∀ (v : Value) (W' : World), Ext W W' → (v = .int .i64 (tall : Int)) → _ := hK
        simp only [mkOf, List.map_cons, List.map_nil, Act.put, List.setIfInBounds_toArray, List.set_cons_succ, List.set_cons_zero, Nat.reduceAdd, Nat.zero_add] at hK ⊢
        simp only [d29] at hK ⊢
        have c32 := (HB3.out.keep hX (by simp)).cell 32
        rw [HCT.out] at c32
        go_simp
        exact hK _ _ (Ext.refl _) rfl
      | 8, _, ho =>
        obtain rfl := Option.some.inj ho
        intro s W hX hd K hK
        rw [if_pos (wanted_plain rfl)]
        have d26 : (s 3) = .slice (some ad) (tall + 1) c := hd 3 (by decide) (by decide)
        have d30 : (s 7) = .int .i64 (tall : Int) := hd 7 (by decide) (by decide)
        clear hd
        replace hK : ∀ (v : Value) (W' : World), Ext W W' → (v = .slice (some ad) tall c) → _ := hK
        simp only [mkOf, List.map_cons, List.map_nil, Act.put, List.setIfInBounds_toArray, List.set_cons_succ, List.set_cons_zero, Nat.reduceAdd, Nat.zero_add] at hK ⊢
        simp only [d26, d30] at hK ⊢
        have htc : tall ≤ c := by omega
        go_simp
        exact hK _ _ (Ext.refl _) rfl
      | 9, _, ho =>
        obtain rfl := Option.some.inj ho
        intro s W hX hd K hK
        rw [if_pos (wanted_plain rfl)]
        have d31 : (s 8) = .slice (some ad) tall c := hd 8 (by decide) (by decide)
        clear hd
        replace hK : ∀ (v : Value) (W' : World), Ext W W' → (v = .int .i64 (tall : Int)) → _ := hK
        simp only [mkOf, List.map_cons, List.map_nil, Act.put, List.setIfInBounds_toArray, List.set_cons_succ, List.set_cons_zero, Nat.reduceAdd, Nat.zero_add] at hK ⊢
        simp only [d31] at hK ⊢
        go_simp
        exact hK _ _ (Ext.refl _) rfl
      | 10, _, ho =>
        obtain rfl := Option.some.inj ho
        intro s W hX hd K hK
        rw [if_pos (wanted_plain rfl)]
        clear hd
        replace hK : ∀ (v : Value) (W' : World), Ext W W' → (v = .int .i64 0) → _ := hK
        simp only [mkOf, List.map_cons, List.map_nil, Act.put, List.setIfInBounds_toArray, List.set_cons_succ, List.set_cons_zero, Nat.reduceAdd, Nat.zero_add] at hK ⊢
        go_simp
        exact hK _ _ (Ext.refl _) rfl
      | i + 11, hi, _ => exact absurd hi (by simp)
    · intro s W hX hd
      have d23 : (s 0) = .pointer (some ⟨g, 0, none⟩) := hd 0 (by decide)
      have d24 : (s 1) = .pointer (some ⟨g, 0, none⟩) := hd 1 (by decide)
      have d25 : (s 2) = .pointer (some ⟨g, 33, none⟩) := hd 2 (by decide)
      have d26 : (s 3) = .slice (some ad) (tall + 1) c := hd 3 (by decide)
      have d27 : (s 4) = .pointer (some ⟨g, 0, none⟩) := hd 4 (by decide)
      have d28 : (s 5) = .pointer (some ⟨g, 0, none⟩) := hd 5 (by decide)
      have d29 : (s 6) = .pointer (some ⟨g, 32, none⟩) := hd 6 (by decide)
      have d30 : (s 7) = .int .i64 (tall : Int) := hd 7 (by decide)
      have d31 : (s 8) = .slice (some ad) tall c := hd 8 (by decide)
      have d32 : (s 9) = .int .i64 (tall : Int) := hd 9 (by decide)
      have d33 : (s 10) = .int .i64 0 := hd 10 (by decide)
      clear hd
      simp only [mkOf, List.map_cons, List.map_nil, Act.put, List.setIfInBounds_toArray, List.set_cons_succ, List.set_cons_zero, Nat.reduceAdd, Nat.zero_add]
      have HX3 := Lib.hid (HX9.out.trans ((Ext.refl w1).drew.trans hX))
      have HBS1 := Lib.hid ((HBS0.out.keep (Ext.refl w1).drew (by simp)).keep hX (by simp))
      have HBZ3 := Lib.hid ((HBZ2.out.keep (Ext.refl w1).drew (by simp)).keep hX (by simp))
      simp only [d23, d24, d25, d26, d27, d28, d29, d30, d31, d32, d33]
      clear d23 d24 d25 d26 d27 d28 d29 d30 d31 d32 d33 hX HBS0 HBZ2 HB3 HX9 HB HBD HBZ HX0
      (try simp only [Exit.then])
      go_wp2_with fail
      go_loopw [8, 10, 33] (fun at_ y i wr => ∃ (k : Nat) (v : Value), k ≤ tall ∧ i = .int .i64 k ∧ at_ = .int .i64 ((key / 2 ^ k : Nat) : Int) ∧ Ext w wr ∧ Blk wr (w.heap.size + 1) 70 ZR ∧ Blk wr sg 70 (sigC SG key v) ∧ OwnD 52 wr v ((wayM seed tall key).take k) ∧ (∀ b, v.ownBlock = some b → w.heap.size + 2 ≤ b ∧ b ≠ sg) ∧ ∃ q, y = q) (fun _ _ i _ => tall - (intOf i).toNat)
      case atStart => exact ⟨0, .slice none 0 0, by omega, rfl, by simp, HX3.out, HBZ3.out, HBS1.out, ⟨by simp, Own.nil _ _ _⟩, by simp [Value.ownBlock], _, rfl⟩
      case round =>
        clear HX3 HBZ3 HBS1
        obtain ⟨k, v, hk2, rfl, rfl, hx, hbz, hbs, hov, hfar, q, rfl⟩ := hrel
        by_cases hlt : k < tall
        · obtain ⟨ad2, c2, hk1, hk9, hF2, hW⟩ := HROWS.out k hk2
          obtain ⟨cr, hrow⟩ := hW wr (fun b hb => hx.block b (HFP.out b hb) (by simp))
          have hm := HRK.out k hk2
          have hsm := side_lt hm (by omega)
          have hyc := hrow _ hsm
          have hyl : (bv ((levM seed tall k).getD (sideM (key / 2 ^ k)) [])).length = 32 := by rw [bv_length]; exact HALL.out k _ hk2 hsm
          have hyd := HALL.out k _ hk2 hsm
          have hyo := bv_one ((levM seed tall k).getD (sideM (key / 2 ^ k)) [])
          have hwt := HWT.out k hlt
          have hL256 : 2 ^ (tall - k) ≤ 256 := Nat.pow_le_pow_right (n := 2) (by decide) (show tall - k ≤ 8 by have := HLOW.out; omega)
          have hxor := xor_side ⟨key / 2 ^ k, Nat.lt_of_lt_of_le hm hL256⟩
          have hdd : key / 2 ^ (k + 1) = key / 2 ^ k / 2 := by rw [Nat.pow_succ, Nat.div_div_eq_div_mul]
          have hF2l := HFP.out _ hF2
          unfold maxLen at hk9
          clear hW hrow
          simp only at hxor
          obtain ⟨Yd, hYd⟩ : ∃ Yd, Yd = (levM seed tall k).getD (sideM (key / 2 ^ k)) [] := ⟨_, rfl⟩
          rw [← hYd] at hyc hyl hyd hyo hwt
          obtain ⟨m2, hm2e⟩ : ∃ m2, m2 = key / 2 ^ (k + 1) := ⟨_, rfl⟩
          rw [← hm2e] at hdd
          have HM2E := Lib.hid hm2e
          clear hm2e hYd
          generalize sideM (key / 2 ^ k) = sm at *
          generalize key / 2 ^ k = m at *
          generalize 2 ^ (tall - k) = LL at *
          obtain ⟨Y, hY⟩ : ∃ Y, Y = bv Yd := ⟨_, rfl⟩
          rw [← hY] at hyc hyl hyo
          have HM2 := Lib.hid hdd
          have HYD := Lib.hid hyd
          have HWTK := Lib.hid hwt
          have HY := Lib.hid hY
          have HYL := Lib.hid hyl
          have HXOR := Lib.hid hxor
          have HFL2 := Lib.hid hF2l
          have HX := Lib.hid hx
          have HX0W : Hid (Ext w wr.drew) := Lib.hid hx.drew
          have HBZ := Lib.hid hbz
          have HBZ0W : Hid (Blk wr.drew (w.heap.size + 1) 70 ZR) := Lib.hid hbz
          have HFAR := Lib.hid hfar
          have HOV := Lib.hid hov
          have HYC : Hid (Cells wr.drew (ad2.add (sm * 32)) Y) := Lib.hid hyc
          have HBS : Hid (Blk wr.drew sg 70 (sigC SG key v)) := Lib.hid hbs
          have HSW : Hid (wr.drew.cell? ⟨sg, 1025, none⟩ = some v) := Lib.hid ((HBS.out.cell 1025).trans (sigC_way HGL.out key v))
          have hlk : List.length (α := Dg) ((wayM seed tall key).take k) = k := by rw [List.length_take, HWL.out]; omega
          have HLK := Lib.hid hlk
          have how : Own wr.drew 52 32 v k (((wayM seed tall key).take k).flatMap bv) := by
            have h := (hov.ext (Ext.refl wr).drew).2
            rw [hlk] at h; exact h
          have HOW := Lib.hid how
          have hlt9 : ∀ b, (b = sg ∨ b < w.heap.size) → b < wr.drew.heap.size := by
            rintro b (rfl | hb)
            · exact HBS.out.lt
            · exact Nat.lt_of_lt_of_le hb hx.size
          have HLT := Lib.hid hlt9
          clear hdd hyd hwt hY hyl hxor hF2l hx hbz hfar hov hyc hbs how hlk hlt9 hF2
          go_wp2_with fail
          refine startL 10 (KeepB fun b => b = sg ∨ b < w.heap.size) (by kernel_rfl) ?_
          (try simp only [Act.put, List.setIfInBounds_toArray, List.set_cons_succ, List.set_cons_zero])
          generalize wr.drew = w0 at *
          refine takeN (fun _ _ _ => rfl) 0 rfl (by kernel_rfl) (by kernel_rfl) (by kernel_rfl) rfl (fun _ _ _ _ h => h) rfl (fun K hK => ?_)
          go_big_quiet_op
          first | refine hK _ ?_ | refine ⟨_, fun _ _ => rfl, hK _ ?_⟩
          clear hK K
          refine takeL (fun _ _ _ => rfl) (fun _ _ _ h1 h2 b hb => (h2 b hb).trans (h1 b hb)) 1 [10] rfl (by kernel_rfl) (by kernel_rfl) (by kernel_rfl) (by kernel_rfl) rfl (fun _ _ _ _ h => h) rfl (fun K hK => ?_)
          refine quiet_cell _ _ rfl _ rfl _ _ Try.underlying68 rfl (fun W' h => KeepB.cell h HSW.out (by simp)) ?_
          refine hK _ ?_
          simp only [Act.put, List.setIfInBounds_toArray, List.set_cons_succ, List.set_cons_zero]
          clear hK K
          refine takeN (fun _ _ _ => rfl) 2 rfl (by kernel_rfl) (by kernel_rfl) (by kernel_rfl) rfl (fun _ _ _ _ h => h) rfl (fun K hK => ?_)
          go_big_quiet_op
          first | refine hK _ ?_ | refine ⟨_, fun _ _ => rfl, hK _ ?_⟩
          clear hK K
          refine takeN (fun _ _ _ => rfl) 3 rfl (by kernel_rfl) (by kernel_rfl) (by kernel_rfl) rfl (fun _ _ _ _ h => h) rfl (fun K hK => ?_)
          go_big_quiet_op
          first | refine hK _ ?_ | refine ⟨_, fun _ _ => rfl, hK _ ?_⟩
          clear hK K
          refine takeN (fun _ _ _ => rfl) 4 rfl (by kernel_rfl) (by kernel_rfl) (by kernel_rfl) rfl (fun _ _ _ _ h => h) rfl (fun K hK => ?_)
          refine quiet_bin2 .xor 3 (.tmp 40) _ rfl (.int .i64 (m : Int)) (.int .i64 1) rfl rfl (fun W' => rfl) (fun W' => xor_run _ _ HXOR.out W') ?_
          refine hK _ ?_
          simp only [Act.put, List.setIfInBounds_toArray, List.set_cons_succ, List.set_cons_zero]
          clear hK K
          refine takeN (fun _ _ _ => rfl) 5 rfl (by kernel_rfl) (by kernel_rfl) (by kernel_rfl) rfl (fun _ _ _ _ h => h) rfl (fun K hK => ?_)
          go_big_quiet_op
          first | refine hK _ ?_ | refine ⟨_, fun _ _ => rfl, hK _ ?_⟩
          clear hK K
          refine takeL (fun _ _ _ => rfl) (fun _ _ _ h1 h2 b hb => (h2 b hb).trans (h1 b hb)) 6 [10] rfl (by kernel_rfl) (by kernel_rfl) (by kernel_rfl) (by kernel_rfl) rfl (fun _ _ _ _ h => h) rfl (fun K hK => ?_)
          refine quiet_agg 52 (.tmp 42) rfl _ rfl Y _ Try.underlying52 rfl (digest_size HYL.out) (fun W' h => KeepB.cells h HYC.out (.inr (by rw [add_block]; exact HFL2.out))) ?_
          refine hK _ ?_
          simp only [Act.put, List.setIfInBounds_toArray, List.set_cons_succ, List.set_cons_zero]
          clear hK K
          refine stepL 7 rfl (by kernel_rfl) rfl (fun K hK => ?_)
          refine wp_one w0 68 (.tmp 43) rfl 52 Y Try.underlying68 rfl (digest_size HYL.out) zEbTo05 (by rw [HYL.out]; decide) (by rw [HYL.out]; decide) ?_
          refine hK _ _ (fun _ b hb => ((Ext.refl w0).alloc _).block b (HLT.out b hb) (by simp)) ?_
          clear hK K
          (try simp only [Act.put, List.setIfInBounds_toArray, List.set_cons_succ, List.set_cons_zero])
          refine stepL 8 rfl (by kernel_rfl) rfl (fun K hK => ?_)
          refine wp_app _ (.tmp 38) (.tmp 44) _ _ rfl 52 52 i1 z1 32 32 Try.underlying68 Try.underlying68 hi1 hz1 hi2 hi3 hi4 (by decide) v _ _ rfl (HOW.out.ext ((Ext.refl w0).alloc _)) _ 1 1 Y rfl (by rw [HYL.out]) (src_at rfl Y _ 1) hyo (by have := HLOW.out; unfold maxLen; omega) (by have := HLOW.out; omega) ?_
          intro v7 w7 ho7 hm7
          obtain ⟨A7, c7, hv7⟩ := Own.form ho7
          subst hv7
          refine hK _ _ (fun _ b hb => hm7.grown.block b (by have := HLT.out b hb; simp; omega) (fun e => by have h9 := HFAR.out b e.symm; rcases hb with hb | hb <;> omega)) ?_
          clear hK K
          (try simp only [Act.put, List.setIfInBounds_toArray, List.set_cons_succ, List.set_cons_zero])
          refine takeN (fun _ _ _ => rfl) 9 rfl (by kernel_rfl) (by kernel_rfl) (by kernel_rfl) rfl (fun _ _ _ _ h => h) rfl (fun K hK => ?_)
          go_big_quiet_op
          first | refine hK _ ?_ | refine ⟨_, fun _ _ => rfl, hK _ ?_⟩
          clear hK K
          refine stepL 10 rfl (by kernel_rfl) rfl (fun K hK => ?_)
          have HB7 := Lib.hid ((HBS.out.keep ((Ext.refl w0).alloc (.cells Y.toArray 52)) (by simp)).keep hm7.grown (fun e => (HFAR.out _ e.symm).2 rfl))
          have s9 : w7.cell? ⟨sg, 1025, none⟩ = some v := (HB7.out.cell 1025).trans (sigC_way HGL.out key v)
          have f9 : w7.frozen? ⟨sg, 1025, none⟩ = false := HB7.out.free 1025
          go_simp
          refine hK _ _ (fun h => absurd rfl h) ?_
          clear hK K
          refine doneL (by kernel_rfl) ?_ _
          have hm1000 : m < 1000 := by omega
          have far7 : ∀ b, (Value.slice A7 (k + 1) c7).ownBlock = some b → w.heap.size + 2 ≤ b ∧ b ≠ sg := fun b hb => by
            rcases hm7.at_ with e | hn
            · exact HFAR.out b (e.symm.trans hb)
            · have h1 := hn b hb
              have h2 := HBS.out.lt
              have h3 := HX.out.size
              simp at h1
              have h4 := HBZ.out.lt
              have h5 := HLT.out sg (.inl rfl)
              exact ⟨by omega, by omega⟩
          have ne : ∀ x, (x < w.heap.size + 2 ∨ x = sg) → some x ≠ v.ownBlock := fun x hx e => by have := HFAR.out x e.symm; omega
          have hxa : Ext w0 (w0.alloc (.cells Y.toArray 52)) := (Ext.refl w0).alloc _
          have hx8 : Ext w (w7.setCell ⟨sg, 1025, none⟩ (.slice A7 (k + 1) c7)) := grown_then (grown_then (HX0W.out.trans hxa) hm7.grown (.inr fun x hx => by have := HFAR.out x hx; omega)) (only_set 1025 _) (.inr (by rintro b ⟨⟩; omega))
          have hbz8 : Blk (w7.setCell ⟨sg, 1025, none⟩ (.slice A7 (k + 1) c7)) (w.heap.size + 1) 70 ZR := ((HBZ0W.out.keep hxa (by simp)).keep hm7.grown (ne _ (.inl (by omega)))).keep (only_set 1025 _) (by simp; omega)
          have hbs8 : Blk (w7.setCell ⟨sg, 1025, none⟩ (.slice A7 (k + 1) c7)) sg 70 (sigC SG key (.slice A7 (k + 1) c7)) := by
            have := HB7.out.set 1025 (.slice A7 (k + 1) c7)
            rwa [sigC_set HGL.out] at this
          have ho8 : OwnD 52 (w7.setCell ⟨sg, 1025, none⟩ (.slice A7 (k + 1) c7)) (.slice A7 (k + 1) c7) ((wayM seed tall key).take (k + 1)) := by
            rw [HWTK.out]
            refine ⟨fun d hd => ?_, ?_⟩
            · rcases List.mem_append.1 hd with hd | hd
              · exact HOV.out.1 d hd
              · rw [List.mem_singleton.1 hd]; exact HYD.out
            · have e1 : (((wayM seed tall key).take k) ++ [Yd]).flatMap bv = (((wayM seed tall key).take k)).flatMap bv ++ Y := by rw [HY.out]; simp
              have e2 : List.length (α := Dg) (((wayM seed tall key).take k) ++ [Yd]) = k + 1 := by rw [List.length_append, HLK.out]; rfl
              rw [e1, e2]
              refine ho7.keep (row := some sg) (only_set 1025 _) ?_
              cases hvb : (Value.slice A7 (k + 1) c7).ownBlock with
              | none => exact .inl rfl
              | some b => exact .inr (by have := (far7 b hvb).2; simpa using this)
          have HX8 := Lib.hid hx8
          have HBZ8 := Lib.hid hbz8
          have HBS8 := Lib.hid hbs8
          have HO8 := Lib.hid ho8
          have HF8 := Lib.hid far7
          have HM1 := Lib.hid hm1000
          clear hx8 hbz8 hbs8 ho8 far7 ne hxa s9 f9 ho7 hm7 HB7 hm1000
          generalize w7.setCell ⟨sg, 1025, none⟩ (.slice A7 (k + 1) c7) = w8 at *
          (try simp only [Exit.then])
          go_wp2_with (first
            | ((with_reducible refine wpDst 48 rfl ?_); refine wpList_bin2 rfl .quo 3 (.tmp 47) _ rfl (.int .i64 (m : Int)) (.int .i64 2) rfl rfl rfl (quo_two _ _ HM1.out _) ?_)
            | fail)
          go_roundw
          case rel => exact ⟨k + 1, _, by omega, by go_num, by rw [← HM2E.out, HM2.out]; rfl, HX8.out, HBZ8.out, HBS8.out, HO8.out, HF8.out, _, rfl⟩
          case measure => simp [intOf]; omega
        · obtain rfl : k = tall := by omega
          have htk : (wayM seed k key).take k = wayM seed k key := List.take_of_length_le (by rw [HWL.out]; exact Nat.le_refl _)
          rw [htk] at hov
          have hml := sigC_len HGL.out key v
          have hmone : ∀ u ∈ sigC SG key v, u.oneCell' = true := by obtain ⟨A2, c2, h⟩ := hov.2.form; rw [h]; exact sigC_one hgo _ _ _ _
          have hcm := hbs.cells
          obtain ⟨M, hM⟩ : ∃ M, M = sigC SG key v := ⟨_, rfl⟩
          rw [← hM] at hcm hml hmone
          have HM := Lib.hid hM
          have HX := Lib.hid hx
          have HOV := Lib.hid hov
          have HML := Lib.hid hml
          have HFAR := Lib.hid hfar
          have HCM := Lib.hid hcm
          have HBZ := Lib.hid hbz
          clear hx hbs hov hml hM hfar htk hcm hbz
          go_wp2_with (first
            | ((with_reducible refine wpDst 50 rfl ?_); refine wpList_load_agg _ rfl 70 (.tmp 7) rfl _ rfl M _ Try.underlying70 rfl (szOutTo05 HML.out) (by exact HCM.out) ?_)
            | ((with_reducible refine wpSto 6 50 rfl ?_); refine wpList_store_row _ rfl 70 (.tmp 6) (.tmp 50) rfl (w.heap.size + 1) rfl ZR M 70 rfl (by exact HBZ.out) (szOutTo05 HML.out) (by rw [HML.out, HZL.out]) hmone ?_)
            | fail)
          have hc9 := Blk.cells (t := 70) (setRow_at (cs' := M.toArray) HBZ.out)
          (try simp only [Exit.inBlock, Exit.then])
          refine bodyPost_ret (results_agg rfl _ _ _ _ _ rfl Try.underlying70 rfl (szOutTo05 HML.out) hc9) rfl ?_
          refine ⟨v, by rw [HM.out], ⟨HOV.out.1, HOV.out.2.keep (row := some (w.heap.size + 1)) (setRow_only _) ?_⟩, grown_then HX.out (setRow_only _) (.inr (by rintro b ⟨⟩; omega)), fun b hb => by have := HFAR.out b hb; omega⟩
          cases hvb : v.ownBlock with
          | none => exact .inl rfl
          | some b => exact .inr (by have := (HFAR.out b hvb).1; simp; omega)
end
end Go.Proofs.Ytmicjaiiinaipaa

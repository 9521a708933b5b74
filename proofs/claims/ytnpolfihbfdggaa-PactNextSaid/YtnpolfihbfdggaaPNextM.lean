/- What the pact's Next needs of its model, and its steps. Conditions: the numbers are in their bounds. -/
import Derived.Test.YtnpolfihbfdggaaPActM
import Derived.Test.YtnpolfihbfdggaaMono2
set_option linter.unusedVariables false
set_option linter.unusedSimpArgs false
set_option linter.unnecessarySimpa false
namespace Go.Proofs.Ytnpolfihbfdggaa
open Go.RowKit

theorem bad_zero (cs : List Cd) : ∀ (l : List Cd) (i : Nat), badM cs i l = 0 → ∀ c ∈ l, (c.2.1 = 0 ∨ c.2.1 = 1) ∧ c.2.2.1 ≠ 0
  | [], _, _, c, hc => by cases hc
  | x :: l, i, h, c, hc => by
    unfold badM at h
    split at h
    · cases h
    · rename_i h1
      split at h
      · cases h
      · rcases List.mem_cons.1 hc with rfl | hc
        · omega
        · exact bad_zero cs l _ h c hc
theorem sound_zero {s : St} {p0 p1 : Nat} (h : soundM s p0 p1 = 0) : s.round ≤ 200 ∧ List.length (α := Cd) s.cs ≤ 8 ∧ (∀ c ∈ s.cs, (c.2.1 = 0 ∨ c.2.1 = 1) ∧ c.2.2.1 ≠ 0) ∧ badM s.cs 0 s.cs = 0 ∧ (freeM s p0 p1 0).2 = 0 ∧ (freeM s p0 p1 1).2 = 0 := by
  unfold soundM at h
  split at h
  · cases h
  · rename_i h1
    split at h
    · rename_i h2; exact absurd h h2
    · rename_i h2
      have h2 : badM s.cs 0 s.cs = 0 := by omega
      split at h
      · rename_i h3; exact absurd h h3
      · rename_i h3
        exact ⟨by omega, by omega, bad_zero _ _ _ h2, h2, by omega, h⟩
theorem turn_side (r : Nat) : turnM r = 0 ∨ turnM r = 1 := by
  unfold turnM
  split
  · exact .inl rfl
  · exact .inr rfl
theorem act_ok {s : St} {p0 p1 : Nat} {side : Int} {o : Wish} (hs : StOk s) (h : (actM s p0 p1 side o).2 = 0) (hside : ∀ c ∈ s.cs, c.2.1 = 0 ∨ c.2.1 = 1) (hsd : side = 0 ∨ side = 1) :
    StOk (actM s p0 p1 side o).1 ∧ (actM s p0 p1 side o).1.round = s.round ∧ (actM s p0 p1 side o).1.chan = s.chan ∧ List.length (α := Cd) (actM s p0 p1 side o).1.cs ≤ List.length (α := Cd) s.cs + 1 := by
  have hs0 := hs
  obtain ⟨h1, h2, h3, h4, h5, h6⟩ := hs
  have key : ∀ {a b : Nat}, ¬ (addM a b).2 ≠ 0 → a + b < M64 := fun h => addM_z (by simpa using h)
  unfold actM at h ⊢
  split at h
  · rename_i k; rw [if_pos k]; exact ⟨hs0, rfl, rfl, by simp⟩
  rename_i k0; rw [if_neg k0]
  split at h
  · rename_i k; rw [if_pos k]
    split at h
    · rename_i k; exact absurd h k
    rename_i kz; rw [if_neg kz]
    split at h
    · cases h
    rename_i ka; rw [if_neg ka]
    have := key ka
    rcases hsd with rfl | rfl
    · exact ⟨⟨h1, h2, by simpa [pick2] using this, h4, h5, h6⟩, rfl, rfl, by simp⟩
    · exact ⟨⟨h1, h2, h3, by simpa [pick2] using this, h5, h6⟩, rfl, rfl, by simp⟩
  rename_i k1; rw [if_neg k1]
  split at h
  · rename_i k; rw [if_pos k]
    split at h
    · rename_i k; exact absurd h k
    rename_i kz; rw [if_neg kz]
    split at h
    · cases h
    rename_i ka; rw [if_neg ka]
    have := key ka
    rcases hsd with rfl | rfl
    · exact ⟨⟨h1, h2, h3, h4, by simpa [pick2] using this, h6⟩, rfl, rfl, by simp⟩
    · exact ⟨⟨h1, h2, h3, h4, h5, by simpa [pick2] using this⟩, rfl, rfl, by simp⟩
  rename_i k5; rw [if_neg k5]
  split at h
  · rename_i k; rw [if_pos k]
    split at h
    · cases h
    rename_i j1; rw [if_neg j1]
    split at h
    · cases h
    rename_i j2; rw [if_neg j2]
    split at h
    · cases h
    rename_i j3; rw [if_neg j3]
    split at h
    · rename_i k; exact absurd h k
    rename_i j4; rw [if_neg j4]
    exact ⟨⟨h1, h2, h3, h4, h5, h6⟩, rfl, rfl, by simp⟩
  rename_i k2; rw [if_neg k2]
  split at h
  · rename_i k; rw [if_pos k]
    split at h
    · cases h
    rename_i j1; rw [if_neg j1]
    have hle : ∀ i, List.length (α := Cd) (s.cs.eraseIdx i) ≤ List.length (α := Cd) s.cs + 1 := fun i => Nat.le_trans (List.length_eraseIdx_le ..) (Nat.le_succ _)
    cases hck : s.cs[(findM s.cs o.id).toNat]? with
    | none => rw [hck] at h; cases h
    | some c =>
      rw [hck] at h
      simp only at h ⊢
      split at h
      · rename_i k; rw [if_pos k]; exact ⟨⟨h1, h2, h3, h4, h5, h6⟩, rfl, rfl, hle _⟩
      rename_i j2; rw [if_neg j2]
      split at h
      · cases h
      rename_i j3; rw [if_neg j3]
      have := key j3
      rcases hside c (List.mem_of_getElem? hck) with e | e
      · rw [if_pos e]; rw [e] at this; exact ⟨⟨h1, h2, by simpa [pick2] using this, h4, h5, h6⟩, rfl, rfl, hle _⟩
      · rw [if_neg (by omega)]; rw [e] at this; exact ⟨⟨h1, h2, h3, by simpa [pick2] using this, h5, h6⟩, rfl, rfl, hle _⟩
  · cases h

/-! ### What is carried while an alloc may come at any time -/
structure NJ (w0 : World) (Z : List Value) (al : Option Nat) (W : World) (u : Value) (cs : List Cd) : Prop where
  ext : Ext w0 W
  blk : ∀ g, al = some g → w0.heap.size ≤ g ∧ Blk W g 36 Z
  own : OwnC W u cs
  far : ∀ b, u.ownBlock = some b → w0.heap.size ≤ b ∧ al ≠ some b
theorem NJ.start (w0 : World) (Z : List Value) : NJ w0 Z none w0 (.slice none 0 0) [] := ⟨Ext.refl _, fun g h => (by cases h), ⟨by simp, Own.nil _ _ _⟩, fun b h => by cases h⟩
theorem NJ.alloc {w0 W : World} {Z : List Value} {u : Value} {cs : List Cd} (h : NJ w0 Z none W u cs) : NJ w0 Z (some W.heap.size) (W.alloc (.cells Z.toArray 36)) u cs := by
  have hx : Ext W (W.alloc (.cells Z.toArray 36)) := (Ext.refl W).alloc _
  refine ⟨h.ext.trans hx, ?_, h.own.ext hx, fun b hb => ⟨(h.far b hb).1, fun e => ?_⟩⟩
  · rintro g ⟨⟩
    exact ⟨h.ext.size, Blk.new _ _ _⟩
  · have := h.own.lt b hb
    have : W.heap.size = b := by simpa using e
    omega
theorem NJ.keepAlloc {w0 W : World} {Z : List Value} {al : Option Nat} {u : Value} {cs : List Cd} (h : NJ w0 Z al W u cs) (o : Obj) : KeepB (fun b => b < w0.heap.size) W (W.alloc o) := fun b hb =>
  ((Ext.refl W).alloc o).block b (Nat.lt_of_lt_of_le hb h.ext.size) (by simp)
theorem TwinStep {w0 : World} {Z : List Value} {al : Option Nat} {s : St} {v : Value} {F : Fp} (hc : Conds w0 F v s.cs) (hF : ∀ b, F b → b < w0.heap.size) (hlen : List.length (α := Cd) s.cs ≤ 2199023255552) {W : World} (h : NJ w0 Z al W (.slice none 0 0) []) :
    Calls Try.prog 29 #[.agg (stc s v).toArray] W fun e w' => ∃ (T : List Value) (v1 : Value), e = .returned (.agg T.toArray) ∧ T = stc s v1 ∧ NJ w0 Z al w' v1 s.cs ∧ KeepB (fun b => b < w0.heap.size) W w' := by
  refine (Twin s v W F (h.ext.holds hF hc) (fun b hb => Nat.lt_of_lt_of_le (hF b hb) h.ext.size) hlen).mono ?_
  rintro e w' ⟨v1, rfl, ho, hx, hn⟩
  refine ⟨_, v1, rfl, rfl, ⟨h.ext.trans hx, fun g hg => ⟨(h.blk g hg).1, (h.blk g hg).2.keep hx (by simp)⟩, ho, fun b hb => ⟨Nat.le_trans h.ext.size (hn b hb), fun e => ?_⟩⟩, fun b hb => hx.block b (Nat.lt_of_lt_of_le hb h.ext.size) (by simp)⟩
  have h1 := (h.blk b e).2.lt
  have h2 := hn b hb
  omega
theorem ActStep {w0 : World} {Z : List Value} {al : Option Nat} {s : St} {p0 p1 : Nat} {side : Int} {o : Wish} (hs : StOk s) (hp0 : p0 < M64) (hp1 : p1 < M64) (hok : CondOk o.c) (ham : o.am < M64) (hsd : side = 0 ∨ side = 1) (hlen : List.length (α := Cd) s.cs ≤ 4398046511104)
    (hside : ∀ c ∈ s.cs, c.2.1 = 0 ∨ c.2.1 = 1) {W : World} {v1 : Value} (h : NJ w0 Z al W v1 s.cs) :
    Calls Try.prog 34 #[.agg (stc s v1).toArray, .agg (ptc p0 p1).toArray, .int .i64 side, .agg (wishCells o).toArray] W fun e w' => ∃ (R : List Value) (v2 : Value), e = .returned (.tuple #[.agg R.toArray, .int .i64 (actM s p0 p1 side o).2]) ∧ R = stc (actM s p0 p1 side o).1 v2 ∧
      NJ w0 Z al w' v2 (actM s p0 p1 side o).1.cs ∧ KeepB (fun b => b < w0.heap.size) W w' := by
  refine (Act s v1 p0 p1 side o W hs hp0 hp1 hok ham hsd h.own hlen hside).mono ?_
  rintro e w' ⟨v2, rfl, ho, hm⟩
  have hne : ∀ g, (g < w0.heap.size ∨ al = some g) → some g ≠ v1.ownBlock := fun g hg e => by
    have := h.far g e.symm
    rcases hg with hg | hg
    · omega
    · exact this.2 hg
  refine ⟨_, v2, rfl, rfl, ⟨grown_then h.ext hm.grown (.inr fun g hg => (h.far g hg).1), fun g hg => ⟨(h.blk g hg).1, (h.blk g hg).2.keep hm.grown (hne g (.inr hg))⟩, ho, fun b hb => ?_⟩,
    fun b hb => hm.grown.block b (Nat.lt_of_lt_of_le hb h.ext.size) (hne b (.inl hb))⟩
  rcases hm.at_ with e | hn
  · exact h.far b (e ▸ hb)
  · have h1 := hn b hb
    refine ⟨Nat.le_trans h.ext.size h1, fun e => ?_⟩
    have := (h.blk b e).2.lt
    omega
end Go.Proofs.Ytnpolfihbfdggaa

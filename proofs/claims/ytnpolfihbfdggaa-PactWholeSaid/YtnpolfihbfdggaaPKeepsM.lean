/- Whatever the other side does, a side's worth doesn't fall but by its own payments that are done: plain. Conditions: the numbers are in their bounds. -/
import Derived.Test.YtnpolfihbfdggaaPTurns2
import Derived.Test.YtnpolfihbfdggaaPWorth
set_option linter.unusedVariables false
set_option linter.unusedSimpArgs false
set_option linter.unnecessarySimpa false
namespace Go.Proofs.Ytnpolfihbfdggaa
open Go.RowKit

theorem sum2_ok {a b : Nat} (h : (sumM 0 [a, b]).2 = 0) : (sumM 0 [a, b]).1 = a + b := by
  simp only [sumM] at h ⊢
  split at h
  · rename_i h1
    rw [if_pos h1]
    split at h
    · rename_i h2
      rw [if_pos h2]
      omega
    · cases h
  · cases h
theorem sum3_ok {a b c : Nat} (h : (sumM 0 [a, b, c]).2 = 0) : (sumM 0 [a, b, c]).1 = a + b + c := by
  simp only [sumM] at h ⊢
  split at h
  · rename_i h1
    rw [if_pos h1]
    split at h
    · rename_i h2
      rw [if_pos h2]
      split at h
      · rename_i h3
        rw [if_pos h3]
        omega
      · cases h
    · cases h
  · cases h
theorem subL3_ok {n a b c : Nat} (h : (subL n [a, b, c]).2 = 0) : (subL n [a, b, c]).1 + a + b + c = n := by
  simp only [subL] at h ⊢
  split at h
  · cases h
  · rename_i h1
    rw [if_neg h1]
    split at h
    · cases h
    · rename_i h2
      rw [if_neg h2]
      split at h
      · cases h
      · rename_i h3
        rw [if_neg h3]
        show n - a - b - c + a + b + c = n
        omega
theorem free_ok {s : St} {p0 p1 : Nat} {m : Int} (h : (freeM s p0 p1 m).2 = 0) : (heldM s.cs m).2 = 0 ∧ (freeM s p0 p1 m).1 + pick2 s.m0 s.m1 m + pick2 s.t0 s.t1 m + (heldM s.cs m).1 = pick2 p0 p1 m + pick2 s.m1 s.m0 m := by
  unfold freeM at h ⊢
  split at h
  · rename_i h1
    rw [if_pos h1]
    split at h
    · rename_i h2
      rw [if_pos h2]
      split at h
      · rename_i h3
        rw [if_pos h3]
        exact ⟨h2, (subL3_ok h).trans (sum2_ok h3)⟩
      · cases h
    · cases h
  · cases h
theorem worth_eq {s : St} {p0 p1 : Nat} {m : Int} (h : (worthM s p0 p1 m).2 = true) : (worthM s p0 p1 m).1 + pick2 s.m0 s.m1 m = pick2 p0 p1 m + pick2 s.m1 s.m0 m := by
  simp only [worthM, Bool.and_eq_true, decide_eq_true_eq] at h ⊢
  obtain ⟨h1, h2, h3⟩ := h
  have e1 := (free_ok h1).2
  have e2 := sum3_ok h3
  rw [e2]
  omega
theorem act_moved {s : St} {p0 p1 : Nat} {b : Int} {o : Wish} (hb : b = 0 ∨ b = 1) (hsd : ∀ c ∈ s.cs, c.2.1 = 0 ∨ c.2.1 = 1) (h : (actM s p0 p1 b o).2 = 0) :
    (pick2 s.m1 s.m0 (1 - b) ≤ pick2 (actM s p0 p1 b o).1.m1 (actM s p0 p1 b o).1.m0 (1 - b) ∧ pick2 (actM s p0 p1 b o).1.m0 (actM s p0 p1 b o).1.m1 (1 - b) = pick2 s.m0 s.m1 (1 - b)) ∨
    (o.kind = 3 ∧ 0 ≤ findM s.cs o.id ∧ ∃ c, s.cs[(findM s.cs o.id).toNat]? = some c ∧ c.2.1 = 1 - b) := by
  unfold actM at h ⊢
  split at h
  · rename_i k; rw [if_pos k]; exact .inl ⟨Nat.le_refl _, rfl⟩
  rename_i k0; rw [if_neg k0]
  split at h
  · rename_i k; rw [if_pos k]
    split at h
    · rename_i k; exact absurd h k
    rename_i kz; rw [if_neg kz]
    split at h
    · cases h
    rename_i ka; rw [if_neg ka]
    rcases hb with rfl | rfl
    · exact .inl ⟨by show s.m0 ≤ s.m0 + o.am; omega, rfl⟩
    · exact .inl ⟨by show s.m1 ≤ s.m1 + o.am; omega, rfl⟩
  rename_i k1; rw [if_neg k1]
  split at h
  · rename_i k; rw [if_pos k]
    split at h
    · rename_i k; exact absurd h k
    rename_i kz; rw [if_neg kz]
    split at h
    · cases h
    rename_i ka; rw [if_neg ka]
    rcases hb with rfl | rfl
    · exact .inl ⟨Nat.le_refl _, rfl⟩
    · exact .inl ⟨Nat.le_refl _, rfl⟩
  rename_i k5; rw [if_neg k5]
  split at h
  · rename_i k; rw [if_pos k]
    split at h
    · cases h
    rename_i j1; rw [if_neg j1]
    split at h
    · cases h
    rename_i j2; rw [if_neg j2]
    split at h
    · cases h
    rename_i j3; rw [if_neg j3]
    split at h
    · rename_i k; exact absurd h k
    rename_i j4; rw [if_neg j4]
    exact .inl ⟨Nat.le_refl _, rfl⟩
  rename_i k2; rw [if_neg k2]
  split at h
  · rename_i k; rw [if_pos k]
    split at h
    · cases h
    rename_i j1; rw [if_neg j1]
    cases hck : s.cs[(findM s.cs o.id).toNat]? with
    | none => rw [hck] at h; cases h
    | some c =>
      rw [hck] at h
      simp only at h ⊢
      split at h
      · rename_i k; rw [if_pos k]; exact .inl ⟨Nat.le_refl _, rfl⟩
      rename_i j2; rw [if_neg j2]
      split at h
      · cases h
      rename_i j3; rw [if_neg j3]
      by_cases hcb : c.2.1 = b
      · left
        rcases hb with rfl | rfl
        · rw [if_pos hcb]; exact ⟨by show s.m0 ≤ s.m0 + c.2.2.1; omega, rfl⟩
        · rw [if_neg (by omega)]; exact ⟨by show s.m1 ≤ s.m1 + c.2.2.1; omega, rfl⟩
      · right
        have := hsd c (List.mem_of_getElem? hck)
        exact ⟨by omega, by omega, c, rfl, by omega⟩
  · cases h
theorem keeps_pure {s : St} {p0 p1 : Nat} {b : Int} {o : Wish} (hb : b = 0 ∨ b = 1) (hz : (nextM s p0 p1 b o).2 = 0) (h1 : (worthM s p0 p1 (1 - b)).2 = true) (h2 : (worthM (nextM s p0 p1 b o).1 p0 p1 (1 - b)).2 = true)
    (hlt : (worthM (nextM s p0 p1 b o).1 p0 p1 (1 - b)).1 < (worthM s p0 p1 (1 - b)).1) :
    o.kind = 3 ∧ 0 ≤ findM s.cs o.id ∧ ∃ c, s.cs[(findM s.cs o.id).toNat]? = some c ∧ c.2.1 = 1 - b := by
  obtain ⟨hs0, _, _, ha, hn, _⟩ := next_zero hz
  have e1 := worth_eq h1
  have e2 := worth_eq h2
  rcases act_moved hb (fun c hc => ((sound_zero hs0).2.2.1 c hc).1) ha with ⟨h3, h4⟩ | h3
  · have hm0 : (nextM s p0 p1 b o).1.m0 = (actM s p0 p1 b o).1.m0 := by rw [hn]
    have hm1 : (nextM s p0 p1 b o).1.m1 = (actM s p0 p1 b o).1.m1 := by rw [hn]
    rw [hm0, hm1] at e2
    omega
  · exact h3
theorem find_lt {cs : List Cd} {id : Nat} (h : 0 ≤ findM cs id) : (findM cs id).toNat < List.length (α := Cd) cs := by
  unfold findM at h ⊢
  split at h
  · rename_i h1
    rw [if_pos h1]
    obtain ⟨c, hc, hi⟩ := List.any_eq_true.1 h1
    have := List.findIdx_lt_length_of_exists (xs := cs) (p := fun c => c.1 == id) ⟨c, hc, hi⟩
    simpa using this
  · omega
theorem done_find {s : St} {p0 p1 : Nat} {b : Int} {o : Wish} (hk : o.kind = 3) (h : (actM s p0 p1 b o).2 = 0) : 0 ≤ findM s.cs o.id := by
  unfold actM at h
  rw [hk, if_neg (by decide), if_neg (by decide), if_neg (by decide), if_neg (by decide), if_pos (by decide)] at h
  split at h
  · cases h
  · omega
end Go.Proofs.Ytnpolfihbfdggaa

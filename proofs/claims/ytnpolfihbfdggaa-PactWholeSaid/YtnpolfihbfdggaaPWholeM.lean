/- What both sides have at last comes to what was put in: plain. Conditions: the numbers are in their bounds. -/
import Derived.Test.YtnpolfihbfdggaaPKeepsM
set_option linter.unusedVariables false
set_option linter.unusedSimpArgs false
set_option linter.unnecessarySimpa false
namespace Go.Proofs.Ytnpolfihbfdggaa
open Go.RowKit

/-- The amounts that a side gets at last. -/
def picks (l : List (Cd × Bool)) (side : Int) : List Nat := (l.filter fun p => (p.1.2.1 == side) != p.2).map fun p => p.1.2.2.1
theorem picks_step (l : List (Cd × Bool)) (side : Int) (k : Nat) (h : k < l.length) : picks (l.take (k + 1)) side = if ((l[k].1.2.1 == side) != l[k].2) = true then picks (l.take k) side ++ [l[k].1.2.2.1] else picks (l.take k) side := by
  unfold picks
  rw [List.take_succ_eq_append_getElem h, List.filter_append, List.map_append]
  by_cases e : ((l[k].1.2.1 == side) != l[k].2) = true
  · rw [if_pos e, List.filter_cons_of_pos (by simpa using e)]; simp
  · rw [if_neg e, List.filter_cons_of_neg (by simpa using e)]; simp
theorem sumM_ok : ∀ (l : List Nat) (n : Nat), n + l.sum < M64 → sumM n l = (n + l.sum, 0)
  | [], n, h => by simp [sumM]
  | a :: l, n, h => by
    rw [List.sum_cons] at h ⊢
    rw [sumM, if_pos (by omega), sumM_ok l (n + a) (by omega)]
    congr 1
    omega
theorem sumM_val : ∀ (l : List Nat) (n : Nat), (sumM n l).2 = 0 → (sumM n l).1 = n + l.sum
  | [], n, _ => by simp [sumM]
  | a :: l, n, h => by
    rw [sumM] at h ⊢
    split at h
    · rename_i h1
      rw [if_pos h1, sumM_val l (n + a) h, List.sum_cons]
      omega
    · cases h
theorem ams_sum (cs : List Cd) (h : ∀ c ∈ cs, c.2.1 = 0 ∨ c.2.1 = 1) : (ams cs 0).sum + (ams cs 1).sum = (cs.map fun c => c.2.2.1).sum := by
  induction cs with
  | nil => rfl
  | cons c cs ih =>
    have ih := ih fun x hx => h x (List.mem_cons_of_mem _ hx)
    unfold ams at ih ⊢
    rcases h c (by simp) with e | e
    · rw [List.filter_cons_of_pos (by simpa using e), List.filter_cons_of_neg (by rw [e]; decide)]
      simp only [List.map_cons, List.sum_cons]
      omega
    · rw [List.filter_cons_of_neg (by rw [e]; decide), List.filter_cons_of_pos (by simpa using e)]
      simp only [List.map_cons, List.sum_cons]
      omega
theorem picks_sum (l : List (Cd × Bool)) (h : ∀ p ∈ l, p.1.2.1 = 0 ∨ p.1.2.1 = 1) : (picks l 0).sum + (picks l 1).sum = (l.map fun p => p.1.2.2.1).sum := by
  induction l with
  | nil => rfl
  | cons p l ih =>
    have ih := ih fun x hx => h x (List.mem_cons_of_mem _ hx)
    unfold picks at ih ⊢
    rcases h p (by simp) with e | e <;> cases hd : p.2
    · rw [List.filter_cons_of_pos (by rw [e, hd]; decide), List.filter_cons_of_neg (by rw [e, hd]; decide)]
      simp only [List.map_cons, List.sum_cons]
      omega
    · rw [List.filter_cons_of_neg (by rw [e, hd]; decide), List.filter_cons_of_pos (by rw [e, hd]; decide)]
      simp only [List.map_cons, List.sum_cons]
      omega
    · rw [List.filter_cons_of_neg (by rw [e, hd]; decide), List.filter_cons_of_pos (by rw [e, hd]; decide)]
      simp only [List.map_cons, List.sum_cons]
      omega
    · rw [List.filter_cons_of_pos (by rw [e, hd]; decide), List.filter_cons_of_neg (by rw [e, hd]; decide)]
      simp only [List.map_cons, List.sum_cons]
      omega
/-- What a side has at last. -/
def outM (s : St) (p0 p1 : Nat) (l : List (Cd × Bool)) (side : Int) : Nat × Int := sumM 0 ((freeM s p0 p1 side).1 :: pick2 s.t0 s.t1 side :: picks l side)
theorem zip_map (cs : List Cd) (ds : List Bool) (h : cs.length = ds.length) : (cs.zip ds).map (fun p => p.1.2.2.1) = cs.map fun c => c.2.2.1 := by
  have : (fun p : Cd × Bool => p.1.2.2.1) = (fun c : Cd => c.2.2.1) ∘ Prod.fst := rfl
  rw [this, ← List.map_map, List.map_fst_zip (by omega)]
theorem out_sum {s : St} {p0 p1 : Nat} {ds : List Bool} (h : soundM s p0 p1 = 0) (hl : List.length (α := Cd) s.cs = ds.length) (hp : p0 + p1 < M64) :
    (outM s p0 p1 (s.cs.zip ds) 0).2 = 0 ∧ (outM s p0 p1 (s.cs.zip ds) 1).2 = 0 ∧ (outM s p0 p1 (s.cs.zip ds) 0).1 + (outM s p0 p1 (s.cs.zip ds) 1).1 = p0 + p1 := by
  obtain ⟨_, _, hsd, _, hf0, hf1⟩ := sound_zero h
  obtain ⟨g0, e0⟩ := free_ok hf0
  obtain ⟨g1, e1⟩ := free_ok hf1
  have k0 : (heldM s.cs 0).1 = 0 + (ams s.cs 0).sum := sumM_val _ _ g0
  have k1 : (heldM s.cs 1).1 = 0 + (ams s.cs 1).sum := sumM_val _ _ g1
  have q := ams_sum s.cs fun c hc => (hsd c hc).1
  have q2 := picks_sum (s.cs.zip ds) fun p hp => (hsd p.1 (List.of_mem_zip hp).1).1
  rw [zip_map _ _ hl] at q2
  have a0 : pick2 s.m0 s.m1 0 = s.m0 := rfl
  have a1 : pick2 s.m0 s.m1 1 = s.m1 := rfl
  have a2 : pick2 s.t0 s.t1 0 = s.t0 := rfl
  have a3 : pick2 s.t0 s.t1 1 = s.t1 := rfl
  have a4 : pick2 p0 p1 0 = p0 := rfl
  have a5 : pick2 p0 p1 1 = p1 := rfl
  have a6 : pick2 s.m1 s.m0 0 = s.m1 := rfl
  have a7 : pick2 s.m1 s.m0 1 = s.m0 := rfl
  rw [a0, a2, a4, a6] at e0
  rw [a1, a3, a5, a7] at e1
  have s0 : 0 + ((freeM s p0 p1 0).1 :: pick2 s.t0 s.t1 0 :: picks (s.cs.zip ds) 0).sum < M64 := by rw [List.sum_cons, List.sum_cons, a2]; omega
  have s1 : 0 + ((freeM s p0 p1 1).1 :: pick2 s.t0 s.t1 1 :: picks (s.cs.zip ds) 1).sum < M64 := by rw [List.sum_cons, List.sum_cons, a3]; omega
  unfold outM
  rw [sumM_ok _ _ s0, sumM_ok _ _ s1]
  refine ⟨rfl, rfl, ?_⟩
  show 0 + _ + (0 + _) = _
  rw [List.sum_cons, List.sum_cons, List.sum_cons, List.sum_cons, a2, a3]
  omega
/-- With more put in a state may be, or its sums are too great. -/
theorem sound_more {s : St} {p0 p1 a b : Nat} (h : soundM s p0 p1 = 0) (ha : p0 ≤ a) (hb : p1 ≤ b) : soundM s a b = 0 ∨ soundM s a b = 11 := by
  obtain ⟨h1, h2, hsd, hbd, hf0, hf1⟩ := sound_zero h
  have key : ∀ m : Int, (m = 0 ∨ m = 1) → (freeM s p0 p1 m).2 = 0 → pick2 p0 p1 m ≤ pick2 a b m → (freeM s a b m).2 = 0 ∨ (freeM s a b m).2 = 11 := by
    intro m hm hf hle
    obtain ⟨g, e⟩ := free_ok hf
    unfold freeM
    rw [if_pos hm, if_pos g]
    by_cases hs : (sumM 0 [pick2 a b m, pick2 s.m1 s.m0 m]).2 = 0
    · rw [if_pos hs, sum2_ok hs]
      left
      simp only [subL]
      rw [if_neg (by omega), if_neg (by omega), if_neg (by omega)]
    · rw [if_neg hs]
      exact .inr rfl
  unfold soundM
  rw [if_neg (by omega), if_neg (by omega)]
  rcases key 0 (.inl rfl) hf0 ha with k0 | k0
  · rw [if_neg (by omega)]
    exact key 1 (.inr rfl) hf1 hb
  · rw [if_pos (by omega)]
    exact .inr k0
end Go.Proofs.Ytnpolfihbfdggaa

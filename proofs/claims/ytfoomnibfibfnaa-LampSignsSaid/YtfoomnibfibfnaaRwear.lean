/- How the reference lays its eight words out as 32 bytes, from the last one down. Plain. -/
import Derived.Test.YtfoomnibfibfnaaRsha
set_option linter.unusedVariables false
set_option linter.unusedSimpArgs false
set_option linter.unnecessarySimpa false
namespace Go.Proofs.Ytfoomnibfibfnaa

/-- The words once all but j bytes have been laid. -/
def worn (S : List Nat) (j : Nat) : List Nat := (List.range 8).map fun m => S.getD m 0 / 256 ^ (min 4 (4 * m + 4 - j))
theorem worn_length (S : List Nat) (j : Nat) : (worn S j).length = 8 := by simp [worn]
theorem worn_getD (S : List Nat) (j m : Nat) (h : m < 8) : (worn S j).getD m 0 = S.getD m 0 / 256 ^ (min 4 (4 * m + 4 - j)) := by
  simp [worn, List.getD, List.getElem?_map, List.getElem?_range h]
theorem worn_32 (S : List Nat) (h : S.length = 8) : worn S 32 = S := by
  apply List.ext_getElem
  · rw [worn_length, h]
  · intro i h1 h2
    have h8 : i < 8 := by omega
    have e : min 4 (4 * i + 4 - 32) = 0 := by omega
    simp only [worn, List.getElem_map, List.getElem_range, e, Nat.pow_zero, Nat.div_one]
    simp [List.getD, h2]
theorem worn_step (S : List Nat) (i : Nat) (hi : i < 32) : (worn S (i + 1)).set (i / 4) ((worn S (i + 1)).getD (i / 4) 0 / 256) = worn S i := by
  have hq : i / 4 < 8 := by omega
  rw [worn_getD _ _ _ hq, Nat.div_div_eq_div_mul, ← Nat.pow_succ]
  apply List.ext_getElem
  · rw [List.length_set, worn_length, worn_length]
  · intro m h1 h2
    have h8 : m < 8 := by rw [worn_length] at h2; exact h2
    rw [List.getElem_set]
    by_cases he : i / 4 = m
    · subst he
      rw [if_pos rfl]
      have e : (min 4 (4 * (i / 4) + 4 - (i + 1))).succ = min 4 (4 * (i / 4) + 4 - i) := by omega
      rw [e]
      simp [worn]
    · rw [if_neg he]
      have e : min 4 (4 * m + 4 - (i + 1)) = min 4 (4 * m + 4 - i) := by omega
      simp only [worn, List.getElem_map, List.getElem_range, e]
theorem worn_byte (S : List Nat) (hS : S.length = 8) (i : Nat) (hi : i < 32) : (S.flatMap (be 4)).getD i 0 = UInt8.ofNat ((worn S (i + 1)).getD (i / 4) 0) := by
  rw [worn_getD _ _ _ (by omega)]
  match S, hS with
  | [a, b, c, d, e, f, g, h], _ =>
    have hd : ∀ r q, r < 4 → q < 8 → i = 4 * q + r → min 4 (4 * (i / 4) + 4 - (i + 1)) = 3 - r ∧ i / 4 = q := by intro r q _ _ _; omega
    have hq : i / 4 < 8 := by omega
    have hr : i % 4 < 4 := by omega
    have hi4 : i = 4 * (i / 4) + i % 4 := by omega
    obtain ⟨h1, -⟩ := hd (i % 4) (i / 4) hr hq hi4
    rw [h1]
    generalize hqq : i / 4 = q at *
    generalize hrr : i % 4 = r at *
    subst hi4
    clear h1 hd hi hqq hrr
    rcases q with _ | _ | _ | _ | _ | _ | _ | _ | q <;> first | omega | (rcases r with _ | _ | _ | _ | r <;> first | omega | simp [be, Nat.div_div_eq_div_mul])
theorem laid_down (full : List UInt8) (i : Nat) (hi : i < full.length) : (List.replicate (i + 1) 0 ++ full.drop (i + 1)).set i (full.getD i 0) = List.replicate i 0 ++ full.drop i := by
  rw [List.drop_eq_getElem_cons hi, List.replicate_succ', List.append_assoc, List.set_append]
  simp [List.getD, hi]
end Go.Proofs.Ytfoomnibfibfnaa

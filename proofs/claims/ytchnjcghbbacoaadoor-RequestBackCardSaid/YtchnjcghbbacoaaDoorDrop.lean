/- Parts of byte slices. No condition but what each names. -/
import Derived.Test.YtchnjcghbbacoaaDoorByt
set_option linter.unusedVariables false
set_option linter.unusedSimpArgs false
set_option linter.unnecessarySimpa false
namespace Go.Proofs.YtchnjcghbbacoaaDoor
open Go.RowKit

/-- 's[k:]' of bytes. -/
theorem holds_drop {w : World} {F : Fp} {A : Option Addr} {c n : Nat} {bs : List UInt8} (h : (Ty.sl .u8).holds w F [.slice A bs.length c] bs) (hn : n ≤ bs.length) :
    (Ty.sl .u8).holds w F [.slice (if c = n then A else A.map (·.add n)) (bs.length - n) (c - n)] (bs.drop n) := by
  obtain ⟨A', c', xs, hv, hl, hc, hA, hcell, hall⟩ := h
  cases hv
  have hx := AllH.bytes.1 hall
  subst hx
  refine ⟨(if c = n then A else A.map (·.add n)), c - n, bv (bs.drop n), by rw [List.length_drop], by rw [List.length_drop]; omega, by omega, ?_, ?_, AllH.bytes.2 rfl⟩
  · intro h0
    by_cases hcn : c = n
    · omega
    · rw [if_neg hcn] at h0
      have : A = none := by cases A <;> simp_all
      have := hA this
      omega
  · intro hne
    have hne' : bs ≠ [] := by rintro rfl; simp at hne
    have hlt : n < bs.length := by rcases Nat.lt_or_ge n bs.length with h | h; exact h; exact absurd (List.drop_eq_nil_of_le h) hne
    obtain ⟨ad, rfl, hF, hcs⟩ := hcell hne'
    rw [if_neg (by omega)]
    refine ⟨ad.add n, rfl, by rw [add_block]; exact hF, ?_⟩
    have := hcs.drop n
    rwa [show (bv bs).drop n = bv (bs.drop n) by simp [bv]] at this
theorem holds_take {w : World} {F : Fp} {A : Option Addr} {c n : Nat} {bs : List UInt8} (h : (Ty.sl .u8).holds w F [.slice A bs.length c] bs) (hn : n ≤ bs.length) :
    (Ty.sl .u8).holds w F [.slice A n c] (bs.take n) := by
  obtain ⟨A', c', xs, hv, hl, hc, hA, hcell, hall⟩ := h
  cases hv
  have hx := AllH.bytes.1 hall
  subst hx
  refine ⟨A, c, bv (bs.take n), by simp; omega, by simp; omega, hc, hA, ?_, AllH.bytes.2 rfl⟩
  intro hne
  obtain ⟨ad, rfl, hF, hcs⟩ := hcell (by rintro rfl; simp at hne)
  refine ⟨ad, rfl, hF, ?_⟩
  have := hcs.take n
  rwa [show (bv bs).take n = bv (bs.take n) by simp [bv]] at this

/-- How long a slice is. -/
def slLen : Value → Nat
  | .slice _ n _ => n
  | _ => 0
end Go.Proofs.YtchnjcghbbacoaaDoor

/- What is summed for two domains, or of unlike parts, is unlike: plain. Conditions: fewer than 256 parts of fewer than 2^32 bytes each. -/
import Derived.Test.YtklljkfnlakdaaaOf
import Derived.Laws.StructEq
set_option linter.unusedVariables false
set_option linter.unusedSimpArgs false
set_option linter.unnecessarySimpa false
namespace Go.Proofs.Ytklljkfnlakdaaa

theorem be4_inj {n k : Nat} (hn : n < 4294967296) (hk : k < 4294967296) (h : be 4 n = be 4 k) : n = k := by
  simp only [be, List.cons.injEq, and_true] at h
  obtain ⟨h3, h2, h1, h0⟩ := h
  have t3 := congrArg UInt8.toNat h3
  have t2 := congrArg UInt8.toNat h2
  have t1 := congrArg UInt8.toNat h1
  have t0 := congrArg UInt8.toNat h0
  simp only [UInt8.toNat_ofNat', Nat.reducePow, Nat.div_one] at t3 t2 t1 t0
  omega
theorem flat_inj : ∀ {l m : List (List UInt8)}, l.length = m.length → (∀ p ∈ l, p.length < 4294967296) → (∀ p ∈ m, p.length < 4294967296) → l.flatMap blob = m.flatMap blob → l = m
  | [], [], _, _, _, _ => rfl
  | [], _ :: _, h, _, _, _ => by simp at h
  | _ :: _, [], h, _, _, _ => by simp at h
  | p :: l, q :: m, h, hl, hm, e => by
    simp only [List.flatMap_cons, blob, List.append_assoc] at e
    have e4 := List.append_inj e (by rw [be_length, be_length])
    have en := be4_inj (hl p (by simp)) (hm q (by simp)) e4.1
    have e5 := List.append_inj e4.2 en
    rw [e5.1, flat_inj (l := l) (m := m) (by simpa using h) (fun x hx => hl x (by simp [hx])) (fun x hx => hm x (by simp [hx])) e5.2]
theorem textM_inj {a b : UInt8} {l m : List (List UInt8)} (hl : l.length < 256) (hm : m.length < 256) (hl4 : ∀ p ∈ l, p.length < 4294967296) (hm4 : ∀ p ∈ m, p.length < 4294967296) (h : textM a l = textM b m) : a = b ∧ l = m := by
  unfold textM at h
  simp only [List.cons.injEq] at h
  obtain ⟨h1, h2, h3⟩ := h
  have t := congrArg UInt8.toNat h2
  simp only [UInt8.toNat_ofNat', Nat.reducePow] at t
  exact ⟨h1, flat_inj (by omega) hl4 hm4 h3⟩
theorem strOf_eq (a b : List UInt8) : ((strOf a).toList == (strOf b).toList) = decide (a = b) := by
  rw [strOf_toList, strOf_toList]
  by_cases h : a = b
  · subst h; simp
  · simp [h]
theorem strOf_eq2 (a b : List UInt8) : (strOf a == strOf b) = decide (a = b) := by
  rw [beq_toListBytes, strOf_eq]
end Go.Proofs.Ytklljkfnlakdaaa

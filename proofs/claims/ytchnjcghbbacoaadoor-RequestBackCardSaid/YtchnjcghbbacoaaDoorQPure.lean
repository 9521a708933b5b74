/- Layer 25's numbers on lists: bits, fives, the sum. No program in sight, no condition. -/
import Derived.Test.YtchnjcghbbacoaaDoorPure
set_option linter.unusedVariables false
set_option linter.unusedSimpArgs false
set_option linter.unnecessarySimpa false
namespace Go.Proofs.YtchnjcghbbacoaaDoor

/-- The k lowest bits of a number, the highest first. -/
def bitsOf : Nat → Nat → List Nat
  | 0, _ => []
  | k + 1, n => n / 2 ^ k % 2 :: bitsOf k n
theorem bitsOf_length : ∀ k n, (bitsOf k n).length = k
  | 0, _ => rfl
  | k + 1, n => by simp [bitsOf, bitsOf_length k n]
theorem bitsOf_split : ∀ (a b n : Nat), bitsOf (a + b) n = bitsOf a (n / 2 ^ b) ++ bitsOf b n
  | 0, b, n => by simp [bitsOf]
  | a + 1, b, n => by
    rw [show a + 1 + b = (a + b) + 1 by omega, bitsOf, bitsOf, bitsOf_split a b n, List.cons_append, Nat.div_div_eq_div_mul, ← Nat.pow_add, Nat.add_comm b a]
theorem bitsOf_mod : ∀ (k m n : Nat), k ≤ m → bitsOf k (n % 2 ^ m) = bitsOf k n
  | 0, _, _, _ => rfl
  | k + 1, m, n, h => by
    rw [bitsOf, bitsOf, bitsOf_mod k m n (by omega)]
    congr 1
    obtain ⟨j, rfl⟩ : ∃ j, m = k + 1 + j := ⟨m - (k + 1), by omega⟩
    rw [Nat.pow_add, Nat.mod_mul_right_div_self_pow n k j]
where
  Nat.mod_mul_right_div_self_pow (n k j : Nat) : n % (2 ^ (k + 1) * 2 ^ j) / 2 ^ k % 2 = n / 2 ^ k % 2 := by
    rw [Nat.pow_succ, Nat.mul_assoc, Nat.mod_mul_right_div_self]
    rw [Nat.mod_mul_right_mod]
theorem bitsOf_inj : ∀ (k n m : Nat), n < 2 ^ k → m < 2 ^ k → bitsOf k n = bitsOf k m → n = m
  | 0, n, m, hn, hm, _ => by simp at hn hm; omega
  | k + 1, n, m, hn, hm, h => by
    simp only [bitsOf, List.cons.injEq] at h
    have hp : 0 < 2 ^ k := Nat.two_pow_pos k
    rw [Nat.pow_succ] at hn hm
    have hn2 : n / 2 ^ k < 2 := by rw [Nat.div_lt_iff_lt_mul hp]; omega
    have hm2 : m / 2 ^ k < 2 := by rw [Nat.div_lt_iff_lt_mul hp]; omega
    rw [Nat.mod_eq_of_lt hn2, Nat.mod_eq_of_lt hm2] at h
    have h3 := bitsOf_inj k (n % 2 ^ k) (m % 2 ^ k) (Nat.mod_lt _ hp) (Nat.mod_lt _ hp) (by rw [bitsOf_mod k k n (Nat.le_refl _), bitsOf_mod k k m (Nat.le_refl _)]; exact h.2)
    have e1 := Nat.div_add_mod n (2 ^ k)
    have e2 := Nat.div_add_mod m (2 ^ k)
    rw [← e1, ← e2, h.1, h3]
theorem bitsOf_zero : ∀ k, bitsOf k 0 = List.replicate k 0
  | 0 => rfl
  | k + 1 => by rw [bitsOf, bitsOf_zero k, List.replicate_succ]; simp
/-- A number moved up: zeros behind it. -/
theorem bitsOf_up (a b n : Nat) : bitsOf (a + b) (n * 2 ^ b) = bitsOf a n ++ List.replicate b 0 := by
  rw [bitsOf_split, Nat.mul_div_cancel _ (Nat.two_pow_pos b)]
  congr 1
  rw [← bitsOf_mod b b (n * 2 ^ b) (Nat.le_refl _), Nat.mul_mod_left, bitsOf_zero]
/-- Two numbers, one behind the other. -/
theorem bitsOf_join (a b n m : Nat) (hm : m < 2 ^ b) : bitsOf (a + b) (n * 2 ^ b + m) = bitsOf a n ++ bitsOf b m := by
  rw [bitsOf_split]
  have h1 : (n * 2 ^ b + m) / 2 ^ b = n := by
    rw [Nat.add_comm, Nat.add_mul_div_right _ _ (Nat.two_pow_pos b), Nat.div_eq_of_lt hm]; omega
  rw [h1, ← bitsOf_mod b b (n * 2 ^ b + m) (Nat.le_refl _), Nat.add_comm, Nat.add_mul_mod_self_right, Nat.mod_eq_of_lt hm]
theorem bitsOf_two (k n : Nat) : ∀ x ∈ bitsOf k n, x < 2 := by
  induction k with
  | zero => simp [bitsOf]
  | succ k ih =>
    intro x hx
    rcases List.mem_cons.1 hx with rfl | hx
    · exact Nat.mod_lt _ (by decide)
    · exact ih x hx
/-- Bytes' bits. -/
def bitsP (p : List UInt8) : List Nat := p.flatMap fun b => bitsOf 8 b.toNat
theorem bitsP_snoc (p : List UInt8) (b : UInt8) : bitsP (p ++ [b]) = bitsP p ++ bitsOf 8 b.toNat := by simp [bitsP]
theorem bitsP_length (p : List UInt8) : (bitsP p).length = 8 * p.length := by
  induction p with
  | nil => rfl
  | cons b p ih =>
    have : bitsP (b :: p) = bitsOf 8 b.toNat ++ bitsP p := rfl
    rw [this, List.length_append, ih, bitsOf_length, List.length_cons]; omega
def fl5 (l : List Nat) : List Nat := l.flatMap (bitsOf 5)
theorem fl5_snoc (l : List Nat) (n : Nat) : fl5 (l ++ [n]) = fl5 l ++ bitsOf 5 n := by simp [fl5]
theorem fl5_length (l : List Nat) : (fl5 l).length = 5 * l.length := by
  induction l with
  | nil => rfl
  | cons b l ih =>
    have : fl5 (b :: l) = bitsOf 5 b ++ fl5 l := rfl
    rw [this, List.length_append, ih, bitsOf_length, List.length_cons]; omega
theorem fl5_inj : ∀ (l m : List Nat), (∀ x ∈ l, x < 32) → (∀ x ∈ m, x < 32) → fl5 l = fl5 m → l = m
  | [], [], _, _, _ => rfl
  | [], b :: m, _, _, h => by have := congrArg List.length h; rw [fl5_length, fl5_length] at this; simp at this
  | a :: l, [], _, _, h => by have := congrArg List.length h; rw [fl5_length, fl5_length] at this; simp at this
  | a :: l, b :: m, hl, hm, h => by
    have e1 : fl5 (a :: l) = bitsOf 5 a ++ fl5 l := rfl
    have e2 : fl5 (b :: m) = bitsOf 5 b ++ fl5 m := rfl
    rw [e1, e2] at h
    obtain ⟨h1, h2⟩ := List.append_inj h (by rw [bitsOf_length, bitsOf_length])
    rw [bitsOf_inj 5 a b (hl a (by simp)) (hm b (by simp)) h1, fl5_inj l m (fun x hx => hl x (by simp [hx])) (fun x hx => hm x (by simp [hx])) h2]
/-- Bits as numbers of five, filled up with zeros. -/
structure Fives (l out : List Nat) : Prop where
  small : ∀ x ∈ out, x < 32
  bits : ∃ pad, pad < 5 ∧ fl5 out = l ++ List.replicate pad 0
theorem Fives.unique {l o o' : List Nat} (h : Fives l o) (h' : Fives l o') : o = o' := by
  obtain ⟨p, hp, e⟩ := h.bits
  obtain ⟨p', hp', e'⟩ := h'.bits
  have l1 := congrArg List.length e
  have l2 := congrArg List.length e'
  simp only [List.length_append, List.length_replicate, fl5_length] at l1 l2
  obtain rfl : p = p' := by omega
  exact fl5_inj o o' h.small h'.small (e.trans e'.symm)
theorem Fives.length {l o : List Nat} (h : Fives l o) : 5 * o.length ≤ l.length + 4 ∧ l.length ≤ 5 * o.length := by
  obtain ⟨p, hp, e⟩ := h.bits
  have l1 := congrArg List.length e
  simp only [List.length_append, List.length_replicate, fl5_length] at l1
  omega
/-! ### The sum -/
def turnsK : List Nat := [996825010, 642813549, 513874426, 1027748829, 705979059]
/-- .. turned by the first k of the turns. -/
def turnBy (top s : Nat) : Nat → Nat
  | 0 => s
  | k + 1 => if top / 2 ^ k % 2 = 1 then turnBy top s k ^^^ turnsK.getD k 0 else turnBy top s k
theorem turnBy_lt (top s : Nat) (hs : s < 2 ^ 30) : ∀ k, turnBy top s k < 2 ^ 30
  | 0 => hs
  | k + 1 => by
    have ih := turnBy_lt top s hs k
    unfold turnBy
    split
    · refine Nat.xor_lt_two_pow ih ?_
      match k with
      | 0 => decide
      | 1 => decide
      | 2 => decide
      | 3 => decide
      | 4 => decide
      | k + 5 => simp [turnsK]
    · exact ih
def mixStep (s n : Nat) : Nat := turnBy (s / 33554432) ((s % 33554432 * 32) ^^^ n) 5
theorem mixStep_lt (s n : Nat) (hn : n < 2 ^ 30) : mixStep s n < 2 ^ 30 := turnBy_lt _ _ (Nat.xor_lt_two_pow (by have := Nat.mod_lt s (show 33554432 > 0 by decide); omega) hn) 5
def mixFrom (s : Nat) (l : List Nat) : Nat := l.foldl mixStep s
def mixM (l : List Nat) : Nat := mixFrom 1 l
theorem mixM_snoc (l : List Nat) (n : Nat) : mixM (l ++ [n]) = mixStep (mixM l) n := by simp [mixM, mixFrom, List.foldl_append]
theorem mixM_lt : ∀ (l : List Nat), (∀ x ∈ l, x < 2 ^ 30) → mixM l < 2 ^ 30 := by
  intro l
  have h : ∀ (l : List Nat) (s : Nat), s < 2 ^ 30 → (∀ x ∈ l, x < 2 ^ 30) → l.foldl mixStep s < 2 ^ 30 := by
    intro l
    induction l with
    | nil => intro s hs _; exact hs
    | cons a l ih => intro s hs hx; exact ih _ (mixStep_lt s a (hx a (by simp))) (fun x h => hx x (by simp [h]))
  exact fun hx => h l 1 (by decide) hx
def headK : List UInt8 := [116, 111, 108, 108, 49]
def aheadK : List Nat := [3, 3, 3, 3, 1, 0, 20, 15, 12, 12, 17]
/-- Six numbers behind which the sum is one. -/
def sixOf (s : Nat) : List Nat := (List.range 6).map fun i => s / 2 ^ (5 * (5 - i)) % 32
def checkM (l : List Nat) : List Nat := sixOf (mixM (aheadK ++ l ++ List.replicate 6 0) ^^^ 1)
def lettersK : List UInt8 := [113, 112, 122, 114, 121, 57, 120, 56, 103, 102, 50, 116, 118, 100, 119, 48, 115, 51, 106, 110, 53, 52, 107, 104, 99, 101, 54, 109, 117, 97, 55, 108]
def letter (n : Nat) : UInt8 := lettersK.getD n 0
def textR (l : List Nat) : List UInt8 := headK ++ (l ++ checkM l).map letter
end Go.Proofs.YtchnjcghbbacoaaDoor

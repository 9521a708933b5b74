/- Laws of the words of SHA-256: bits, bounds. No program in sight. -/
import Derived.Test.YtklljkfnlakdaaaSha
import Derived.Laws.Bits64b
set_option linter.unusedVariables false
set_option linter.unusedSimpArgs false
set_option linter.unnecessarySimpa false
namespace Go.Proofs.Ytklljkfnlakdaaa
open Go

theorem bits_u32 (a b : Nat) (ha : a < 4294967296) (hb : b < 4294967296) :
    bits .and .u32 (a : Int) (b : Int) = ((a &&& b : Nat) : Int) ∧ bits .or .u32 (a : Int) (b : Int) = ((a ||| b : Nat) : Int) ∧ bits .xor .u32 (a : Int) (b : Int) = ((a ^^^ b : Nat) : Int) := by
  have hx : a &&& b < 2 ^ 32 := Nat.and_lt_two_pow _ (by omega)
  have hy : a ||| b < 2 ^ 32 := Nat.or_lt_two_pow (by omega) (by omega)
  have hz : a ^^^ b < 2 ^ 32 := Nat.xor_lt_two_pow (by omega) (by omega)
  have hw : ∀ n : Nat, n < 2 ^ 32 → IntKind.u32.wrap (n : Int) = n := fun n h => by
    simp [IntKind.wrap, IntKind.bits, IntKind.signed]; omega
  have h1 : (BitVec.ofInt 32 (a : Int)).toNat = a := by
    rw [BitVec.ofInt_natCast, BitVec.toNat_ofNat]; exact Nat.mod_eq_of_lt (by omega)
  have h2 : (BitVec.ofInt 32 (b : Int)).toNat = b := by
    rw [BitVec.ofInt_natCast, BitVec.toNat_ofNat]; exact Nat.mod_eq_of_lt (by omega)
  refine ⟨?_, ?_, ?_⟩
  · show IntKind.u32.wrap ((BitVec.ofInt 32 (a : Int) &&& BitVec.ofInt 32 (b : Int)).toNat : Int) = _
    rw [BitVec.toNat_and, h1, h2, hw _ hx]
  · show IntKind.u32.wrap ((BitVec.ofInt 32 (a : Int) ||| BitVec.ofInt 32 (b : Int)).toNat : Int) = _
    rw [BitVec.toNat_or, h1, h2, hw _ hy]
  · show IntKind.u32.wrap ((BitVec.ofInt 32 (a : Int) ^^^ BitVec.ofInt 32 (b : Int)).toNat : Int) = _
    rw [BitVec.toNat_xor, h1, h2, hw _ hz]
theorem and_lt32 {a b : Nat} (h : b < 4294967296) : a &&& b < 4294967296 := Nat.and_lt_two_pow (n := 32) _ h
theorem or_lt32 {a b : Nat} (h : a < 4294967296) (k : b < 4294967296) : a ||| b < 4294967296 := Nat.or_lt_two_pow (n := 32) h k
theorem xor_lt32 {a b : Nat} (h : a < 4294967296) (k : b < 4294967296) : a ^^^ b < 4294967296 := Nat.xor_lt_two_pow (n := 32) h k
theorem pow_split {c : Nat} (h : c ≤ 32) : 2 ^ c * 2 ^ (32 - c) = 4294967296 := by rw [← Nat.pow_add, show c + (32 - c) = 32 by omega]
theorem div_lt32 {x c : Nat} (hx : x < 4294967296) (hc : c ≤ 32) : x / 2 ^ c < 2 ^ (32 - c) := by
  rw [Nat.div_lt_iff_lt_mul (Nat.two_pow_pos c), Nat.mul_comm, pow_split hc]; exact hx
theorem rotr_lt {x c : Nat} (hx : x < 4294967296) (hc : c ≤ 32) : rotr x c < 4294967296 := by
  have h1 := div_lt32 hx hc
  have h2 : x % 2 ^ c + 1 ≤ 2 ^ c := Nat.mod_lt _ (Nat.two_pow_pos c)
  have h3 := Nat.mul_le_mul_right (2 ^ (32 - c)) h2
  rw [pow_split hc, Nat.add_mul] at h3
  unfold rotr
  omega
theorem rotr_or (x c : Nat) (hx : x < 4294967296) (hc : c ≤ 32) : (x * 2 ^ (32 - c)) % 4294967296 ||| x / 2 ^ c = rotr x c := by
  have e : (x * 2 ^ (32 - c)) % 4294967296 = x % 2 ^ c * 2 ^ (32 - c) := by rw [← pow_split hc, Nat.mul_mod_mul_right]
  have h1 := div_lt32 hx hc
  have := Nat.shiftLeft_add_eq_or_of_lt h1 (x % 2 ^ c)
  rw [e, ← Nat.shiftLeft_eq, ← this, Nat.shiftLeft_eq, rotr, Nat.add_comm]
theorem rot_bits (x c : Nat) (hx : x < 4294967296) (hc : c ≤ 32) : bits .or .u32 ((x : Int) * 2 ^ (32 - c) % 4294967296) ((x : Int) / 2 ^ c) = ((rotr x c : Nat) : Int) := by
  have e1 : (x : Int) * 2 ^ (32 - c) % 4294967296 = ((x * 2 ^ (32 - c) % 4294967296 : Nat) : Int) := by rw [Int.natCast_emod, Int.natCast_mul, Int.natCast_pow]; rfl
  have e2 : (x : Int) / 2 ^ c = ((x / 2 ^ c : Nat) : Int) := by rw [Int.natCast_ediv, Int.natCast_pow]; rfl
  have h2 : x / 2 ^ c < 4294967296 := Nat.lt_of_le_of_lt (Nat.div_le_self _ _) hx
  rw [e1, e2, (bits_u32 _ _ (Nat.mod_lt _ (by decide)) h2).2.1, rotr_or x c hx hc]
theorem threeM_lt {x a b c : Nat} {f : Bool} (hx : x < 4294967296) (ha : a ≤ 32) (hb : b ≤ 32) (hc : c ≤ 32) : threeM x a b c f < 4294967296 := by
  unfold threeM
  refine xor_lt32 (xor_lt32 (rotr_lt hx ha) (rotr_lt hx hb)) ?_
  cases f
  · exact rotr_lt hx hc
  · exact Nat.lt_of_le_of_lt (Nat.div_le_self _ _) hx
theorem pickM_lt {e f g : Nat} (hf : f < 4294967296) (hg : g < 4294967296) : pickM e f g < 4294967296 := xor_lt32 hg (and_lt32 (xor_lt32 hf hg))
theorem mostM_lt {a b c : Nat} (ha : a < 4294967296) (hb : b < 4294967296) : mostM a b c < 4294967296 := or_lt32 (and_lt32 hb) (and_lt32 (or_lt32 ha hb))

/-! ### The words of a block -/
theorem sched_length (b : List Nat) : ∀ n, (sched b n).length = b.length + n
  | 0 => rfl
  | n + 1 => by rw [sched, List.length_append, sched_length b n]; rfl
theorem sched_take (b : List Nat) (n m : Nat) : (sched b (n + m)).take (b.length + n) = sched b n := by
  induction m with
  | zero => rw [Nat.add_zero, ← sched_length b n, List.take_length]
  | succ m ih =>
    rw [← Nat.add_assoc, sched, List.take_append_of_le_length (by rw [sched_length]; omega), ih]
theorem getD_take {l : List Nat} {n i : Nat} (h : i < n) : (l.take n).getD i 0 = l.getD i 0 := by
  simp [List.getD, h]
theorem wordNext_take (l : List Nat) (n i : Nat) (h : i + 14 < n) : wordNext (l.take n) i = wordNext l i := by
  have h0 : (l.take n).getD i 0 = l.getD i 0 := getD_take (by omega)
  have h1 : (l.take n).getD (i + 1) 0 = l.getD (i + 1) 0 := getD_take (by omega)
  have h2 : (l.take n).getD (i + 9) 0 = l.getD (i + 9) 0 := getD_take (by omega)
  have h3 : (l.take n).getD (i + 14) 0 = l.getD (i + 14) 0 := getD_take (by omega)
  unfold wordNext
  rw [h0, h1, h2, h3]
theorem getD_snoc (W : List Nat) (m x : Nat) (hl : W.length = m) : (W ++ [x]).getD m 0 = x := by
  subst hl; simp [List.getD]
theorem sched_succ (b : List Nat) (n : Nat) : sched b (n + 1) = sched b n ++ [wordNext (sched b n) n] := rfl
theorem sched_next (b : List Nat) (hb : b.length = 16) (m n : Nat) (h : n < m) : (sched b m).getD (16 + n) 0 = wordNext (sched b m) n := by
  obtain ⟨k, rfl⟩ : ∃ k, m = n + 1 + k := ⟨m - (n + 1), by omega⟩
  have h1 := sched_take b (n + 1) k
  have h0 := sched_take b n (1 + k)
  rw [← Nat.add_assoc] at h0
  rw [hb] at h0 h1
  generalize sched b (n + 1 + k) = W at h0 h1 ⊢
  rw [← getD_take (n := 16 + (n + 1)) (by omega), h1, sched_succ b n, ← h0, wordNext_take _ _ _ (by omega)]
  have hl : (List.take (16 + n) W).length = 16 + n := by rw [h0, sched_length, hb]
  exact getD_snoc _ _ _ hl
theorem sched_head (b : List Nat) (n i : Nat) (h : i < b.length) : (sched b n).getD i 0 = b.getD i 0 := by
  have h1 := sched_take b 0 n
  rw [Nat.zero_add] at h1
  rw [← getD_take (n := b.length + 0) (by omega), h1]
  rfl
theorem wordNext_lt (w : List Nat) (i : Nat) : wordNext w i < 4294967296 := Nat.mod_lt _ (by decide)
theorem sched_lt (b : List Nat) (hb : ∀ x ∈ b, x < 4294967296) : ∀ n, ∀ x ∈ sched b n, x < 4294967296
  | 0 => hb
  | n + 1 => by
    intro x hx
    rw [sched, List.mem_append] at hx
    rcases hx with hx | hx
    · exact sched_lt b hb n x hx
    · rw [List.mem_singleton] at hx; subst hx; exact wordNext_lt _ _
theorem getD_lt {l : List Nat} (h : ∀ x ∈ l, x < 4294967296) (i : Nat) : l.getD i 0 < 4294967296 := by
  rw [List.getD]
  cases e : l[i]? with
  | none => decide
  | some x => exact h x (List.mem_of_getElem? e)
theorem words_length (b : List UInt8) (n : Nat) : (words b n).length = n := by simp [words]
theorem words_lt (b : List UInt8) (n : Nat) : ∀ x ∈ words b n, x < 4294967296 := by
  intro x hx
  obtain ⟨i, _, rfl⟩ := List.mem_map.1 hx
  exact Nat.lt_of_lt_of_le (beNum_lt _) (show 256 ^ ((b.drop (4 * i)).take 4).length ≤ 256 ^ 4 from Nat.pow_le_pow_right (by decide) (List.length_take_le _ _))
/-- The sixteen words that are known ahead of round i: each in the place of the latest of its remainder. -/
def nearIdx (i j : Nat) : Nat := if i < 16 then j else i - 1 - (i - 1 - j) % 16
def near (w : List Nat) (i : Nat) : List Nat := (List.range 16).map fun j => w.getD (nearIdx i j) 0
theorem near_length (w : List Nat) (i : Nat) : (near w i).length = 16 := by simp [near]
theorem near_get (w : List Nat) (i j : Nat) (h : j < 16) : (near w i)[j]? = some (w.getD (nearIdx i j) 0) := by simp [near, h]
theorem near_small (w : List Nat) (i : Nat) (h : i < 16) : near w (i + 1) = near w i := by
  unfold near
  apply List.map_congr_left
  intro j hj
  have : j < 16 := by simpa using hj
  have e : nearIdx (i + 1) j = nearIdx i j := by
    unfold nearIdx
    rw [if_pos h]
    split <;> omega
  rw [e]
theorem near_step (w : List Nat) (i : Nat) (h : 16 ≤ i) : (near w i).set (i % 16) (w.getD i 0) = near w (i + 1) := by
  apply List.ext_getElem?
  intro j
  rw [List.getElem?_set]
  rcases Nat.lt_or_ge j 16 with hj | hj
  · rw [near_get _ _ _ hj, near_get _ _ _ hj, near_length]
    by_cases e : i % 16 = j
    · have e2 : nearIdx (i + 1) j = i := by unfold nearIdx; split <;> omega
      rw [if_pos e, if_pos (by omega), e2]
    · have e2 : nearIdx (i + 1) j = nearIdx i j := by
        unfold nearIdx
        rw [if_neg (show ¬ i < 16 by omega)]
        split <;> omega
      rw [if_neg e, e2]
  · rw [if_neg (by omega), List.getElem?_eq_none (by rw [near_length]; exact hj), List.getElem?_eq_none (by rw [near_length]; exact hj)]
/-- What round i reads: the words 16, 15, 7, 2 ahead of it. -/
theorem near_reads (w : List Nat) (i : Nat) (h : 16 ≤ i) : (near w i)[i % 16]? = some (w.getD (i - 16) 0) ∧ (near w i)[(i + 1) % 16]? = some (w.getD (i - 16 + 1) 0) ∧
    (near w i)[(i + 9) % 16]? = some (w.getD (i - 16 + 9) 0) ∧ (near w i)[(i + 14) % 16]? = some (w.getD (i - 16 + 14) 0) := by
  refine ⟨?_, ?_, ?_, ?_⟩ <;>
  · rw [near_get _ _ _ (Nat.mod_lt _ (by decide))]
    congr 2
    unfold nearIdx
    split <;> omega
theorem near_at (w : List Nat) (i : Nat) (h : i < 16) : (near w i)[i % 16]? = some (w.getD i 0) := by
  rw [near_get _ _ _ (Nat.mod_lt _ (by decide))]
  congr 2
  unfold nearIdx
  split <;> omega
theorem near_now (w : List Nat) (i : Nat) (h : 16 ≤ i) : (near w (i + 1))[i % 16]? = some (w.getD i 0) := by
  rw [near_get _ _ _ (Nat.mod_lt _ (by decide))]
  congr 2
  unfold nearIdx
  split <;> omega
theorem near_zero_words (b : List UInt8) (n : Nat) : near (sched (words b 16) n) 0 = words b 16 := by
  apply List.ext_getElem?
  intro j
  rcases Nat.lt_or_ge j 16 with hj | hj
  · have hl := words_length b 16
    rw [near_get _ _ _ hj]
    have e : nearIdx 0 j = j := by unfold nearIdx; rw [if_pos (by decide)]
    rw [e, sched_head _ _ _ (by omega), List.getElem?_eq_getElem (by omega)]
    simp [List.getD, List.getElem?_eq_getElem (show j < (words b 16).length by omega)]
  · rw [List.getElem?_eq_none (by rw [near_length]; exact hj), List.getElem?_eq_none (by rw [words_length]; exact hj)]
theorem roundM_eq (a b c d e f g h k w : Nat) : roundM [a, b, c, d, e, f, g, h] k w = [(h + threeM e 6 11 25 false + pickM e f g + k + w + threeM a 2 13 22 false + mostM a b c) % 4294967296, a, b, c, (d + (h + threeM e 6 11 25 false + pickM e f g + k + w)) % 4294967296, e, f, g] := rfl
theorem list8 {s : List Nat} (h : s.length = 8) : ∃ a b c d e f g i, s = [a, b, c, d, e, f, g, i] := by
  match s, h with
  | [a, b, c, d, e, f, g, i], _ => exact ⟨a, b, c, d, e, f, g, i, rfl⟩
theorem roundM_ok {s : List Nat} (h : s.length = 8 ∧ ∀ x ∈ s, x < 4294967296) (k w : Nat) : (roundM s k w).length = 8 ∧ ∀ x ∈ roundM s k w, x < 4294967296 := by
  obtain ⟨a, b, c, d, e, f, g, i, rfl⟩ := list8 h.1
  have h2 := h.2
  simp only [List.mem_cons, List.not_mem_nil, or_false] at h2
  rw [roundM_eq]
  refine ⟨rfl, ?_⟩
  intro x hx
  simp only [List.mem_cons, List.not_mem_nil, or_false] at hx
  rcases hx with rfl | rfl | rfl | rfl | rfl | rfl | rfl | rfl
  · exact Nat.mod_lt _ (by decide)
  · exact h2 _ (by simp)
  · exact h2 _ (by simp)
  · exact h2 _ (by simp)
  · exact Nat.mod_lt _ (by decide)
  · exact h2 _ (by simp)
  · exact h2 _ (by simp)
  · exact h2 _ (by simp)
theorem rounds_ok {s : List Nat} (h : s.length = 8 ∧ ∀ x ∈ s, x < 4294967296) (w : List Nat) : ∀ n, (rounds s w n).length = 8 ∧ ∀ x ∈ rounds s w n, x < 4294967296
  | 0 => h
  | n + 1 => roundM_ok (rounds_ok h w n) _ _
theorem rounds_succ (s w : List Nat) (n : Nat) : rounds s w (n + 1) = roundM (rounds s w n) (stirK.getD n 0) (w.getD n 0) := rfl
theorem stirK_lt (i : Nat) : stirK.getD i 0 < 4294967296 := getD_lt (by decide) i
/-- The words of a block, without their number in sight. -/
theorem block_W (s : List Nat) (b : List UInt8) : ∃ W : List Nat, near W 0 = words b 16 ∧ (∀ x ∈ W, x < 4294967296) ∧ (∀ n, n < 48 → W.getD (16 + n) 0 = wordNext W n) ∧ (∀ n, n = 64 → List.zipWith (fun x y => (x + y) % 4294967296) s (rounds s W n) = block s b) :=
  ⟨sched (words b 16) 48, near_zero_words b 48, sched_lt _ (words_lt b 16) 48, fun n hn => sched_next _ (words_length b 16) 48 n hn, fun n hn => by subst hn; rfl⟩
end Go.Proofs.Ytklljkfnlakdaaa

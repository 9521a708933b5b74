/- Walks and plain laws, put together in build order. Conditions: what each of them names. -/
import Derived.Laws.Bits64b
import Derived.Orders
import Derived.Deep.Quiet
import Derived.BigQuiet
import Derived.Test.YtpdkmapogncgmaaW8776a214ad
set_option linter.unusedVariables false
set_option linter.unusedSimpArgs false
set_option linter.unnecessarySimpa false
namespace Go.Proofs.Ytpdkmapogncgmaa
section
open Go

theorem bits_u32 (a b : Nat) (ha : a < 4294967296) (hb : b < 4294967296) :
    bits .and .u32 (a : Int) (b : Int) = ((a &&& b : Nat) : Int) ∧ bits .or .u32 (a : Int) (b : Int) = ((a ||| b : Nat) : Int) ∧ bits .xor .u32 (a : Int) (b : Int) = ((a ^^^ b : Nat) : Int) := by
  have hx : a &&& b < 2 ^ 32 := Nat.and_lt_two_pow _ (by omega)
  have hy : a ||| b < 2 ^ 32 := Nat.or_lt_two_pow (by omega) (by omega)
  have hz : a ^^^ b < 2 ^ 32 := Nat.xor_lt_two_pow (by omega) (by omega)
  have hw : ∀ n : Nat, n < 2 ^ 32 → IntKind.u32.wrap (n : Int) = n := fun n h => by
    simp [IntKind.wrap, IntKind.bits, IntKind.signed]; omega
  have h1 : (BitVec.ofInt 32 (a : Int)).toNat = a := by
    rw [BitVec.ofInt_natCast, BitVec.toNat_ofNat]; exact Nat.mod_eq_of_lt (by omega)
  have h2 : (BitVec.ofInt 32 (b : Int)).toNat = b := by
    rw [BitVec.ofInt_natCast, BitVec.toNat_ofNat]; exact Nat.mod_eq_of_lt (by omega)
  refine ⟨?_, ?_, ?_⟩
  · show IntKind.u32.wrap ((BitVec.ofInt 32 (a : Int) &&& BitVec.ofInt 32 (b : Int)).toNat : Int) = _
    rw [BitVec.toNat_and, h1, h2, hw _ hx]
  · show IntKind.u32.wrap ((BitVec.ofInt 32 (a : Int) ||| BitVec.ofInt 32 (b : Int)).toNat : Int) = _
    rw [BitVec.toNat_or, h1, h2, hw _ hy]
  · show IntKind.u32.wrap ((BitVec.ofInt 32 (a : Int) ^^^ BitVec.ofInt 32 (b : Int)).toNat : Int) = _
    rw [BitVec.toNat_xor, h1, h2, hw _ hz]
theorem and_lt32 {a b : Nat} (h : b < 4294967296) : a &&& b < 4294967296 := Nat.and_lt_two_pow (n := 32) _ h
theorem or_lt32 {a b : Nat} (h : a < 4294967296) (k : b < 4294967296) : a ||| b < 4294967296 := Nat.or_lt_two_pow (n := 32) h k
theorem xor_lt32 {a b : Nat} (h : a < 4294967296) (k : b < 4294967296) : a ^^^ b < 4294967296 := Nat.xor_lt_two_pow (n := 32) h k
theorem pow_split {c : Nat} (h : c ≤ 32) : 2 ^ c * 2 ^ (32 - c) = 4294967296 := by rw [← Nat.pow_add, show c + (32 - c) = 32 by omega]
theorem div_lt32 {x c : Nat} (hx : x < 4294967296) (hc : c ≤ 32) : x / 2 ^ c < 2 ^ (32 - c) := by
  rw [Nat.div_lt_iff_lt_mul (Nat.two_pow_pos c), Nat.mul_comm, pow_split hc]; exact hx
theorem rotr_lt {x c : Nat} (hx : x < 4294967296) (hc : c ≤ 32) : rotr x c < 4294967296 := by
  have h1 := div_lt32 hx hc
  have h2 : x % 2 ^ c + 1 ≤ 2 ^ c := Nat.mod_lt _ (Nat.two_pow_pos c)
  have h3 := Nat.mul_le_mul_right (2 ^ (32 - c)) h2
  rw [pow_split hc, Nat.add_mul] at h3
  unfold rotr
  omega
theorem rotr_or (x c : Nat) (hx : x < 4294967296) (hc : c ≤ 32) : (x * 2 ^ (32 - c)) % 4294967296 ||| x / 2 ^ c = rotr x c := by
  have e : (x * 2 ^ (32 - c)) % 4294967296 = x % 2 ^ c * 2 ^ (32 - c) := by rw [← pow_split hc, Nat.mul_mod_mul_right]
  have h1 := div_lt32 hx hc
  have := Nat.shiftLeft_add_eq_or_of_lt h1 (x % 2 ^ c)
  rw [e, ← Nat.shiftLeft_eq, ← this, Nat.shiftLeft_eq, rotr, Nat.add_comm]
theorem rot_bits (x c : Nat) (hx : x < 4294967296) (hc : c ≤ 32) : bits .or .u32 ((x : Int) * 2 ^ (32 - c) % 4294967296) ((x : Int) / 2 ^ c) = ((rotr x c : Nat) : Int) := by
  have e1 : (x : Int) * 2 ^ (32 - c) % 4294967296 = ((x * 2 ^ (32 - c) % 4294967296 : Nat) : Int) := by rw [Int.natCast_emod, Int.natCast_mul, Int.natCast_pow]; rfl
  have e2 : (x : Int) / 2 ^ c = ((x / 2 ^ c : Nat) : Int) := by rw [Int.natCast_ediv, Int.natCast_pow]; rfl
  have h2 : x / 2 ^ c < 4294967296 := Nat.lt_of_le_of_lt (Nat.div_le_self _ _) hx
  rw [e1, e2, (bits_u32 _ _ (Nat.mod_lt _ (by decide)) h2).2.1, rotr_or x c hx hc]
theorem threeM_lt {x a b c : Nat} {f : Bool} (hx : x < 4294967296) (ha : a ≤ 32) (hb : b ≤ 32) (hc : c ≤ 32) : threeM x a b c f < 4294967296 := by
  unfold threeM
  refine xor_lt32 (xor_lt32 (rotr_lt hx ha) (rotr_lt hx hb)) ?_
  cases f
  · exact rotr_lt hx hc
  · exact Nat.lt_of_le_of_lt (Nat.div_le_self _ _) hx
theorem pickM_lt {e f g : Nat} (hf : f < 4294967296) (hg : g < 4294967296) : pickM e f g < 4294967296 := xor_lt32 hg (and_lt32 (xor_lt32 hf hg))
theorem mostM_lt {a b c : Nat} (ha : a < 4294967296) (hb : b < 4294967296) : mostM a b c < 4294967296 := or_lt32 (and_lt32 hb) (and_lt32 (or_lt32 ha hb))

/-! ### The words of a block -/
theorem sched_length (b : List Nat) : ∀ n, (sched b n).length = b.length + n
  | 0 => rfl
  | n + 1 => by rw [sched, List.length_append, sched_length b n]; rfl
theorem sched_take (b : List Nat) (n m : Nat) : (sched b (n + m)).take (b.length + n) = sched b n := by
  induction m with
  | zero => rw [Nat.add_zero, ← sched_length b n, List.take_length]
  | succ m ih =>
    rw [← Nat.add_assoc, sched, List.take_append_of_le_length (by rw [sched_length]; omega), ih]
theorem getD_take {l : List Nat} {n i : Nat} (h : i < n) : (l.take n).getD i 0 = l.getD i 0 := by
  simp [List.getD, h]
theorem wordNext_take (l : List Nat) (n i : Nat) (h : i + 14 < n) : wordNext (l.take n) i = wordNext l i := by
  have h0 : (l.take n).getD i 0 = l.getD i 0 := getD_take (by omega)
  have h1 : (l.take n).getD (i + 1) 0 = l.getD (i + 1) 0 := getD_take (by omega)
  have h2 : (l.take n).getD (i + 9) 0 = l.getD (i + 9) 0 := getD_take (by omega)
  have h3 : (l.take n).getD (i + 14) 0 = l.getD (i + 14) 0 := getD_take (by omega)
  unfold wordNext
  rw [h0, h1, h2, h3]
theorem getD_snoc (W : List Nat) (m x : Nat) (hl : W.length = m) : (W ++ [x]).getD m 0 = x := by
  subst hl; simp [List.getD]
theorem sched_succ (b : List Nat) (n : Nat) : sched b (n + 1) = sched b n ++ [wordNext (sched b n) n] := rfl
theorem sched_next (b : List Nat) (hb : b.length = 16) (m n : Nat) (h : n < m) : (sched b m).getD (16 + n) 0 = wordNext (sched b m) n := by
  obtain ⟨k, rfl⟩ : ∃ k, m = n + 1 + k := ⟨m - (n + 1), by omega⟩
  have h1 := sched_take b (n + 1) k
  have h0 := sched_take b n (1 + k)
  rw [← Nat.add_assoc] at h0
  rw [hb] at h0 h1
  generalize sched b (n + 1 + k) = W at h0 h1 ⊢
  rw [← getD_take (n := 16 + (n + 1)) (by omega), h1, sched_succ b n, ← h0, wordNext_take _ _ _ (by omega)]
  have hl : (List.take (16 + n) W).length = 16 + n := by rw [h0, sched_length, hb]
  exact getD_snoc _ _ _ hl
theorem sched_head (b : List Nat) (n i : Nat) (h : i < b.length) : (sched b n).getD i 0 = b.getD i 0 := by
  have h1 := sched_take b 0 n
  rw [Nat.zero_add] at h1
  rw [← getD_take (n := b.length + 0) (by omega), h1]
  rfl
theorem wordNext_lt (w : List Nat) (i : Nat) : wordNext w i < 4294967296 := Nat.mod_lt _ (by decide)
theorem sched_lt (b : List Nat) (hb : ∀ x ∈ b, x < 4294967296) : ∀ n, ∀ x ∈ sched b n, x < 4294967296
  | 0 => hb
  | n + 1 => by
    intro x hx
    rw [sched, List.mem_append] at hx
    rcases hx with hx | hx
    · exact sched_lt b hb n x hx
    · rw [List.mem_singleton] at hx; subst hx; exact wordNext_lt _ _
theorem getD_lt {l : List Nat} (h : ∀ x ∈ l, x < 4294967296) (i : Nat) : l.getD i 0 < 4294967296 := by
  rw [List.getD]
  cases e : l[i]? with
  | none => decide
  | some x => exact h x (List.mem_of_getElem? e)
theorem words_length (b : List UInt8) (n : Nat) : (words b n).length = n := by simp [words]
theorem words_lt (b : List UInt8) (n : Nat) : ∀ x ∈ words b n, x < 4294967296 := by
  intro x hx
  obtain ⟨i, _, rfl⟩ := List.mem_map.1 hx
  exact Nat.lt_of_lt_of_le (beNum_lt _) (show 256 ^ ((b.drop (4 * i)).take 4).length ≤ 256 ^ 4 from Nat.pow_le_pow_right (by decide) (List.length_take_le _ _))
/-- The sixteen words that are known ahead of round i: each in the place of the latest of its remainder. -/
def nearIdx (i j : Nat) : Nat := if i < 16 then j else i - 1 - (i - 1 - j) % 16
def near (w : List Nat) (i : Nat) : List Nat := (List.range 16).map fun j => w.getD (nearIdx i j) 0
theorem near_length (w : List Nat) (i : Nat) : (near w i).length = 16 := by simp [near]
theorem near_get (w : List Nat) (i j : Nat) (h : j < 16) : (near w i)[j]? = some (w.getD (nearIdx i j) 0) := by simp [near, h]
theorem near_small (w : List Nat) (i : Nat) (h : i < 16) : near w (i + 1) = near w i := by
  unfold near
  apply List.map_congr_left
  intro j hj
  have : j < 16 := by simpa using hj
  have e : nearIdx (i + 1) j = nearIdx i j := by
    unfold nearIdx
    rw [if_pos h]
    split <;> omega
  rw [e]
theorem near_step (w : List Nat) (i : Nat) (h : 16 ≤ i) : (near w i).set (i % 16) (w.getD i 0) = near w (i + 1) := by
  apply List.ext_getElem?
  intro j
  rw [List.getElem?_set]
  rcases Nat.lt_or_ge j 16 with hj | hj
  · rw [near_get _ _ _ hj, near_get _ _ _ hj, near_length]
    by_cases e : i % 16 = j
    · have e2 : nearIdx (i + 1) j = i := by unfold nearIdx; split <;> omega
      rw [if_pos e, if_pos (by omega), e2]
    · have e2 : nearIdx (i + 1) j = nearIdx i j := by
        unfold nearIdx
        rw [if_neg (show ¬ i < 16 by omega)]
        split <;> omega
      rw [if_neg e, e2]
  · rw [if_neg (by omega), List.getElem?_eq_none (by rw [near_length]; exact hj), List.getElem?_eq_none (by rw [near_length]; exact hj)]
/-- What round i reads: the words 16, 15, 7, 2 ahead of it. -/
theorem near_reads (w : List Nat) (i : Nat) (h : 16 ≤ i) : (near w i)[i % 16]? = some (w.getD (i - 16) 0) ∧ (near w i)[(i + 1) % 16]? = some (w.getD (i - 16 + 1) 0) ∧
    (near w i)[(i + 9) % 16]? = some (w.getD (i - 16 + 9) 0) ∧ (near w i)[(i + 14) % 16]? = some (w.getD (i - 16 + 14) 0) := by
  refine ⟨?_, ?_, ?_, ?_⟩ <;>
  · rw [near_get _ _ _ (Nat.mod_lt _ (by decide))]
    congr 2
    unfold nearIdx
    split <;> omega
theorem near_at (w : List Nat) (i : Nat) (h : i < 16) : (near w i)[i % 16]? = some (w.getD i 0) := by
  rw [near_get _ _ _ (Nat.mod_lt _ (by decide))]
  congr 2
  unfold nearIdx
  split <;> omega
theorem near_now (w : List Nat) (i : Nat) (h : 16 ≤ i) : (near w (i + 1))[i % 16]? = some (w.getD i 0) := by
  rw [near_get _ _ _ (Nat.mod_lt _ (by decide))]
  congr 2
  unfold nearIdx
  split <;> omega
theorem near_zero_words (b : List UInt8) (n : Nat) : near (sched (words b 16) n) 0 = words b 16 := by
  apply List.ext_getElem?
  intro j
  rcases Nat.lt_or_ge j 16 with hj | hj
  · have hl := words_length b 16
    rw [near_get _ _ _ hj]
    have e : nearIdx 0 j = j := by unfold nearIdx; rw [if_pos (by decide)]
    rw [e, sched_head _ _ _ (by omega), List.getElem?_eq_getElem (by omega)]
    simp [List.getD, List.getElem?_eq_getElem (show j < (words b 16).length by omega)]
  · rw [List.getElem?_eq_none (by rw [near_length]; exact hj), List.getElem?_eq_none (by rw [words_length]; exact hj)]
theorem roundM_eq (a b c d e f g h k w : Nat) : roundM [a, b, c, d, e, f, g, h] k w = [(h + threeM e 6 11 25 false + pickM e f g + k + w + threeM a 2 13 22 false + mostM a b c) % 4294967296, a, b, c, (d + (h + threeM e 6 11 25 false + pickM e f g + k + w)) % 4294967296, e, f, g] := rfl
theorem list8 {s : List Nat} (h : s.length = 8) : ∃ a b c d e f g i, s = [a, b, c, d, e, f, g, i] := by
  match s, h with
  | [a, b, c, d, e, f, g, i], _ => exact ⟨a, b, c, d, e, f, g, i, rfl⟩
theorem roundM_ok {s : List Nat} (h : s.length = 8 ∧ ∀ x ∈ s, x < 4294967296) (k w : Nat) : (roundM s k w).length = 8 ∧ ∀ x ∈ roundM s k w, x < 4294967296 := by
  obtain ⟨a, b, c, d, e, f, g, i, rfl⟩ := list8 h.1
  have h2 := h.2
  simp only [List.mem_cons, List.not_mem_nil, or_false] at h2
  rw [roundM_eq]
  refine ⟨rfl, ?_⟩
  intro x hx
  simp only [List.mem_cons, List.not_mem_nil, or_false] at hx
  rcases hx with rfl | rfl | rfl | rfl | rfl | rfl | rfl | rfl
  · exact Nat.mod_lt _ (by decide)
  · exact h2 _ (by simp)
  · exact h2 _ (by simp)
  · exact h2 _ (by simp)
  · exact Nat.mod_lt _ (by decide)
  · exact h2 _ (by simp)
  · exact h2 _ (by simp)
  · exact h2 _ (by simp)
theorem rounds_ok {s : List Nat} (h : s.length = 8 ∧ ∀ x ∈ s, x < 4294967296) (w : List Nat) : ∀ n, (rounds s w n).length = 8 ∧ ∀ x ∈ rounds s w n, x < 4294967296
  | 0 => h
  | n + 1 => roundM_ok (rounds_ok h w n) _ _
theorem rounds_succ (s w : List Nat) (n : Nat) : rounds s w (n + 1) = roundM (rounds s w n) (stirK.getD n 0) (w.getD n 0) := rfl
theorem stirK_lt (i : Nat) : stirK.getD i 0 < 4294967296 := getD_lt (by decide) i
/-- The words of a block, without their number in sight. -/
theorem block_W (s : List Nat) (b : List UInt8) : ∃ W : List Nat, near W 0 = words b 16 ∧ (∀ x ∈ W, x < 4294967296) ∧ (∀ n, n < 48 → W.getD (16 + n) 0 = wordNext W n) ∧ (∀ n, n = 64 → List.zipWith (fun x y => (x + y) % 4294967296) s (rounds s W n) = block s b) :=
  ⟨sched (words b 16) 48, near_zero_words b 48, sched_lt _ (words_lt b 16) 48, fun n hn => sched_next _ (words_length b 16) 48 n hn, fun n hn => by subst hn; rfl⟩
end
section
open Go.RowKit
section
variable (w : World)

set_option maxHeartbeats 400000 in
theorem Rot (x c : Nat) (hx : x < 4294967296) (hc : 0 < c) (hc2 : c < 32) : Calls Try.prog 92 #[.int .u32 x, .int .i64 (-(c : Int))] w fun e w' => e = .returned (.int .u32 (rotr x c)) ∧ w = w' := by
  have hs : ∀ c : Nat, c < 32 → 0 < c → bits .and .u64 (IntKind.u64.wrap (-(c : Int))) 31 = ((32 - c : Nat) : Int) := by decide +kernel
  have hs := hs c hc2 hc
  have hr := rot_bits x c hx (by omega)
  have e32 : 32 - (32 - c) = c := by omega
  have HR := Lib.hid hr
  have HE := Lib.hid e32
  have hs1 : 0 < 32 - c := by omega
  have hs2 : 32 - c < 32 := by omega
  clear hr e32
  go_enter Try.func92, Try.ntmps92
  go_wp2
  go_ret
  refine ⟨?_, rfl⟩
  rw [← HR.out]
  simp [HE.out]

set_option maxHeartbeats 400000 in
theorem Three (x a b c : Nat) (f : Bool) (hx : x < 4294967296) (ha : 0 < a ∧ a < 32) (hb : 0 < b ∧ b < 32) (hc : 0 < c ∧ c < 32) :
    Calls Try.prog 91 #[.int .u32 x, .int .i64 a, .int .i64 b, .int .i64 c, .bool f] w fun e w' => e = .returned (.int .u32 (threeM x a b c f)) ∧ w = w' := by
  have h1 := rotr_lt hx (show a ≤ 32 by omega)
  have h2 := rotr_lt hx (show b ≤ 32 by omega)
  have h3 := rotr_lt hx (show c ≤ 32 by omega)
  have h4 : x / 2 ^ c < 4294967296 := Nat.lt_of_le_of_lt (Nat.div_le_self _ _) hx
  have x1 := (bits_u32 _ _ h1 h2).2.2
  have x2 := (bits_u32 _ _ (xor_lt32 h1 h2) h3).2.2
  have x3 := (bits_u32 _ _ (xor_lt32 h1 h2) h4).2.2
  rw [← x1] at x2 x3
  rw [show ((x / 2 ^ c : Nat) : Int) = (x : Int) / 2 ^ c by rw [Int.natCast_ediv, Int.natCast_pow]; rfl] at x3
  have X2 := Lib.hid x2
  have X3 := Lib.hid x3
  clear x1 x2 x3
  cases f
  all_goals
    go_enter Try.func91, Try.ntmps91
    go_wp2_with fail
    refine (Rot _ x c hx hc.1 hc.2).mono ?_
    rintro e w1 ⟨rfl, rfl⟩
    go_wp2_with fail
    refine (Rot _ x a hx ha.1 ha.2).mono ?_
    rintro e w1 ⟨rfl, rfl⟩
    go_wp2_with fail
    refine (Rot _ x b hx hb.1 hb.2).mono ?_
    rintro e w1 ⟨rfl, rfl⟩
    go_wp2
    go_ret
  · exact ⟨by show Ending.returned (.int .u32 (bits .xor .u32 (bits .xor .u32 _ _) _)) = _; rw [X2.out]; rfl, rfl⟩
  · exact ⟨by show Ending.returned (.int .u32 (bits .xor .u32 (bits .xor .u32 _ _) _)) = _; rw [X3.out]; rfl, rfl⟩

theorem be4_cells (n : Nat) (hn : n < 4294967296) : bv (be 4 n) = [.int .u8 ((n : Int) / 16777216), .int .u8 ((n : Int) / 65536 % 256), .int .u8 ((n : Int) / 256 % 256), .int .u8 ((n : Int) % 256)] := by
  have e : ∀ m : Nat, ((UInt8.ofNat m).toNat : Int) = (m : Int) % 256 := fun m => by rw [UInt8.toNat_ofNat']; omega
  simp only [be, bv, List.map_cons, List.map_nil, e]
  have h3 : ((n / 256 ^ 3 : Nat) : Int) % 256 = (n : Int) / 16777216 := by omega
  have h2 : ((n / 256 ^ 2 : Nat) : Int) % 256 = (n : Int) / 65536 % 256 := by omega
  have h1 : ((n / 256 ^ 1 : Nat) : Int) % 256 = (n : Int) / 256 % 256 := by omega
  have h0 : ((n / 256 ^ 0 : Nat) : Int) % 256 = (n : Int) % 256 := by omega
  rw [h3, h2, h1, h0]
set_option maxHeartbeats 400000 in
theorem Four (n : Nat) (hn : n < 4294967296) : Calls Try.prog 81 #[.int .u32 n] w fun e w' => e = .returned (.slice (some ⟨w.heap.size, 0, none⟩) 4 4) ∧ w' = w.alloc (.cells (bv (be 4 n)).toArray 5) := by
  go_enter Try.func81, Try.ntmps81
  go_wp2
  go_ret
  exact ⟨rfl, by rw [be4_cells n hn]⟩

theorem be_or32 (n : Nat) (b : UInt8) (hn : n < 16777216) : bits .or .u32 ((n : Int) * 256) (b.toNat : Int) = ((n * 256 + b.toNat : Nat) : Int) := by
  have h := b.toNat_lt
  have := Nat.shiftLeft_add_eq_or_of_lt (i := 8) (b := b.toNat) h n
  rw [Nat.shiftLeft_eq] at this
  rw [show (n : Int) * 256 = ((n * 256 : Nat) : Int) from (Int.natCast_mul n 256).symm, (bits_u32 _ _ (by omega) (by omega)).2.1, ← this]
set_option maxHeartbeats 400000 in
theorem Word (ad : Addr) (l c : Nat) (bs : List UInt8) (hb : bs.length = 4) (hl : 4 ≤ l) (hlc : l ≤ c) (hc : c ≤ maxLen) (hcells : Cells w ad (bv bs)) :
    Calls Try.prog 89 #[.slice (some ad) l c] w fun e w' => e = .returned (.int .u32 (beNum bs)) ∧ w = w' := by
  unfold maxLen at hc
  go_enter Try.func89, Try.ntmps89
  go_wp2
  go_loopw [3, 9] (fun m i wr => wr = w ∧ ∃ k : Nat, k ≤ 4 ∧ i = .int .i64 k ∧ m = .int .u32 ((beNum (bs.take k) : Nat) : Int)) (fun _ i _ => 4 - (intOf i).toNat)
  case atStart => exact ⟨rfl, 0, by omega, rfl, rfl⟩
  case round =>
    obtain ⟨rfl, k, hk, rfl, rfl⟩ := hrel
    by_cases hlt : k < 4
    · have hcx := hcells k (.int .u8 (bs[k].toNat : Int)) (by rw [bv, List.getElem?_map, List.getElem?_eq_getElem (by omega)]; rfl)
      have hst := beNum_step bs k (by omega)
      have hbd := beNum_lt (bs.take k)
      have hlow : beNum (bs.take k) < 256 ^ 3 := Nat.lt_of_lt_of_le hbd (Nat.pow_le_pow_right (by omega) (by simp; omega))
      have hor := be_or32 (beNum (bs.take k)) bs[k] (by omega)
      rw [← hst] at hor
      have hb1 := bs[k].toNat_lt
      have HST := Lib.hid hst
      have HOR := Lib.hid hor
      clear hbd hst hor
      go_wp2
      go_roundw
      case rel => exact ⟨trivial, k + 1, by omega, by go_num, by rw [HOR.out]⟩
      case measure => simp [intOf]; omega
    · obtain rfl : k = 4 := by omega
      have e : bs.take 4 = bs := by rw [← hb, List.take_length]
      rw [e]
      clear e
      go_wp2
      go_ret
      exact ⟨rfl, rfl⟩

theorem stir_info : (Try.prog.info? 147).map (·.size) = some 64 := by kernel_rfl
/-- Words as cells. -/
def nv (ns : List Nat) : List Value := ns.map fun (n : Nat) => Value.int .u32 (n : Int)
@[simp] theorem nv_length (ns : List Nat) : (nv ns).length = ns.length := by simp [nv]
theorem stir_zero : (Try.prog.info? 147).bind (fun i => i.zero.map (·.cells)) = some (nv (List.replicate 64 0)).toArray := by kernel_rfl
theorem nv_one (ns : List Nat) : ∀ u ∈ nv ns, u.oneCell' = true := by
  intro u hu
  obtain ⟨n, _, rfl⟩ := List.mem_map.1 hu
  rfl
set_option maxRecDepth 10000 in
theorem Stirs : Calls Try.prog 90 #[] w fun e w' => e = .returned (.agg (nv stirK).toArray) ∧ Ext w w' := by
  have hz := stir_zero
  have hl : (nv stirK).length = 64 := by rw [nv_length]; rfl
  have hi : (Try.prog.info? 147).map (·.size) = some (nv stirK).length := by rw [hl]; kernel_rfl
  have hlz : (nv stirK).length = (nv (List.replicate 64 0)).length := by rw [hl, nv_length, List.length_replicate]
  have hone := nv_one stirK
  generalize nv (List.replicate 64 0) = Z at hz hlz
  go_enter Try.func90, Try.ntmps90
  go_wp2_with (first
    | (refine wpList_alloc _ rfl 147 rfl _ hz ?_)
    | (refine wpList_build (.inl rfl) 147 _ rfl (.agg (nv stirK).toArray) (by kernel_rfl) ?_)
    | (refine wpList_store_new _ rfl 147 (.tmp 0) (.tmp 1) rfl rfl Z (nv stirK) _ rfl hi hlz hone ?_)
    | fail)
  have hc : Cells (w.alloc (.cells (nv stirK).toArray 147)) ⟨w.heap.size, 0, none⟩ (nv stirK) := by have := Cells.of_block (heap_alloc_new w (.cells (nv stirK).toArray 147)); simpa using this
  (try simp only [Exit.inBlock, Exit.then])
  refine bodyPost_ret (results_agg rfl _ _ _ _ _ rfl Try.underlying147 rfl hi hc) rfl ?_
  exact ⟨rfl, (Ext.refl w).alloc _⟩
set_option maxHeartbeats 1000000 in
theorem New : Calls Try.prog 79 #[] w fun e w' => e = .returned (.pointer (some ⟨w.heap.size, 0, none⟩)) ∧ w' = w.alloc (.cells (nv firstK ++ bv (List.replicate 64 0) ++ [Value.int .u64 0]).toArray 142) := by
  go_enter Try.func79, Try.ntmps79
  go_wp2_with (first
    | (refine wpList_build (.inl rfl) 139 _ rfl (.agg (nv firstK).toArray) (by kernel_rfl) ?_)
    | (refine wpList_build (.inl rfl) 142 _ rfl (.agg (nv firstK ++ bv (List.replicate 64 0) ++ [Value.int .u64 0]).toArray) (by kernel_rfl) ?_)
    | fail)
  go_ret
  exact ⟨rfl, rfl⟩
end
end
section
open Go.RowKit

/-- The others' post: behind them the last one runs. -/
def lastPost (P : Program) (last : Oper) (ops : Array Oper) (Q : Exit → Act → World → Prop) : Exit → Act → World → Prop
  | .normal, a, w => if Region.wanted last (yielded ops a.tmps) = true then last.wp P a w (fun a' w' => Q .normal a' w') Q ∨ (last.asks P a w ∧ LetsOut Q) else Q .normal (a.put last.dst undef) w
  | e, a, w => Q e a w

/-- What the walk may look at by computing: every operation depends on earlier ones alone, its guard on the others, the last one on all. -/
def regionLastB (front : List Oper) (last : Oper) : Bool :=
  (front.zipIdx.all fun x => (x.1.after.all fun e => decide (e.on < x.2)) && (match x.1.guard with | some (j, _) => decide (j < front.length) | none => true)) &&
  (((List.range front.length).all fun i => (last.after.any fun e => e.on == i && Region.binds .any e) || (front.zipIdx.any fun x => decide (i < x.2) && x.1.after.any fun e => e.on == i && Region.binds .any e)) && (last.after.all fun e => decide (e.on < front.length)))

theorem upon_turn {P : Program} {o : Oper} {a : Act} {K : Act → World → Prop} {Q Q' : Exit → Act → World → Prop} (hp : ∀ c a w, Q' (.panic c) a w → Q (.panic c) a w) (ho : LetsOut Q' → LetsOut Q) {r : Result Next} (h : o.upon P a K Q' r) : o.upon P a K Q r := by
  cases r with
  | ok n w' =>
    cases n <;> simp only [Oper.upon] at h ⊢ <;>
      first
        | exact h
        | exact Calls.mono h (fun e w'' he => by cases e <;> first | exact he | exact hp _ _ _ he | exact ho he)
  | halt x w' => cases x <;> simp only [Oper.upon] at h ⊢ <;> first | exact hp _ _ _ h | exact h

section
variable {P : Program} {Q : Exit → Act → World → Prop} {front : List Oper} {last : Oper}

theorem lets_turn : LetsOut (lastPost P last (front ++ [last]).toArray Q) → LetsOut Q := fun ⟨a, w, h⟩ => ⟨a, w, h⟩

theorem ops_front {i : Nat} (h : i < front.length) : (front ++ [last]).toArray[i]? = front.toArray[i]? := by
  simp [List.getElem?_append_left h]
theorem ops_last : (front ++ [last]).toArray[front.length]? = some last := by simp

theorem wanted_front (hb : regionLastB front last = true) {i : Nat} {o : Oper} (ho : front.toArray[i]? = some o) (tmps : Array Value) :
    Region.wanted o (yielded (front ++ [last]).toArray tmps) = Region.wanted o (yielded front.toArray tmps) := by
  unfold regionLastB at hb
  rw [Bool.and_eq_true, List.all_eq_true] at hb
  have h1 := hb.1 (o, i) (by
    rw [List.mem_zipIdx_iff_getElem?]
    simpa using ho)
  rw [Bool.and_eq_true] at h1
  cases hg : o.guard with
  | none => simp [Region.wanted, hg]
  | some p =>
    obtain ⟨j, b⟩ := p
    have hj : j < front.length := by have := h1.2; rw [hg] at this; simpa using this
    have : yielded (front ++ [last]).toArray tmps j = yielded front.toArray tmps j := by unfold yielded; rw [ops_front hj]
    simp [Region.wanted, hg, this]

theorem wpOp_turn (hb : regionLastB front last = true) {i : Nat} (hi : i < front.length) {K : Act → World → Prop} {a : Act} {w : World}
    (h : wpOp P front.toArray (lastPost P last (front ++ [last]).toArray Q) i K a w) : wpOp P (front ++ [last]).toArray Q i K a w := by
  unfold wpOp at h ⊢
  rw [ops_front hi]
  have ho : front.toArray[i]? = some front[i] := by simp [hi]
  rw [ho] at h ⊢
  simp only at h ⊢
  rw [wanted_front hb ho]
  split
  · rename_i hw
    rw [if_pos hw] at h
    exact h.imp (fun h => upon_turn (fun _ _ _ h => h) lets_turn h) (fun h => ⟨h.1, lets_turn h.2⟩)
  · rename_i hw
    rw [if_neg hw] at h
    exact h

theorem mem_ready {ops : Array Oper} {l : Array Bool} {i : Nat} : i ∈ Region.ready .any ops l ↔ i < ops.size ∧ l.getD i true = false ∧ ∃ o, ops[i]? = some o ∧ ∀ e ∈ o.after, Region.binds .any e = true → l.getD e.on false = true := by
  unfold Region.ready
  rw [List.mem_filter, List.mem_range]
  constructor
  · rintro ⟨h1, h2⟩
    rw [Bool.and_eq_true] at h2
    obtain ⟨h2, h3⟩ := h2
    cases ho : ops[i]? with
    | none => simp [ho] at h3
    | some o =>
      rw [ho] at h3
      refine ⟨h1, by simpa using h2, o, rfl, fun e he hb => ?_⟩
      have h4 : o.after.all (fun e => !Region.binds .any e || l.getD e.on false) = true := by simpa using h3
      rw [Array.all_eq_true'] at h4
      have := h4 e he
      simpa [hb] using this
  · rintro ⟨h1, h2, o, ho, h3⟩
    refine ⟨h1, ?_⟩
    rw [Bool.and_eq_true, ho]
    refine ⟨by simp [h2], ?_⟩
    show o.after.all (fun e => !Region.binds .any e || l.getD e.on false) = true
    rw [Array.all_eq_true']
    intro e he
    cases hb : Region.binds .any e
    · rfl
    · simpa using h3 e he hb
theorem getD_push {l : Array Bool} {n : Nat} (hl : l.size = n) (i : Nat) (d : Bool) (h : i ≠ n ∨ d = false) : (l.push false).getD i d = l.getD i d := by
  subst hl
  simp only [Array.getD_eq_getD_getElem?, Array.getElem?_push]
  split
  · rename_i e
    subst e
    rcases h with h | h
    · exact absurd rfl h
    · simp [h]
  · rfl
theorem set_push {l : Array Bool} {n i : Nat} (hl : l.size = n) (hi : i < n) : (l.push false).setIfInBounds i true = (l.setIfInBounds i true).push false := by
  subst hl
  apply Array.ext_getElem?
  intro k
  simp only [Array.getElem?_setIfInBounds, Array.getElem?_push, Array.size_push, Array.size_setIfInBounds]
  by_cases h1 : i = k
  · subst h1
    rw [if_pos rfl, if_pos (by omega), if_neg (by omega), if_pos rfl, if_pos hi]
  · rw [if_neg h1]
    by_cases h2 : k = l.size
    · rw [if_pos h2, if_pos h2]
    · rw [if_neg h2, if_neg h2, if_neg h1]

/-- An operation of the front is ready in the whole just where it is in the front. -/
theorem ready_front {l : Array Bool} (hl : l.size = front.length) {i : Nat} (hi : i < front.length) : i ∈ Region.ready .any (front ++ [last]).toArray (l.push false) ↔ i ∈ Region.ready .any front.toArray l := by
  rw [mem_ready, mem_ready, ops_front hi, getD_push hl i true (.inl (by omega))]
  constructor
  · rintro ⟨_, h2, o, ho, h3⟩
    exact ⟨by simpa using hi, h2, o, ho, fun e he hb => by have := h3 e he hb; rwa [getD_push hl _ false (.inr rfl)] at this⟩
  · rintro ⟨_, h2, o, ho, h3⟩
    exact ⟨by simp; omega, h2, o, ho, fun e he hb => by rw [getD_push hl _ false (.inr rfl)]; exact h3 e he hb⟩
theorem all_listed (hb : regionLastB front last = true) {l : Array Bool} (hl : l.size = front.length) (hr : Region.ready .any front.toArray l = []) : ∀ i, i < front.length → l.getD i false = true := by
  intro i
  induction i using Nat.strongRecOn with
  | _ i ih =>
    intro hi
    have hn : i ∉ Region.ready .any front.toArray l := by rw [hr]; simp
    rw [mem_ready] at hn
    have hli : l.getD i true = l.getD i false := by simp [hl, hi]
    rw [← hli]
    cases h : l.getD i true with
    | true => rfl
    | false =>
      exfalso
      apply hn
      have ho : front.toArray[i]? = some front[i] := by simp [hi]
      refine ⟨by simpa using hi, h, front[i], ho, fun e he _ => ?_⟩
      unfold regionLastB at hb
      rw [Bool.and_eq_true, List.all_eq_true] at hb
      have h1 := hb.1 (front[i], i) (by rw [List.mem_zipIdx_iff_getElem?]; simpa using ho)
      rw [Bool.and_eq_true, Array.all_eq_true'] at h1
      have h2 : e.on < i := by simpa using h1.1 e he
      exact ih e.on h2 (by omega)
/-- What is listed has all listed that it waits for. -/
def ClosedL (front : List Oper) (l : Array Bool) : Prop := ∀ (j : Nat) (o : Oper), front[j]? = some o → l.getD j false = true → ∀ e ∈ o.after, Region.binds .any e = true → l.getD e.on false = true
theorem ClosedL.start (front : List Oper) (n : Nat) : ClosedL front (Array.replicate n false) := by
  intro j o _ h
  simp only [Array.getD_eq_getD_getElem?, Array.getElem?_replicate] at h
  split at h <;> simp at h
theorem getD_set_true {l : Array Bool} (i j : Nat) (h : l.getD j false = true) : (l.setIfInBounds i true).getD j false = true := by
  simp only [Array.getD_eq_getD_getElem?, Array.getElem?_setIfInBounds] at h ⊢
  by_cases e : i = j
  · subst e
    rw [if_pos rfl]
    split
    · rfl
    · rename_i hn
      rw [Array.getElem?_eq_none (by omega)] at h
      exact h
  · rw [if_neg e]; exact h
theorem ClosedL.set {l : Array Bool} (h : ClosedL front l) {i : Nat} (hi : i ∈ Region.ready .any front.toArray l) : ClosedL front (l.setIfInBounds i true) := by
  intro j o ho hj e he hb
  by_cases hij : i = j
  · subst hij
    obtain ⟨_, _, o', ho', h3⟩ := mem_ready.1 hi
    have : o' = o := by
      rw [List.getElem?_toArray, ho] at ho'
      exact (Option.some.inj ho').symm
    subst this
    exact getD_set_true _ _ (h3 e he hb)
  · refine getD_set_true _ _ (h j o ho ?_ e he hb)
    simp only [Array.getD_eq_getD_getElem?, Array.getElem?_setIfInBounds] at hj ⊢
    rwa [if_neg hij] at hj
theorem ready_last (hb : regionLastB front last = true) {l : Array Bool} (hl : l.size = front.length) (hc : ClosedL front l) (h : front.length ∈ Region.ready .any (front ++ [last]).toArray (l.push false)) : ∀ i, i < front.length → l.getD i false = true := by
  rw [mem_ready] at h
  obtain ⟨_, _, o, ho, h3⟩ := h
  rw [ops_last] at ho
  obtain rfl := Option.some.inj ho
  unfold regionLastB at hb
  rw [Bool.and_eq_true, Bool.and_eq_true, List.all_eq_true (l := List.range _)] at hb
  have key : ∀ k i, front.length - i = k → i < front.length → l.getD i false = true := by
    intro k
    induction k using Nat.strongRecOn with
    | _ k ih =>
      intro i hk hi
      have h1 := hb.2.1 i (by simpa using hi)
      rw [Bool.or_eq_true] at h1
      rcases h1 with h1 | h1
      · rw [Array.any_eq_true'] at h1
        obtain ⟨e, he, h2⟩ := h1
        rw [Bool.and_eq_true] at h2
        have h4 : e.on = i := by simpa using h2.1
        have := h3 e he h2.2
        rwa [h4, getD_push hl _ false (.inr rfl)] at this
      · rw [List.any_eq_true] at h1
        obtain ⟨⟨o, j⟩, hx, h2⟩ := h1
        rw [Bool.and_eq_true, Array.any_eq_true'] at h2
        obtain ⟨h5, e, he, h6⟩ := h2
        rw [Bool.and_eq_true] at h6
        have h4 : e.on = i := by simpa using h6.1
        have h7 : i < j := by simpa using h5
        rw [List.mem_zipIdx_iff_getElem?] at hx
        have hx : front[j]? = some o := hx
        have hj : j < front.length := (List.getElem?_eq_some_iff.1 hx).1
        have h8 := ih (front.length - j) (by omega) j rfl hj
        have := hc j o hx h8 e he h6.2
        rwa [h4] at this
  exact fun i hi => key _ i rfl hi
theorem last_ready (hb : regionLastB front last = true) {l : Array Bool} (hl : l.size = front.length) (h : ∀ i, i < front.length → l.getD i false = true) : front.length ∈ Region.ready .any (front ++ [last]).toArray (l.push false) := by
  rw [mem_ready]
  refine ⟨by simp, by simp [← hl], last, ops_last, fun e he _ => ?_⟩
  unfold regionLastB at hb
  rw [Bool.and_eq_true, Bool.and_eq_true, Array.all_eq_true'] at hb
  have := of_decide_eq_true (hb.2.2 e he)
  rw [getD_push hl _ false (.inr rfl)]
  exact h _ this
theorem none_ready {l : Array Bool} (hl : l.size = front.length + 1) (h : ∀ i, i < front.length + 1 → l.getD i true = true) : Region.ready .any (front ++ [last]).toArray l = [] := by
  apply List.eq_nil_iff_forall_not_mem.2
  intro i hi
  rw [mem_ready] at hi
  have := h i (by simpa using hi.1)
  rw [hi.2.1] at this
  cases this
theorem wpOp_last (hb : regionLastB front last = true) {l : Array Bool} (hl : l.size = front.length) (h : ∀ i, i < front.length → l.getD i false = true) (fuel : Nat) {a : Act} {w : World}
    (hp : lastPost P last (front ++ [last]).toArray Q .normal a w) : wpOp P (front ++ [last]).toArray Q front.length (wpAny P .any (front ++ [last]).toArray Q fuel ((l.push false).setIfInBounds front.length true)) a w := by
  have hnil : Region.ready .any (front ++ [last]).toArray ((l.push false).setIfInBounds front.length true) = [] := by
    apply none_ready (by simp [hl])
    intro i hi
    by_cases e : i = front.length
    · subst e; simp [hl]
    · have := h i (by omega)
      simp only [Array.getD_eq_getD_getElem?, Array.getElem?_setIfInBounds, Array.getElem?_push, hl] at this ⊢
      rw [if_neg (by omega), if_neg (by omega)]
      cases hx : l[i]? with
      | none => rfl
      | some b => rw [hx] at this; simpa using this
  have hK : ∀ a w, Q .normal a w → wpAny P .any (front ++ [last]).toArray Q fuel ((l.push false).setIfInBounds front.length true) a w := by
    intro a w hq
    cases fuel with
    | zero => exact ⟨hnil, hq⟩
    | succ n => exact ⟨fun _ => hq, by rw [hnil]; intro i hi; cases hi⟩
  unfold wpOp
  rw [ops_last]
  unfold lastPost at hp
  simp only at hp ⊢
  split
  · rename_i hw
    rw [if_pos hw] at hp
    exact hp.imp (Oper.wp_mono hK) id
  · rename_i hw
    rw [if_neg hw] at hp
    exact hK _ _ hp
theorem wpAny_last (hb : regionLastB front last = true) : ∀ (fuel : Nat) (l : Array Bool) (a : Act) (w : World), l.size = front.length → ClosedL front l →
    wpAny P .any front.toArray (lastPost P last (front ++ [last]).toArray Q) fuel l a w → wpAny P .any (front ++ [last]).toArray Q (fuel + 1) (l.push false) a w := by
  have key : ∀ (fuel : Nat) (l : Array Bool) (a : Act) (w : World), l.size = front.length → ClosedL front l → (Region.ready .any front.toArray l = [] → lastPost P last (front ++ [last]).toArray Q .normal a w) →
      (∀ i, i < front.length → i ∈ Region.ready .any front.toArray l → wpOp P (front ++ [last]).toArray Q i (wpAny P .any (front ++ [last]).toArray Q fuel ((l.push false).setIfInBounds i true)) a w) →
      wpAny P .any (front ++ [last]).toArray Q (fuel + 1) (l.push false) a w := by
    intro fuel l a w hl hcl h1 h2
    constructor
    · intro hn
      exfalso
      by_cases hr : Region.ready .any front.toArray l = []
      · have := last_ready hb hl (all_listed hb hl hr)
        rw [hn] at this
        cases this
      · obtain ⟨i, hi⟩ := List.exists_mem_of_ne_nil _ hr
        have hlt : i < front.length := by have := (mem_ready.1 hi).1; simpa using this
        have := (ready_front (last := last) hl hlt).2 hi
        rw [hn] at this
        cases this
    · intro i hi
      have hlt := (mem_ready.1 hi).1
      rw [List.size_toArray, List.length_append, List.length_singleton] at hlt
      by_cases e : i = front.length
      · subst e
        have hall := ready_last hb hl hcl hi
        have hr : Region.ready .any front.toArray l = [] := by
          apply List.eq_nil_iff_forall_not_mem.2
          intro j hj
          have hj' := mem_ready.1 hj
          have h3 := hall j (by simpa using hj'.1)
          have h4 := hj'.2.1
          simp only [Array.getD_eq_getD_getElem?] at h3 h4
          cases hx : l[j]? with
          | none => rw [hx] at h4; cases h4
          | some b => rw [hx] at h3 h4; simp at h3 h4; rw [h3] at h4; cases h4
        exact wpOp_last hb hl hall fuel (h1 hr)
      · have hi' : i < front.length := by omega
        exact h2 i hi' ((ready_front hl hi').1 hi)
  intro fuel
  induction fuel with
  | zero =>
    intro l a w hl hcl h
    exact key 0 l a w hl hcl (fun _ => h.2) (fun i _ hi => by rw [h.1] at hi; cases hi)
  | succ fuel ih =>
    intro l a w hl hcl h
    refine key (fuel + 1) l a w hl hcl h.1 (fun i hlt hi => ?_)
    rw [set_push hl hlt]
    exact wpOp_mono (fun a w => ih _ a w (by simp [hl]) (hcl.set hi)) (wpOp_turn hb hlt (h.2 i hi))
end
/-- The region whose last operation waits for all others: the others first (drawn), then the last one. -/
theorem wp_region_last {P : Program} {Q : Exit → Act → World → Prop} {id : Nat} {ops : Array Oper} (front : List Oper) (last : Oper) (ho : ops = (front ++ [last]).toArray) (hb : regionLastB front last = true) {a : Act} {w : World} (hm : P.follows .mixedOrders = true)
    (h : wpAny P .any front.toArray (lastPost P last (front ++ [last]).toArray Q) front.length (Array.replicate front.length false) a { w with drawn := w.drawn + 1 }) : (Code.region id ops true).wp P Q a w := by
  subst ho
  refine wp_region_any hm ?_
  have := wpAny_last hb front.length (Array.replicate front.length false) a _ (by simp) (ClosedL.start _ _) h
  have e : (Array.replicate front.length false).push false = Array.replicate (front ++ [last]).toArray.size false := by
    apply Array.ext'
    simp [List.replicate_succ']
  rw [e] at this
  simpa using this
/-- A tail whose operations come one behind the other, each behind all others. -/
def tailOkB : List Oper → List Oper → Bool
  | _, [] => true
  | front, x :: t => regionLastB front x && x.guard.isNone && tailOkB (front ++ [x]) t
/-- What stands behind the front: the tail, then Q. -/
def tailPost (P : Program) (ops : Array Oper) (t : List Oper) (Q : Exit → Act → World → Prop) : Exit → Act → World → Prop
  | .normal, a, w => wpList P ops Q t a w
  | e, a, w => Q e a w
theorem tailPost_out {P : Program} {ops : Array Oper} {t : List Oper} {Q : Exit → Act → World → Prop} (h : LetsOut Q) : LetsOut (tailPost P ops t Q) := by
  obtain ⟨a, w, h⟩ := h
  exact ⟨a, w, h⟩
theorem tailPost_nil {P : Program} {ops : Array Oper} {Q : Exit → Act → World → Prop} : tailPost P ops [] Q = Q := by
  funext e a w
  cases e <;> rfl
theorem wpAny_post {P : Program} {md : Region.Mode} {ops : Array Oper} {Q Q' : Exit → Act → World → Prop} (hn : ∀ a w, Q .normal a w → Q' .normal a w) (hp : ∀ c a w, Q (.panic c) a w → Q' (.panic c) a w) (ho : LetsOut Q → LetsOut Q') :
    ∀ (fuel : Nat) (l : Array Bool) (a : Act) (w : World), wpAny P md ops Q fuel l a w → wpAny P md ops Q' fuel l a w
  | 0, _, _, _, h => ⟨h.1, hn _ _ h.2⟩
  | fuel + 1, l, a, w, h => ⟨fun e => hn _ _ (h.1 e), fun i hi => by
      have h2 := wpOp_mono (fun a w => wpAny_post hn hp ho fuel _ a w) (h.2 i hi)
      unfold wpOp at h2 ⊢
      split
      · rename_i e; simpa only [e] using h2
      · rename_i o e
        simp only [e] at h2
        split
        · rename_i hw
          rw [if_pos hw] at h2
          exact h2.imp (fun h => upon_turn hp ho h) (fun h => ⟨h.1, ho h.2⟩)
        · rename_i hw
          rw [if_neg hw] at h2
          exact h2⟩
theorem wpAny_tail {P : Program} {ops : Array Oper} {Q : Exit → Act → World → Prop} : ∀ (t front : List Oper), tailOkB front t = true → ∀ (fuel : Nat) (l : Array Bool) (a : Act) (w : World), l.size = front.length → ClosedL front l →
    wpAny P .any front.toArray (tailPost P ops t Q) fuel l a w → ∃ l' : Array Bool, l' = l ++ Array.replicate t.length false ∧ wpAny P .any (front ++ t).toArray Q (fuel + t.length) l' a w
  | [], front, _, fuel, l, a, w, _, _, h => ⟨l, by simp, by rw [tailPost_nil] at h; simpa using h⟩
  | x :: t, front, hb, fuel, l, a, w, hl, hc, h => by
    simp only [tailOkB, Bool.and_eq_true, Option.isNone_iff_eq_none] at hb
    obtain ⟨⟨hb1, hg⟩, hb2⟩ := hb
    have h1 : wpAny P .any front.toArray (lastPost P x (front ++ [x]).toArray (tailPost P ops t Q)) fuel l a w := by
      refine wpAny_post (Q := tailPost P ops (x :: t) Q) (Q' := lastPost P x (front ++ [x]).toArray (tailPost P ops t Q)) ?_ (fun _ _ _ h => h) (fun h => ?_) fuel l a w h
      case refine_2 => obtain ⟨a, w, h⟩ := h; exact ⟨a, w, h⟩
      intro a w h
      have hw : ∀ ops : Array Oper, Region.wanted x (yielded ops a.tmps) = true := fun ops => by simp [Region.wanted, hg]
      have h : wpList P ops Q (x :: t) a w := h
      unfold wpList at h
      rw [if_pos (hw ops)] at h
      show (if _ then _ else _)
      rw [if_pos (hw _)]
      exact h.imp (fun h => upon_turn (Q := tailPost P ops t Q) (Q' := Q) (fun _ _ _ h => h) tailPost_out h) (fun h => ⟨h.1, tailPost_out h.2⟩)
    have h2 := wpAny_last hb1 fuel l a w hl hc h1
    have hc2 : ClosedL (front ++ [x]) (l.push false) := by
      intro j o ho hj e he hbe
      rcases Nat.lt_or_ge j front.length with hj' | hj'
      · rw [List.getElem?_append_left hj'] at ho
        rw [getD_push hl _ false (.inr rfl)] at hj ⊢
        exact hc j o ho hj e he hbe
      · rw [getD_push hl _ false (.inr rfl)] at hj
        simp only [Array.getD_eq_getD_getElem?] at hj
        rw [Array.getElem?_eq_none (by omega)] at hj
        cases hj
    obtain ⟨l', hl', h3⟩ := wpAny_tail t (front ++ [x]) hb2 (fuel + 1) (l.push false) a w (by simp [hl]) hc2 h2
    refine ⟨l', ?_, ?_⟩
    · rw [hl']
      apply Array.ext'
      simp [List.replicate_succ]
    · rw [List.append_assoc, List.singleton_append] at h3
      rw [List.length_cons, show fuel + (t.length + 1) = fuel + 1 + t.length by omega]
      exact h3
/-- All but the tail only read or call quietly in a class of worlds: one walk in the order of the text; then the tail, in its order. -/
theorem wp_region_quiet_tail {P : Program} {Q : Exit → Act → World → Prop} {id : Nat} {l : List Oper} (C : World → Prop) (n : Nat) (hm : P.follows .mixedOrders = true)
    (hB : Region.lexB .any (l.take n).toArray = true) (hb : tailOkB (l.take n) (l.drop n) = true) {a : Act} {w : World} (hC : C w.drew)
    (h : wpQuiet P (l.take n).toArray C (fun a' => ∀ w', C w' → wpList P l.toArray Q (l.drop n) a' w') (l.take n) a) : (Code.region id l.toArray true).wp P Q a w := by
  refine wp_region_any hm ?_
  simp only [Region.lexB, Bool.and_eq_true] at hB
  have H := wpAny_of_quiet (P := P) (md := .any) (ops := (l.take n).toArray) (C := C) (Q := fun a' => ∀ w', C w' → wpList P l.toArray Q (l.drop n) a' w')
    (Q' := tailPost P l.toArray (l.drop n) Q) (fun a w hw h => h w hw)
  have h0 := wpAnyQ_lex (P := P) (C := C) (md := .any) hB.1 (l.take n) 0 (Array.replicate (l.take n).toArray.size false) a (by simp) (by simpa using hB.2) h
  have h1 := H _ _ _ _ hC h0
  obtain ⟨l', e, h2⟩ := wpAny_tail (l.drop n) (l.take n) hb _ _ a w.drew (by simp) (ClosedL.start _ _) h1
  have e2 : l' = Array.replicate l.toArray.size false := by
    rw [e]
    apply Array.ext'
    simp only [Array.toList_append, Array.toList_replicate, List.replicate_append_replicate]
    congr 1
    simp only [List.size_toArray, List.length_take, List.length_drop]
    omega
  rw [e2, List.take_append_drop, ← List.length_append, List.take_append_drop] at h2
  exact h2
/-- .. at the class 'w after some draws'. -/
theorem wp_region_draw_tail {P : Program} {Q : Exit → Act → World → Prop} {id : Nat} {l : List Oper} (n : Nat) (hm : P.follows .mixedOrders = true)
    (hB : Region.lexB .any (l.take n).toArray = true) (hb : tailOkB (l.take n) (l.drop n) = true) {a : Act} {w : World}
    (h : wpQuiet P (l.take n).toArray (fun w' => ∃ n, w' = w.drewN n) (fun a' => ∀ w', (∃ n, w' = w.drewN n) → wpList P l.toArray Q (l.drop n) a' w') (l.take n) a) : (Code.region id l.toArray true).wp P Q a w :=
  wp_region_quiet_tail _ n hm hB hb ⟨1, rfl⟩ h
/-- All but the last operation only read or call quietly in a class of worlds: one walk in the order of the text; then the last one. -/
theorem wp_region_quiet_last {P : Program} {Q : Exit → Act → World → Prop} {id : Nat} {l : List Oper} (C : World → Prop) (n : Nat) (last : Oper) (hl : l = l.take n ++ [last]) (hm : P.follows .mixedOrders = true)
    (hB : Region.lexB .any (l.take n).toArray = true) (hb : regionLastB (l.take n) last = true) {a : Act} {w : World} (hC : C w.drew)
    (h : wpQuiet P (l.take n).toArray C (fun a' => ∀ w', C w' → wpList P l.toArray Q [last] a' w') (l.take n) a) : (Code.region id l.toArray true).wp P Q a w := by
  refine wp_region_last (l.take n) last (by rw [← hl]) hb hm ?_
  simp only [Region.lexB, Bool.and_eq_true] at hB
  have hpost : ∀ a w, wpList P l.toArray Q [last] a w → lastPost P last (l.take n ++ [last]).toArray Q .normal a w := by
    intro a w h
    rw [← hl]
    exact h
  have H := wpAny_of_quiet (P := P) (md := .any) (ops := (l.take n).toArray) (C := C) (Q := fun a' => ∀ w', C w' → wpList P l.toArray Q [last] a' w')
    (Q' := lastPost P last (l.take n ++ [last]).toArray Q) (fun a w hw h => hpost a w (h w hw))
  refine H _ _ _ _ hC ?_
  have := wpAnyQ_lex (P := P) (C := C) (md := .any) hB.1 (l.take n) 0 (Array.replicate (l.take n).toArray.size false) a (by simp) (by simpa using hB.2) h
  simpa using this
/-- .. at the class 'w after some draws'. -/
theorem wp_region_draw_last {P : Program} {Q : Exit → Act → World → Prop} {id : Nat} {l : List Oper} (n : Nat) (last : Oper) (hl : l = l.take n ++ [last]) (hm : P.follows .mixedOrders = true)
    (hB : Region.lexB .any (l.take n).toArray = true) (hb : regionLastB (l.take n) last = true) {a : Act} {w : World}
    (h : wpQuiet P (l.take n).toArray (fun w' => ∃ n, w' = w.drewN n) (fun a' => ∀ w', (∃ n, w' = w.drewN n) → wpList P l.toArray Q [last] a' w') (l.take n) a) : (Code.region id l.toArray true).wp P Q a w :=
  wp_region_quiet_last _ n last hl hm hB hb ⟨1, rfl⟩ h
end
end Go.Proofs.Ytpdkmapogncgmaa

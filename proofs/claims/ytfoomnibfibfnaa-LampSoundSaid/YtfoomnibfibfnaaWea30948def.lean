/- Walks and plain laws, put together in build order. Conditions: what each of them names. -/
import Derived.Laws.Bits64b
import Derived.RegionTactic
import Derived.Deep.RegionHeldLaw
import Derived.Deep.RegionWith
import Derived.Deep.CutRange
import Derived.Deep.DeepCutAuto
import Derived.Test.YtfoomnibfibfnaaWbcf6a5f97e
set_option linter.unusedVariables false
set_option linter.unusedSimpArgs false
set_option linter.unnecessarySimpa false
namespace Go.Proofs.Ytfoomnibfibfnaa
section
open Go

theorem bits_u32 (a b : Nat) (ha : a < 4294967296) (hb : b < 4294967296) :
    bits .and .u32 (a : Int) (b : Int) = ((a &&& b : Nat) : Int) ∧ bits .or .u32 (a : Int) (b : Int) = ((a ||| b : Nat) : Int) ∧ bits .xor .u32 (a : Int) (b : Int) = ((a ^^^ b : Nat) : Int) := by
  have hx : a &&& b < 2 ^ 32 := Nat.and_lt_two_pow _ (by omega)
  have hy : a ||| b < 2 ^ 32 := Nat.or_lt_two_pow (by omega) (by omega)
  have hz : a ^^^ b < 2 ^ 32 := Nat.xor_lt_two_pow (by omega) (by omega)
  have hw : ∀ n : Nat, n < 2 ^ 32 → IntKind.u32.wrap (n : Int) = n := fun n h => by
    simp [IntKind.wrap, IntKind.bits, IntKind.signed]; omega
  have h1 : (BitVec.ofInt 32 (a : Int)).toNat = a := by
    rw [BitVec.ofInt_natCast, BitVec.toNat_ofNat]; exact Nat.mod_eq_of_lt (by omega)
  have h2 : (BitVec.ofInt 32 (b : Int)).toNat = b := by
    rw [BitVec.ofInt_natCast, BitVec.toNat_ofNat]; exact Nat.mod_eq_of_lt (by omega)
  refine ⟨?_, ?_, ?_⟩
  · show IntKind.u32.wrap ((BitVec.ofInt 32 (a : Int) &&& BitVec.ofInt 32 (b : Int)).toNat : Int) = _
    rw [BitVec.toNat_and, h1, h2, hw _ hx]
  · show IntKind.u32.wrap ((BitVec.ofInt 32 (a : Int) ||| BitVec.ofInt 32 (b : Int)).toNat : Int) = _
    rw [BitVec.toNat_or, h1, h2, hw _ hy]
  · show IntKind.u32.wrap ((BitVec.ofInt 32 (a : Int) ^^^ BitVec.ofInt 32 (b : Int)).toNat : Int) = _
    rw [BitVec.toNat_xor, h1, h2, hw _ hz]
theorem and_lt32 {a b : Nat} (h : b < 4294967296) : a &&& b < 4294967296 := Nat.and_lt_two_pow (n := 32) _ h
theorem or_lt32 {a b : Nat} (h : a < 4294967296) (k : b < 4294967296) : a ||| b < 4294967296 := Nat.or_lt_two_pow (n := 32) h k
theorem xor_lt32 {a b : Nat} (h : a < 4294967296) (k : b < 4294967296) : a ^^^ b < 4294967296 := Nat.xor_lt_two_pow (n := 32) h k
theorem pow_split {c : Nat} (h : c ≤ 32) : 2 ^ c * 2 ^ (32 - c) = 4294967296 := by rw [← Nat.pow_add, show c + (32 - c) = 32 by omega]
theorem div_lt32 {x c : Nat} (hx : x < 4294967296) (hc : c ≤ 32) : x / 2 ^ c < 2 ^ (32 - c) := by
  rw [Nat.div_lt_iff_lt_mul (Nat.two_pow_pos c), Nat.mul_comm, pow_split hc]; exact hx
theorem rotr_lt {x c : Nat} (hx : x < 4294967296) (hc : c ≤ 32) : rotr x c < 4294967296 := by
  have h1 := div_lt32 hx hc
  have h2 : x % 2 ^ c + 1 ≤ 2 ^ c := Nat.mod_lt _ (Nat.two_pow_pos c)
  have h3 := Nat.mul_le_mul_right (2 ^ (32 - c)) h2
  rw [pow_split hc, Nat.add_mul] at h3
  unfold rotr
  omega
theorem rotr_or (x c : Nat) (hx : x < 4294967296) (hc : c ≤ 32) : (x * 2 ^ (32 - c)) % 4294967296 ||| x / 2 ^ c = rotr x c := by
  have e : (x * 2 ^ (32 - c)) % 4294967296 = x % 2 ^ c * 2 ^ (32 - c) := by rw [← pow_split hc, Nat.mul_mod_mul_right]
  have h1 := div_lt32 hx hc
  have := Nat.shiftLeft_add_eq_or_of_lt h1 (x % 2 ^ c)
  rw [e, ← Nat.shiftLeft_eq, ← this, Nat.shiftLeft_eq, rotr, Nat.add_comm]
theorem rot_bits (x c : Nat) (hx : x < 4294967296) (hc : c ≤ 32) : bits .or .u32 ((x : Int) * 2 ^ (32 - c) % 4294967296) ((x : Int) / 2 ^ c) = ((rotr x c : Nat) : Int) := by
  have e1 : (x : Int) * 2 ^ (32 - c) % 4294967296 = ((x * 2 ^ (32 - c) % 4294967296 : Nat) : Int) := by rw [Int.natCast_emod, Int.natCast_mul, Int.natCast_pow]; rfl
  have e2 : (x : Int) / 2 ^ c = ((x / 2 ^ c : Nat) : Int) := by rw [Int.natCast_ediv, Int.natCast_pow]; rfl
  have h2 : x / 2 ^ c < 4294967296 := Nat.lt_of_le_of_lt (Nat.div_le_self _ _) hx
  rw [e1, e2, (bits_u32 _ _ (Nat.mod_lt _ (by decide)) h2).2.1, rotr_or x c hx hc]
theorem threeM_lt {x a b c : Nat} {f : Bool} (hx : x < 4294967296) (ha : a ≤ 32) (hb : b ≤ 32) (hc : c ≤ 32) : threeM x a b c f < 4294967296 := by
  unfold threeM
  refine xor_lt32 (xor_lt32 (rotr_lt hx ha) (rotr_lt hx hb)) ?_
  cases f
  · exact rotr_lt hx hc
  · exact Nat.lt_of_le_of_lt (Nat.div_le_self _ _) hx
theorem pickM_lt {e f g : Nat} (hf : f < 4294967296) (hg : g < 4294967296) : pickM e f g < 4294967296 := xor_lt32 hg (and_lt32 (xor_lt32 hf hg))
theorem mostM_lt {a b c : Nat} (ha : a < 4294967296) (hb : b < 4294967296) : mostM a b c < 4294967296 := or_lt32 (and_lt32 hb) (and_lt32 (or_lt32 ha hb))

/-! ### The words of a block -/
theorem sched_length (b : List Nat) : ∀ n, (sched b n).length = b.length + n
  | 0 => rfl
  | n + 1 => by rw [sched, List.length_append, sched_length b n]; rfl
theorem sched_take (b : List Nat) (n m : Nat) : (sched b (n + m)).take (b.length + n) = sched b n := by
  induction m with
  | zero => rw [Nat.add_zero, ← sched_length b n, List.take_length]
  | succ m ih =>
    rw [← Nat.add_assoc, sched, List.take_append_of_le_length (by rw [sched_length]; omega), ih]
theorem getD_take {l : List Nat} {n i : Nat} (h : i < n) : (l.take n).getD i 0 = l.getD i 0 := by
  simp [List.getD, h]
theorem wordNext_take (l : List Nat) (n i : Nat) (h : i + 14 < n) : wordNext (l.take n) i = wordNext l i := by
  have h0 : (l.take n).getD i 0 = l.getD i 0 := getD_take (by omega)
  have h1 : (l.take n).getD (i + 1) 0 = l.getD (i + 1) 0 := getD_take (by omega)
  have h2 : (l.take n).getD (i + 9) 0 = l.getD (i + 9) 0 := getD_take (by omega)
  have h3 : (l.take n).getD (i + 14) 0 = l.getD (i + 14) 0 := getD_take (by omega)
  unfold wordNext
  rw [h0, h1, h2, h3]
theorem getD_snoc (W : List Nat) (m x : Nat) (hl : W.length = m) : (W ++ [x]).getD m 0 = x := by
  subst hl; simp [List.getD]
theorem sched_succ (b : List Nat) (n : Nat) : sched b (n + 1) = sched b n ++ [wordNext (sched b n) n] := rfl
theorem sched_next (b : List Nat) (hb : b.length = 16) (m n : Nat) (h : n < m) : (sched b m).getD (16 + n) 0 = wordNext (sched b m) n := by
  obtain ⟨k, rfl⟩ : ∃ k, m = n + 1 + k := ⟨m - (n + 1), by omega⟩
  have h1 := sched_take b (n + 1) k
  have h0 := sched_take b n (1 + k)
  rw [← Nat.add_assoc] at h0
  rw [hb] at h0 h1
  generalize sched b (n + 1 + k) = W at h0 h1 ⊢
  rw [← getD_take (n := 16 + (n + 1)) (by omega), h1, sched_succ b n, ← h0, wordNext_take _ _ _ (by omega)]
  have hl : (List.take (16 + n) W).length = 16 + n := by rw [h0, sched_length, hb]
  exact getD_snoc _ _ _ hl
theorem sched_head (b : List Nat) (n i : Nat) (h : i < b.length) : (sched b n).getD i 0 = b.getD i 0 := by
  have h1 := sched_take b 0 n
  rw [Nat.zero_add] at h1
  rw [← getD_take (n := b.length + 0) (by omega), h1]
  rfl
theorem wordNext_lt (w : List Nat) (i : Nat) : wordNext w i < 4294967296 := Nat.mod_lt _ (by decide)
theorem sched_lt (b : List Nat) (hb : ∀ x ∈ b, x < 4294967296) : ∀ n, ∀ x ∈ sched b n, x < 4294967296
  | 0 => hb
  | n + 1 => by
    intro x hx
    rw [sched, List.mem_append] at hx
    rcases hx with hx | hx
    · exact sched_lt b hb n x hx
    · rw [List.mem_singleton] at hx; subst hx; exact wordNext_lt _ _
theorem getD_lt {l : List Nat} (h : ∀ x ∈ l, x < 4294967296) (i : Nat) : l.getD i 0 < 4294967296 := by
  rw [List.getD]
  cases e : l[i]? with
  | none => decide
  | some x => exact h x (List.mem_of_getElem? e)
theorem words_length (b : List UInt8) (n : Nat) : (words b n).length = n := by simp [words]
theorem words_lt (b : List UInt8) (n : Nat) : ∀ x ∈ words b n, x < 4294967296 := by
  intro x hx
  obtain ⟨i, _, rfl⟩ := List.mem_map.1 hx
  exact Nat.lt_of_lt_of_le (beNum_lt _) (show 256 ^ ((b.drop (4 * i)).take 4).length ≤ 256 ^ 4 from Nat.pow_le_pow_right (by decide) (List.length_take_le _ _))
/-- The sixteen words that are known ahead of round i: each in the place of the latest of its remainder. -/
def nearIdx (i j : Nat) : Nat := if i < 16 then j else i - 1 - (i - 1 - j) % 16
def near (w : List Nat) (i : Nat) : List Nat := (List.range 16).map fun j => w.getD (nearIdx i j) 0
theorem near_length (w : List Nat) (i : Nat) : (near w i).length = 16 := by simp [near]
theorem near_get (w : List Nat) (i j : Nat) (h : j < 16) : (near w i)[j]? = some (w.getD (nearIdx i j) 0) := by simp [near, h]
theorem near_small (w : List Nat) (i : Nat) (h : i < 16) : near w (i + 1) = near w i := by
  unfold near
  apply List.map_congr_left
  intro j hj
  have : j < 16 := by simpa using hj
  have e : nearIdx (i + 1) j = nearIdx i j := by
    unfold nearIdx
    rw [if_pos h]
    split <;> omega
  rw [e]
theorem near_step (w : List Nat) (i : Nat) (h : 16 ≤ i) : (near w i).set (i % 16) (w.getD i 0) = near w (i + 1) := by
  apply List.ext_getElem?
  intro j
  rw [List.getElem?_set]
  rcases Nat.lt_or_ge j 16 with hj | hj
  · rw [near_get _ _ _ hj, near_get _ _ _ hj, near_length]
    by_cases e : i % 16 = j
    · have e2 : nearIdx (i + 1) j = i := by unfold nearIdx; split <;> omega
      rw [if_pos e, if_pos (by omega), e2]
    · have e2 : nearIdx (i + 1) j = nearIdx i j := by
        unfold nearIdx
        rw [if_neg (show ¬ i < 16 by omega)]
        split <;> omega
      rw [if_neg e, e2]
  · rw [if_neg (by omega), List.getElem?_eq_none (by rw [near_length]; exact hj), List.getElem?_eq_none (by rw [near_length]; exact hj)]
/-- What round i reads: the words 16, 15, 7, 2 ahead of it. -/
theorem near_reads (w : List Nat) (i : Nat) (h : 16 ≤ i) : (near w i)[i % 16]? = some (w.getD (i - 16) 0) ∧ (near w i)[(i + 1) % 16]? = some (w.getD (i - 16 + 1) 0) ∧
    (near w i)[(i + 9) % 16]? = some (w.getD (i - 16 + 9) 0) ∧ (near w i)[(i + 14) % 16]? = some (w.getD (i - 16 + 14) 0) := by
  refine ⟨?_, ?_, ?_, ?_⟩ <;>
  · rw [near_get _ _ _ (Nat.mod_lt _ (by decide))]
    congr 2
    unfold nearIdx
    split <;> omega
theorem near_at (w : List Nat) (i : Nat) (h : i < 16) : (near w i)[i % 16]? = some (w.getD i 0) := by
  rw [near_get _ _ _ (Nat.mod_lt _ (by decide))]
  congr 2
  unfold nearIdx
  split <;> omega
theorem near_now (w : List Nat) (i : Nat) (h : 16 ≤ i) : (near w (i + 1))[i % 16]? = some (w.getD i 0) := by
  rw [near_get _ _ _ (Nat.mod_lt _ (by decide))]
  congr 2
  unfold nearIdx
  split <;> omega
theorem near_zero_words (b : List UInt8) (n : Nat) : near (sched (words b 16) n) 0 = words b 16 := by
  apply List.ext_getElem?
  intro j
  rcases Nat.lt_or_ge j 16 with hj | hj
  · have hl := words_length b 16
    rw [near_get _ _ _ hj]
    have e : nearIdx 0 j = j := by unfold nearIdx; rw [if_pos (by decide)]
    rw [e, sched_head _ _ _ (by omega), List.getElem?_eq_getElem (by omega)]
    simp [List.getD, List.getElem?_eq_getElem (show j < (words b 16).length by omega)]
  · rw [List.getElem?_eq_none (by rw [near_length]; exact hj), List.getElem?_eq_none (by rw [words_length]; exact hj)]
theorem roundM_eq (a b c d e f g h k w : Nat) : roundM [a, b, c, d, e, f, g, h] k w = [(h + threeM e 6 11 25 false + pickM e f g + k + w + threeM a 2 13 22 false + mostM a b c) % 4294967296, a, b, c, (d + (h + threeM e 6 11 25 false + pickM e f g + k + w)) % 4294967296, e, f, g] := rfl
theorem list8 {s : List Nat} (h : s.length = 8) : ∃ a b c d e f g i, s = [a, b, c, d, e, f, g, i] := by
  match s, h with
  | [a, b, c, d, e, f, g, i], _ => exact ⟨a, b, c, d, e, f, g, i, rfl⟩
theorem roundM_ok {s : List Nat} (h : s.length = 8 ∧ ∀ x ∈ s, x < 4294967296) (k w : Nat) : (roundM s k w).length = 8 ∧ ∀ x ∈ roundM s k w, x < 4294967296 := by
  obtain ⟨a, b, c, d, e, f, g, i, rfl⟩ := list8 h.1
  have h2 := h.2
  simp only [List.mem_cons, List.not_mem_nil, or_false] at h2
  rw [roundM_eq]
  refine ⟨rfl, ?_⟩
  intro x hx
  simp only [List.mem_cons, List.not_mem_nil, or_false] at hx
  rcases hx with rfl | rfl | rfl | rfl | rfl | rfl | rfl | rfl
  · exact Nat.mod_lt _ (by decide)
  · exact h2 _ (by simp)
  · exact h2 _ (by simp)
  · exact h2 _ (by simp)
  · exact Nat.mod_lt _ (by decide)
  · exact h2 _ (by simp)
  · exact h2 _ (by simp)
  · exact h2 _ (by simp)
theorem rounds_ok {s : List Nat} (h : s.length = 8 ∧ ∀ x ∈ s, x < 4294967296) (w : List Nat) : ∀ n, (rounds s w n).length = 8 ∧ ∀ x ∈ rounds s w n, x < 4294967296
  | 0 => h
  | n + 1 => roundM_ok (rounds_ok h w n) _ _
theorem rounds_succ (s w : List Nat) (n : Nat) : rounds s w (n + 1) = roundM (rounds s w n) (stirK.getD n 0) (w.getD n 0) := rfl
theorem stirK_lt (i : Nat) : stirK.getD i 0 < 4294967296 := getD_lt (by decide) i
/-- The words of a block, without their number in sight. -/
theorem block_W (s : List Nat) (b : List UInt8) : ∃ W : List Nat, near W 0 = words b 16 ∧ (∀ x ∈ W, x < 4294967296) ∧ (∀ n, n < 48 → W.getD (16 + n) 0 = wordNext W n) ∧ (∀ n, n = 64 → List.zipWith (fun x y => (x + y) % 4294967296) s (rounds s W n) = block s b) :=
  ⟨sched (words b 16) 48, near_zero_words b 48, sched_lt _ (words_lt b 16) 48, fun n hn => sched_next _ (words_length b 16) 48 n hn, fun n hn => by subst hn; rfl⟩
end
section
open Go.RowKit
section
variable (w : World)

set_option maxHeartbeats 400000 in
theorem Rot (x c : Nat) (hx : x < 4294967296) (hc : 0 < c) (hc2 : c < 32) : Calls Try.prog 62 #[.int .u32 x, .int .i64 (-(c : Int))] w fun e w' => e = .returned (.int .u32 (rotr x c)) ∧ w = w' := by
  have hs : ∀ c : Nat, c < 32 → 0 < c → bits .and .u64 (IntKind.u64.wrap (-(c : Int))) 31 = ((32 - c : Nat) : Int) := by decide +kernel
  have hs := hs c hc2 hc
  have hr := rot_bits x c hx (by omega)
  have e32 : 32 - (32 - c) = c := by omega
  have HR := Lib.hid hr
  have HE := Lib.hid e32
  have hs1 : 0 < 32 - c := by omega
  have hs2 : 32 - c < 32 := by omega
  clear hr e32
  go_enter Try.func62, Try.ntmps62
  go_wp2
  go_ret
  refine ⟨?_, rfl⟩
  rw [← HR.out]
  simp [HE.out]

set_option maxHeartbeats 400000 in
theorem Three (x a b c : Nat) (f : Bool) (hx : x < 4294967296) (ha : 0 < a ∧ a < 32) (hb : 0 < b ∧ b < 32) (hc : 0 < c ∧ c < 32) :
    Calls Try.prog 61 #[.int .u32 x, .int .i64 a, .int .i64 b, .int .i64 c, .bool f] w fun e w' => e = .returned (.int .u32 (threeM x a b c f)) ∧ w = w' := by
  have h1 := rotr_lt hx (show a ≤ 32 by omega)
  have h2 := rotr_lt hx (show b ≤ 32 by omega)
  have h3 := rotr_lt hx (show c ≤ 32 by omega)
  have h4 : x / 2 ^ c < 4294967296 := Nat.lt_of_le_of_lt (Nat.div_le_self _ _) hx
  have x1 := (bits_u32 _ _ h1 h2).2.2
  have x2 := (bits_u32 _ _ (xor_lt32 h1 h2) h3).2.2
  have x3 := (bits_u32 _ _ (xor_lt32 h1 h2) h4).2.2
  rw [← x1] at x2 x3
  rw [show ((x / 2 ^ c : Nat) : Int) = (x : Int) / 2 ^ c by rw [Int.natCast_ediv, Int.natCast_pow]; rfl] at x3
  have X2 := Lib.hid x2
  have X3 := Lib.hid x3
  clear x1 x2 x3
  cases f
  all_goals
    go_enter Try.func61, Try.ntmps61
    go_wp2_with fail
    refine (Rot _ x c hx hc.1 hc.2).mono ?_
    rintro e w1 ⟨rfl, rfl⟩
    go_wp2_with fail
    refine (Rot _ x a hx ha.1 ha.2).mono ?_
    rintro e w1 ⟨rfl, rfl⟩
    go_wp2_with fail
    refine (Rot _ x b hx hb.1 hb.2).mono ?_
    rintro e w1 ⟨rfl, rfl⟩
    go_wp2
    go_ret
  · exact ⟨by show Ending.returned (.int .u32 (bits .xor .u32 (bits .xor .u32 _ _) _)) = _; rw [X2.out]; rfl, rfl⟩
  · exact ⟨by show Ending.returned (.int .u32 (bits .xor .u32 (bits .xor .u32 _ _) _)) = _; rw [X3.out]; rfl, rfl⟩

theorem be4_cells (n : Nat) (hn : n < 4294967296) : bv (be 4 n) = [.int .u8 ((n : Int) / 16777216), .int .u8 ((n : Int) / 65536 % 256), .int .u8 ((n : Int) / 256 % 256), .int .u8 ((n : Int) % 256)] := by
  have e : ∀ m : Nat, ((UInt8.ofNat m).toNat : Int) = (m : Int) % 256 := fun m => by rw [UInt8.toNat_ofNat']; omega
  simp only [be, bv, List.map_cons, List.map_nil, e]
  have h3 : ((n / 256 ^ 3 : Nat) : Int) % 256 = (n : Int) / 16777216 := by omega
  have h2 : ((n / 256 ^ 2 : Nat) : Int) % 256 = (n : Int) / 65536 % 256 := by omega
  have h1 : ((n / 256 ^ 1 : Nat) : Int) % 256 = (n : Int) / 256 % 256 := by omega
  have h0 : ((n / 256 ^ 0 : Nat) : Int) % 256 = (n : Int) % 256 := by omega
  rw [h3, h2, h1, h0]
set_option maxHeartbeats 400000 in
theorem Four (n : Nat) (hn : n < 4294967296) : Calls Try.prog 53 #[.int .u32 n] w fun e w' => e = .returned (.slice (some ⟨w.heap.size, 0, none⟩) 4 4) ∧ w' = w.alloc (.cells (bv (be 4 n)).toArray 5) := by
  go_enter Try.func53, Try.ntmps53
  go_wp2
  go_ret
  exact ⟨rfl, by rw [be4_cells n hn]⟩

theorem be_or32 (n : Nat) (b : UInt8) (hn : n < 16777216) : bits .or .u32 ((n : Int) * 256) (b.toNat : Int) = ((n * 256 + b.toNat : Nat) : Int) := by
  have h := b.toNat_lt
  have := Nat.shiftLeft_add_eq_or_of_lt (i := 8) (b := b.toNat) h n
  rw [Nat.shiftLeft_eq] at this
  rw [show (n : Int) * 256 = ((n * 256 : Nat) : Int) from (Int.natCast_mul n 256).symm, (bits_u32 _ _ (by omega) (by omega)).2.1, ← this]
set_option maxHeartbeats 400000 in
theorem Word (ad : Addr) (l c : Nat) (bs : List UInt8) (hb : bs.length = 4) (hl : 4 ≤ l) (hlc : l ≤ c) (hc : c ≤ maxLen) (hcells : Cells w ad (bv bs)) :
    Calls Try.prog 59 #[.slice (some ad) l c] w fun e w' => e = .returned (.int .u32 (beNum bs)) ∧ w = w' := by
  unfold maxLen at hc
  go_enter Try.func59, Try.ntmps59
  go_wp2
  go_loopw [3, 9] (fun m i wr => wr = w ∧ ∃ k : Nat, k ≤ 4 ∧ i = .int .i64 k ∧ m = .int .u32 ((beNum (bs.take k) : Nat) : Int)) (fun _ i _ => 4 - (intOf i).toNat)
  case atStart => exact ⟨rfl, 0, by omega, rfl, rfl⟩
  case round =>
    obtain ⟨rfl, k, hk, rfl, rfl⟩ := hrel
    by_cases hlt : k < 4
    · have hcx := hcells k (.int .u8 (bs[k].toNat : Int)) (by rw [bv, List.getElem?_map, List.getElem?_eq_getElem (by omega)]; rfl)
      have hst := beNum_step bs k (by omega)
      have hbd := beNum_lt (bs.take k)
      have hlow : beNum (bs.take k) < 256 ^ 3 := Nat.lt_of_lt_of_le hbd (Nat.pow_le_pow_right (by omega) (by simp; omega))
      have hor := be_or32 (beNum (bs.take k)) bs[k] (by omega)
      rw [← hst] at hor
      have hb1 := bs[k].toNat_lt
      have HST := Lib.hid hst
      have HOR := Lib.hid hor
      clear hbd hst hor
      go_wp2
      go_roundw
      case rel => exact ⟨trivial, k + 1, by omega, by go_num, by rw [HOR.out]⟩
      case measure => simp [intOf]; omega
    · obtain rfl : k = 4 := by omega
      have e : bs.take 4 = bs := by rw [← hb, List.take_length]
      rw [e]
      clear e
      go_wp2
      go_ret
      exact ⟨rfl, rfl⟩

theorem stir_info : (Try.prog.info? 114).map (·.size) = some 64 := by kernel_rfl
/-- Words as cells. -/
def nv (ns : List Nat) : List Value := ns.map fun (n : Nat) => Value.int .u32 (n : Int)
@[simp] theorem nv_length (ns : List Nat) : (nv ns).length = ns.length := by simp [nv]
theorem stir_zero : (Try.prog.info? 114).bind (fun i => i.zero.map (·.cells)) = some (nv (List.replicate 64 0)).toArray := by kernel_rfl
theorem nv_one (ns : List Nat) : ∀ u ∈ nv ns, u.oneCell' = true := by
  intro u hu
  obtain ⟨n, _, rfl⟩ := List.mem_map.1 hu
  rfl
set_option maxRecDepth 10000 in
theorem Stirs : Calls Try.prog 60 #[] w fun e w' => e = .returned (.agg (nv stirK).toArray) ∧ Ext w w' := by
  have hz := stir_zero
  have hl : (nv stirK).length = 64 := by rw [nv_length]; rfl
  have hi : (Try.prog.info? 114).map (·.size) = some (nv stirK).length := by rw [hl]; kernel_rfl
  have hlz : (nv stirK).length = (nv (List.replicate 64 0)).length := by rw [hl, nv_length, List.length_replicate]
  have hone := nv_one stirK
  generalize nv (List.replicate 64 0) = Z at hz hlz
  go_enter Try.func60, Try.ntmps60
  go_wp2_with (first
    | (refine wpList_alloc _ rfl 114 rfl _ hz ?_)
    | (refine wpList_build (.inl rfl) 114 _ rfl (.agg (nv stirK).toArray) (by kernel_rfl) ?_)
    | (refine wpList_store_new _ rfl 114 (.tmp 0) (.tmp 1) rfl rfl Z (nv stirK) _ rfl hi hlz hone ?_)
    | fail)
  have hc : Cells (w.alloc (.cells (nv stirK).toArray 114)) ⟨w.heap.size, 0, none⟩ (nv stirK) := by have := Cells.of_block (heap_alloc_new w (.cells (nv stirK).toArray 114)); simpa using this
  (try simp only [Exit.inBlock, Exit.then])
  refine bodyPost_ret (results_agg rfl _ _ _ _ _ rfl Try.underlying114 rfl hi hc) rfl ?_
  exact ⟨rfl, (Ext.refl w).alloc _⟩
set_option maxHeartbeats 1000000 in
theorem New : Calls Try.prog 51 #[] w fun e w' => e = .returned (.pointer (some ⟨w.heap.size, 0, none⟩)) ∧ w' = w.alloc (.cells (nv firstK ++ bv (List.replicate 64 0) ++ [Value.int .u64 0]).toArray 109) := by
  go_enter Try.func51, Try.ntmps51
  go_wp2_with (first
    | (refine wpList_build (.inl rfl) 106 _ rfl (.agg (nv firstK).toArray) (by kernel_rfl) ?_)
    | (refine wpList_build (.inl rfl) 109 _ rfl (.agg (nv firstK ++ bv (List.replicate 64 0) ++ [Value.int .u64 0]).toArray) (by kernel_rfl) ?_)
    | fail)
  go_ret
  exact ⟨rfl, rfl⟩
end
end
section
open Go.RowKit

theorem near_zero : (Try.prog.info? 112).bind (fun i => i.zero.map (·.cells)) = some (nv (List.replicate 16 0)).toArray := by kernel_rfl
theorem state_zero : (Try.prog.info? 106).bind (fun i => i.zero.map (·.cells)) = some (nv (List.replicate 8 0)).toArray := by kernel_rfl
theorem Cells.mid {w : World} {g : Nat} {t : TypeId} {a b c : List Value} {n : Nat} (h : Blk w g t (a ++ b ++ c)) (hn : a.length = n) : Cells w ⟨g, n, none⟩ b := by
  subst hn
  have h1 := (h.cells.left (ys := c)).right (xs := a)
  intro j u hu
  have h2 := h1 j u hu
  rw [add_add'] at h2
  rw [show (⟨g, a.length, none⟩ : Addr).add j = (⟨g, 0, none⟩ : Addr).add (a.length + j) by unfold Addr.add; split <;> split <;> simp_all <;> omega]
  exact h2
theorem words_step (b : List UInt8) (k : Nat) (hk : k < 16) (f : Nat) (hf : f = beNum ((b.drop (4 * k)).take 4)) :
    ((words b 16).take k ++ List.replicate (16 - k) 0).set k f = (words b 16).take (k + 1) ++ List.replicate (16 - (k + 1)) 0 := by
  have hl := words_length b 16
  have e : (words b 16)[k]'(by omega) = f := by simp [words, hf]
  rw [List.set_append_right _ _ (by simp [hl]; omega), List.take_add_one, List.getElem?_eq_getElem (by omega), e]
  have : min k (words b 16).length = k := by omega
  rw [List.length_take, this, Nat.sub_self, show 16 - k = (16 - (k + 1)) + 1 by omega, List.replicate_succ]
  simp

theorem sumk_step (s r : List Nat) (k : Nat) (hs : s.length = 8) (hr : r.length = 8) (hk : k < 8) (f : Nat → Nat → Nat) :
    ((List.zipWith f s r).take k ++ s.drop k).set k (f (s.getD k 0) (r.getD k 0)) = (List.zipWith f s r).take (k + 1) ++ s.drop (k + 1) := by
  have hz : (List.zipWith f s r).length = 8 := by simp [hs, hr]
  rw [List.set_append_right _ _ (by simp [hz]; omega), List.length_take, hz, Nat.min_eq_left (by omega), Nat.sub_self, List.drop_eq_getElem_cons (by omega), List.set_cons_zero,
    List.take_add_one, List.getElem?_eq_getElem (by omega)]
  simp [List.getD, List.getElem?_eq_getElem (show k < s.length by omega), List.getElem?_eq_getElem (show k < r.length by omega)]
theorem sumk_get (s r : List Nat) (k : Nat) (hs : s.length = 8) (hr : r.length = 8) (hk : k < 8) (f : Nat → Nat → Nat) : ((List.zipWith f s r).take k ++ s.drop k)[k]? = some (s.getD k 0) := by
  have hz : (List.zipWith f s r).length = 8 := by simp [hs, hr]
  rw [List.getElem?_append_right (by simp [hz]; omega), List.length_take, hz, Nat.min_eq_left (by omega), Nat.sub_self, List.getElem?_drop]
  simp [List.getD, List.getElem?_eq_getElem (show k < s.length by omega)]
theorem round_cells (a b c d e f g h K W T P U O : Nat) (hT : threeM e 6 11 25 false = T) (hP : pickM e f g = P) (hU : threeM a 2 13 22 false = U) (hO : mostM a b c = O) :
    roundM [a, b, c, d, e, f, g, h] K W = [(h + T + P + K + W + U + O) % 4294967296, a, b, c, (d + (h + T + P + K + W)) % 4294967296, e, f, g] := by
  rw [roundM_eq, hT, hP, hU, hO]
theorem nv_set (l : List Nat) (i n : Nat) : (nv l).set i (.int .u32 (n : Int)) = nv (l.set i n) := by simp [nv]

theorem cells8 {v0 v4 : Int} {n0 n4 a b c e f g : Nat} (h0 : v0 = n0) (h4 : v4 = n4) :
    [Value.int .u32 v0, Value.int .u32 a, Value.int .u32 b, Value.int .u32 c, Value.int .u32 v4, Value.int .u32 e, Value.int .u32 f, Value.int .u32 g] = nv [n0, a, b, c, n4, e, f, g] := by
  subst h0; subst h4; rfl
theorem setRow_grown {a w : World} {r : Option Nat} (h : a.grownBy w r) (g : Nat) (cs : Array Value) (hg : a.heap.size ≤ g) : a.grownBy (w.setRow g cs) r :=
  grown_then h (setRow_only cs) (.inr (by rintro _ ⟨⟩; exact hg))

section
variable (g : Nat) (s : List Nat) (b : List UInt8) (L : Nat) (w : World)
set_option maxHeartbeats 1000000 in
set_option maxRecDepth 10000 in
theorem Grind (hb : Blk w g 109 (nv s ++ bv b ++ [Value.int .u64 (L : Int)])) (hs : s.length = 8) (hl : b.length = 64) (hlt' : ∀ x ∈ s, x < 4294967296) :
    Calls Try.prog 58 #[.pointer (some ⟨g, 0, none⟩)] w fun e w' => e = .returned (.tuple #[]) ∧ Blk w' g 109 (nv (block s b) ++ bv b ++ [Value.int .u64 (L : Int)]) ∧ w.grownBy w' (some g) := by
  have hg := hb.lt
  have hu32 : (Try.prog.info? 23).map (·.size) = some 1 := by kernel_rfl
  have HB := Lib.hid hb
  have HL := Lib.hid hl
  go_enter Try.func58, Try.ntmps58
  go_wp2_with (first
    | (refine wpList_alloc _ rfl 112 rfl _ near_zero ?_)
    | fail)
  go_loopw [12] (fun i wr => ∃ k : Nat, k ≤ 16 ∧ i = .int .i64 k ∧ Ext w wr ∧ Blk wr w.heap.size 112 (nv ((words b 16).take k ++ List.replicate (16 - k) 0))) (fun i _ => 16 - (intOf i).toNat)
  case atStart => exact ⟨0, by omega, rfl, (Ext.refl w).alloc _, Blk.new _ _ _⟩
  case round =>
    obtain ⟨k, hk, rfl, hx, hn⟩ := hrel
    have hbr : Blk wr g 109 (nv s ++ bv b ++ [Value.int .u64 (L : Int)]) := HB.out.keep hx (by simp)
    by_cases hlt : k < 16
    · have hwd : Cells wr ⟨g, 8 + 4 * k, none⟩ (bv ((b.drop (4 * k)).take 4)) := by
        have h1 : Cells wr ⟨g, 8, none⟩ (bv b) := Cells.mid hbr (by rw [nv_length]; exact hs)
        have := (h1.drop (4 * k)).take 4
        rw [show ((bv b).drop (4 * k)).take 4 = bv ((b.drop (4 * k)).take 4) by simp [bv]] at this
        unfold Addr.add at this
        split at this <;> simp_all
      have hl4 : ((b.drop (4 * k)).take 4).length = 4 := by rw [List.length_take, List.length_drop, HL.out]; omega
      have HW := Lib.hid hwd
      have H4 := Lib.hid hl4
      have k1 : (0 : Int) ≤ 4 * (k : Int) := by omega
      have k2 : 4 * (k : Int) ≤ 64 := by omega
      clear hwd hl4
      obtain ⟨u0, hu0⟩ : ∃ u0, (nv ((words b 16).take k ++ List.replicate (16 - k) 0))[k]? = some u0 := ⟨_, List.getElem?_eq_getElem (by simp [words_length]; omega)⟩
      have hcn := hn.cell k
      rw [hu0] at hcn
      have hfn := hn.free k
      have HN := Lib.hid hn
      clear hu0 hn
      go_wp2_with fail
      refine (Word _ _ (64 - 4 * k) (64 - 4 * k) ((b.drop (4 * k)).take 4) H4.out (by omega) (by omega) (by unfold maxLen; omega) HW.out).mono ?_
      rintro e w1 ⟨rfl, rfl⟩
      go_wp2
      go_roundw
      case rel =>
        have h1 := HN.out.set k (Value.int .u32 ((beNum ((b.drop (4 * k)).take 4) : Nat) : Int))
        rw [show (nv ((words b 16).take k ++ List.replicate (16 - k) 0)).set k (Value.int .u32 ((beNum ((b.drop (4 * k)).take 4) : Nat) : Int)) = nv ((words b 16).take (k + 1) ++ List.replicate (16 - (k + 1)) 0) by
          rw [← words_step b k hlt _ rfl]; simp [nv]] at h1
        exact ⟨k + 1, by omega, by go_num, hx.setCell (Nat.le_refl _) _, h1⟩
      case measure => simp [intOf]; omega
    · obtain rfl : k = 16 := by omega
      have hnw : (words b 16).take 16 ++ List.replicate (16 - 16) 0 = words b 16 := by rw [List.take_of_length_le (by rw [words_length]; exact Nat.le_refl _)]; simp
      rw [hnw] at hn
      have hcs : Cells wr ⟨g, 0, none⟩ (nv s) := by have := hbr.cells.left (ys := [Value.int .u64 (L : Int)]); exact this.left
      have hls : (nv s).length = 8 := by rw [nv_length]; exact hs
      have HLS := Lib.hid hls
      clear hnw hls
      go_wp2_with (first
        | (refine wpList_load_agg _ rfl 106 (.tmp 27) rfl _ rfl (nv s) _ Try.underlying106 rfl (by rw [HLS.out]; kernel_rfl) hcs ?_)
        | (refine wpList_alloc _ rfl 106 rfl _ state_zero ?_)
        | (refine wpList_store_new _ rfl 106 (.tmp 4) (.tmp 28) rfl rfl _ (nv s) _ rfl (by rw [HLS.out]; kernel_rfl) (by rw [HLS.out, nv_length, List.length_replicate]) (nv_one s) ?_)
        | fail)
      refine (Stirs _).mono ?_
      rintro e w1 ⟨rfl, hx1⟩
      have hsb : Blk w1 wr.heap.size 106 (nv s) := (Blk.new wr 106 (nv s)).keep hx1 (by simp)
      have hnb : Blk w1 w.heap.size 112 (nv (words b 16)) := (hn.keep ((Ext.refl wr).alloc (.cells (nv s).toArray 106)) (by simp)).keep hx1 (by simp)
      have hne : w.heap.size ≠ wr.heap.size := Nat.ne_of_lt hn.lt
      have hxw : Ext w w1 := (hx.alloc _).trans hx1
      obtain ⟨W, hW0, hWlt, hWn, hWf⟩ := block_W s b
      rw [← hW0] at hnb
      have hrok := fun n => rounds_ok (s := s) ⟨hs, hlt'⟩ W n
      have HWF := Lib.hid hWf
      have HWN := Lib.hid hWn
      have HWL := Lib.hid hWlt
      have HR := Lib.hid hrok
      generalize hsN : wr.heap.size = sN at hsb hne
      have HSN := Lib.hid hsN
      have hsz : w.heap.size ≤ sN := by rw [← hsN]; exact hx.size
      have HSZ := Lib.hid hsz
      clear hsz
      have hKS : ∀ k, k < 64 → (nv stirK)[k]? = some (Value.int .u32 ((stirK.getD k 0 : Nat) : Int)) := by
        intro k hk
        have hl : stirK.length = 64 := rfl
        rw [nv, List.getElem?_map, List.getElem?_eq_getElem (by omega)]
        simp [List.getD, List.getElem?_eq_getElem (show k < stirK.length by omega)]
      have hKL : (nv stirK).length = 64 := by rw [nv_length]; rfl
      generalize nv stirK = KS at hKS hKL ⊢
      have HKS := Lib.hid hKS
      obtain ⟨NR, hNR⟩ : ∃ NR : Nat → List Nat, NR = near W := ⟨_, rfl⟩
      obtain ⟨RD, hRD⟩ : ∃ RD : Nat → List Nat, RD = rounds s W := ⟨_, rfl⟩
      have hsb : Blk w1 sN 106 (nv (RD 0)) := by rw [hRD]; exact hsb
      rw [← hNR] at hnb
      have HNR := Lib.hid hNR
      have HRD := Lib.hid hRD
      clear hWf hWn hWlt hrok hsN hW0 hn hcs hbr hKS hNR hRD
      go_wp2
      obtain ⟨wa, rfl⟩ : ∃ wa : World, wa = wr := ⟨_, rfl⟩
      go_loopw [30] (fun i wq => ∃ k : Nat, k ≤ 64 ∧ i = .int .i64 k ∧ Ext w wq ∧ Blk wq w.heap.size 112 (nv (NR k)) ∧ Blk wq sN 106 (nv (RD k))) (fun i _ => 64 - (intOf i).toNat)
      case atStart => exact ⟨0, by omega, rfl, hxw, hnb, hsb⟩
      case round =>
        clear hxw hnb hsb hx hx1
        obtain ⟨k, hk, rfl, hx, hn, hsb⟩ := hrel
        by_cases hlt : k < 64
        · have hok : (RD k).length = 8 ∧ ∀ x ∈ RD k, x < 4294967296 := by rw [HRD.out]; exact HR.out k
          obtain ⟨hl8, hlt8⟩ := hok
          obtain ⟨s0, s1, s2, s3, s4, s5, s6, s7, h8⟩ := list8 hl8
          have HN := Lib.hid hn
          have HSB := Lib.hid hsb
          have H8 := Lib.hid h8
          rw [h8] at hsb hlt8
          simp only [List.mem_cons, List.not_mem_nil, or_false] at hlt8
          have b0 := hlt8 s0 (by simp)
          have b1 := hlt8 s1 (by simp)
          have b2 := hlt8 s2 (by simp)
          have b3 := hlt8 s3 (by simp)
          have b4 := hlt8 s4 (by simp)
          have b5 := hlt8 s5 (by simp)
          have b6 := hlt8 s6 (by simp)
          have b7 := hlt8 s7 (by simp)
          have c0 := hsb.cell 0
          have c1 := hsb.cell 1
          have c2 := hsb.cell 2
          have c3 := hsb.cell 3
          have c4 := hsb.cell 4
          have c5 := hsb.cell 5
          have c6 := hsb.cell 6
          have c7 := hsb.cell 7
          simp only [nv, List.map_cons, List.map_nil, List.getElem?_cons_succ, List.getElem?_cons_zero] at c0 c1 c2 c3 c4 c5 c6 c7
          clear hlt8 hl8 h8 hsb hn
          have hst := HKS.out k hlt
          have hkl := stirK_lt k
          generalize hKK : stirK.getD k 0 = K at hst hkl
          have HKK := Lib.hid hKK
          clear hKK
          have kr : ((k : Int) % 16).toNat = k % 16 := by omega
          have KR := Lib.hid kr
          clear kr
          go_upto_if 37 with (first
              | (refine wpList_index (.inl rfl) 114 (.tmp 29) (.tmp 30) rfl KS k 64 .i64 23 _ _ rfl rfl Try.underlying114 hlt Try.underlying23 rfl hu32 hst ?_)
              | fail)
          go_cut [30] from 30 to 125 (fun v30 wx => v30 = Value.int .i64 (k : Int) ∧ Ext w wx ∧ Blk wx w.heap.size 112 (nv (NR (k + 1))) ∧ Blk wx sN 106 (nv (RD k)))
          case first =>
            by_cases h16 : 16 ≤ k
            · obtain ⟨r0, r1, r9, r14⟩ := near_reads W k h16
              have hstep := near_step W k h16
              have hval : W.getD k 0 = wordMix (W.getD (k - 16) 0) (W.getD (k - 16 + 1) 0) (W.getD (k - 16 + 9) 0) (W.getD (k - 16 + 14) 0) := by
                have := HWN.out (k - 16) (by omega)
                rwa [show 16 + (k - 16) = k by omega] at this
              have HSTEP := Lib.hid hstep
              have HVAL := Lib.hid hval
              clear hstep hval
              rw [← HNR.out] at r0 r1 r9 r14
              have nvg : ∀ (j x : Nat), (NR k)[j]? = some x → wr.cell? ⟨w.heap.size, j, none⟩ = some (Value.int .u32 (x : Int)) := by
                intro j x hj
                rw [HN.out.cell j, nv, List.getElem?_map, hj]; rfl
              have n0 := nvg _ _ r0
              have n1 := nvg _ _ r1
              have n9 := nvg _ _ r9
              have n14 := nvg _ _ r14
              have nfr := HN.out.free (k % 16)
              generalize W.getD k 0 = wk at HVAL HSTEP
              generalize g0 : W.getD (k - 16) 0 = w0 at n0 HVAL
              have g0 := Lib.hid g0
              generalize g1 : W.getD (k - 16 + 1) 0 = w1' at n1 HVAL
              have g1 := Lib.hid g1
              generalize g9 : W.getD (k - 16 + 9) 0 = w9 at n9 HVAL
              have g9 := Lib.hid g9
              generalize g14 : W.getD (k - 16 + 14) 0 = w14 at n14 HVAL
              have g14 := Lib.hid g14
              have q1 : w1' < 4294967296 := by rw [← g1.out]; exact getD_lt HWL.out _
              have q14 : w14 < 4294967296 := by rw [← g14.out]; exact getD_lt HWL.out _
              have wr1 : IntKind.i64.wrap ((k : Int) + 1) = (k : Int) + 1 := by rw [IntKind.wrap_i64]; omega
              have wr9 : IntKind.i64.wrap ((k : Int) + 9) = (k : Int) + 9 := by rw [IntKind.wrap_i64]; omega
              have wr14 : IntKind.i64.wrap ((k : Int) + 14) = (k : Int) + 14 := by rw [IntKind.wrap_i64]; omega
              have i0 : (0 : Int) ≤ (k : Int) % 16 ∧ (k : Int) % 16 < 16 := by omega
              have i1 : (0 : Int) ≤ ((k : Int) + 1) % 16 ∧ ((k : Int) + 1) % 16 < 16 := by omega
              have i9 : (0 : Int) ≤ ((k : Int) + 9) % 16 ∧ ((k : Int) + 9) % 16 < 16 := by omega
              have i14 : (0 : Int) ≤ ((k : Int) + 14) % 16 ∧ ((k : Int) + 14) % 16 < 16 := by omega
              have e1 : (((k : Int) + 1) % 16).toNat = (k + 1) % 16 := by omega
              have e9 : (((k : Int) + 9) % 16).toNat = (k + 9) % 16 := by omega
              have e14 : (((k : Int) + 14) % 16).toNat = (k + 14) % 16 := by omega
              have n0' := n0
              have n1' := n1
              have n9' := n9
              have n14' := n14
              have nfr' := nfr
              rw [← KR.out] at n0' nfr'
              rw [← e1] at n1'
              rw [← e9] at n9'
              rw [← e14] at n14'
              clear nvg r0 r1 r9 r14 e1 e9 e14
              go_wp2
              refine wp_region_draw_last 24 _ rfl (by kernel_rfl) (by kernel_rfl) (by kernel_rfl) ?_
              simp only [List.take_succ_cons, List.take_zero]
              repeat (go_big_quiet_step (first
                  | (go_at_call_of 61 (Value.int IntKind.u32 (w1' : Int)); exact Calls.quiet_of_same ((Three _ w1' 7 18 3 true q1 (by omega) (by omega) (by omega)).mono fun _ _ h => ⟨h.1, h.2.symm⟩))
                  | (go_at_call_of 61 (Value.int IntKind.u32 (w14 : Int)); exact Calls.quiet_of_same ((Three _ w14 17 19 10 true q14 (by omega) (by omega) (by omega)).mono fun _ _ h => ⟨h.1, h.2.symm⟩))))
              refine wpQuiet_nil ?_
              rintro _ ⟨nq, rfl⟩
              go_wp2
              go_meet
              have hv : ∀ v : Int, v = (wk : Int) → Blk ((wr.drewN nq).setCell ⟨w.heap.size, k % 16, none⟩ (Value.int .u32 v)) w.heap.size 112 (nv (NR (k + 1))) := by
                rintro _ rfl
                have h1 : Blk (wr.drewN nq) w.heap.size 112 (nv (NR k)) := HN.out
                have h2 := h1.set (k % 16) (Value.int .u32 (wk : Int))
                rwa [nv_set, HNR.out, HSTEP.out, ← HNR.out] at h2
              have h3 : Ext w (wr.drewN nq) := hx.drewN nq
              have h4 : Blk (wr.drewN nq) sN 106 (nv (RD k)) := HSB.out
              exact ⟨rfl, h3.setCell (Nat.le_refl _) _, hv _ (by rw [HVAL.out, wordMix]; omega), h4.keep (only_set _ _) (by simpa using hne.symm)⟩
            · have hs1 : near W (k + 1) = near W k := near_small W k (by omega)
              have hx' := hx
              go_wp2
              go_meet
              exact ⟨rfl, hx, by rw [HNR.out, hs1, ← HNR.out]; exact HN.out, HSB.out⟩
          case rest =>
            obtain ⟨rfl, hx, hn, hsb⟩ := hcut
            have hwk : (NR (k + 1))[k % 16]? = some (W.getD k 0) := by
              rw [HNR.out]
              by_cases h16 : 16 ≤ k
              · exact near_now W k h16
              · rw [near_small W k (by omega)]; exact near_at W k (by omega)
            have hcn := hn.cell (k % 16)
            rw [nv, List.getElem?_map, hwk, Option.map_some] at hcn
            have hwl : W.getD k 0 < 4294967296 := getD_lt HWL.out _
            generalize hWK : W.getD k 0 = wk at hcn hwl
            have HWK := Lib.hid hWK
            have hcn' := hcn
            rw [← KR.out] at hcn'
            have i0 : (0 : Int) ≤ (k : Int) % 16 ∧ (k : Int) % 16 < 16 := by omega
            have HN1 := Lib.hid hn
            have HSB1 := Lib.hid hsb
            rw [H8.out] at hsb
            have c0 := hsb.cell 0
            have c1 := hsb.cell 1
            have c2 := hsb.cell 2
            have c3 := hsb.cell 3
            have c4 := hsb.cell 4
            have c5 := hsb.cell 5
            have c6 := hsb.cell 6
            have c7 := hsb.cell 7
            simp only [nv, List.map_cons, List.map_nil, List.getElem?_cons_succ, List.getElem?_cons_zero] at c0 c1 c2 c3 c4 c5 c6 c7
            have p1 := (bits_u32 s5 s6 b5 b6).2.2
            have d1 := xor_lt32 b5 b6
            generalize hA1 : s5 ^^^ s6 = x56 at p1 d1
            have p2 := (bits_u32 s4 x56 b4 d1).1
            have d2 : s4 &&& x56 < 4294967296 := and_lt32 d1
            generalize hA2 : s4 &&& x56 = y56 at p2 d2
            have p3 := (bits_u32 s6 y56 b6 d2).2.2
            have d3 := xor_lt32 b6 d2
            generalize hA3 : s6 ^^^ y56 = pk at p3 d3
            have HP : Hid (pickM s4 s5 s6 = pk) := Lib.hid (by rw [pickM, hA1, hA2, hA3])
            have m1 := (bits_u32 s0 s1 b0 b1).1
            have d4 : s0 &&& s1 < 4294967296 := and_lt32 b1
            have m2 := (bits_u32 s0 s1 b0 b1).2.1
            have d5 := or_lt32 b0 b1
            generalize hA4 : s0 &&& s1 = mab at m1 d4
            generalize hA5 : s0 ||| s1 = oab at m2 d5
            have m3 := (bits_u32 s2 oab b2 d5).1
            have d6 : s2 &&& oab < 4294967296 := and_lt32 d5
            generalize hA6 : s2 &&& oab = mc at m3 d6
            have m4 := (bits_u32 mab mc d4 d6).2.1
            have d7 := or_lt32 d4 d6
            generalize hA7 : mab ||| mc = mo at m4 d7
            have HO : Hid (mostM s0 s1 s2 = mo) := Lib.hid (by rw [mostM, hA4, hA5, hA6, hA7])
            have t1 := threeM_lt (f := false) b4 (show 6 ≤ 32 by omega) (show 11 ≤ 32 by omega) (show 25 ≤ 32 by omega)
            have t2 := threeM_lt (f := false) b0 (show 2 ≤ 32 by omega) (show 13 ≤ 32 by omega) (show 22 ≤ 32 by omega)
            have TH1 := fun w => Three w s4 6 11 25 false b4 (by omega) (by omega) (by omega)
            have TH2 := fun w => Three w s0 2 13 22 false b0 (by omega) (by omega) (by omega)
            generalize hT1 : threeM s4 6 11 25 false = T1 at t1 TH1
            generalize hT2 : threeM s0 2 13 22 false = T2 at t2 TH2
            have HT1 := Lib.hid hT1
            have HT2 := Lib.hid hT2
            have TH1 := Lib.hid TH1
            have TH2 := Lib.hid TH2
            clear hA1 hA2 hA3 hA4 hA5 hA6 hA7 hT1 hT2 hWK hwk hn hsb d1 d2 d4 d5 d6
            go_wp2
            go_quiet ((go_at_call 61; exact Calls.quiet_of_same ((TH1.out _).mono fun _ _ h => ⟨h.1, h.2.symm⟩)))
            have hx : Ext w (wc.drewN nq) := hx.drewN nq
            have HN1 : Hid (Blk (wc.drewN nq) _ _ _) := Lib.hid HN1.out
            have HSB1 : Hid (Blk (wc.drewN nq) _ _ _) := Lib.hid HSB1.out
            have c0 : (wc.drewN nq).cell? _ = _ := c0
            have c1 : (wc.drewN nq).cell? _ = _ := c1
            have c2 : (wc.drewN nq).cell? _ = _ := c2
            have c3 : (wc.drewN nq).cell? _ = _ := c3
            have c4 : (wc.drewN nq).cell? _ = _ := c4
            have c5 : (wc.drewN nq).cell? _ = _ := c5
            have c6 : (wc.drewN nq).cell? _ = _ := c6
            have c7 : (wc.drewN nq).cell? _ = _ := c7
            generalize wc.drewN nq = wd at hx HN1 HSB1 c0 c1 c2 c3 c4 c5 c6 c7 ⊢
            clear hcn hcn' m1 m2 m3 m4 p1 p2 p3
            go_wp2
            refine wp_region_draw_last 24 _ rfl (by kernel_rfl) (by kernel_rfl) (by kernel_rfl) ?_
            simp only [List.take_succ_cons, List.take_zero]
            repeat (go_big_quiet_step ((go_at_call 61; exact Calls.quiet_of_same ((TH2.out _).mono fun _ _ h => ⟨h.1, h.2.symm⟩))))
            refine wpQuiet_nil ?_
            rintro _ ⟨nq, rfl⟩
            have hsb2 : (wd.drewN nq).heap[sN]? = some (.cells (nv (RD k)).toArray 106 (0, 0)) := HSB1.out
            go_wp2_with (first
              | (refine wpList_store_row _ rfl 106 (.tmp 4) (.tmp 124) rfl sN rfl (nv (RD k)) _ 106 rfl hsb2 (by kernel_rfl) (by rw [nv_length, H8.out]; rfl) (by simp [Value.oneCell']) ?_)
              | fail)
            go_roundw
            case rel =>
              have hB : ∀ cs : List Value, cs = nv (RD (k + 1)) → Blk ((wd.drewN nq).setRow sN cs.toArray) sN 106 (nv (RD (k + 1))) := by
                rintro _ rfl
                exact setRow_at hsb2
              have hN : ∀ cs, Blk ((wd.drewN nq).setRow sN cs) w.heap.size 112 (nv (NR (k + 1))) := fun cs => Blk.keep (w := wd.drewN nq) HN1.out (setRow_only cs) (by simpa using hne)
              refine ⟨k + 1, by omega, by go_num, setRow_grown (hx.drewN nq) _ _ HSZ.out, hN _, hB _ ?_⟩
              rw [HRD.out, rounds_succ, ← HRD.out, H8.out, HKK.out, HWK.out, round_cells s0 s1 s2 s3 s4 s5 s6 s7 K wk T1 pk T2 mo HT1.out HP.out HT2.out HO.out]
              exact cells8 (by omega) (by omega)
            case measure => simp [intOf]; omega
        · obtain rfl : k = 64 := by omega
          have hR := HR.out 64
          rw [← HRD.out] at hR
          have hfin : List.zipWith (fun x y => (x + y) % 4294967296) s (RD 64) = block s b := by rw [HRD.out]; exact HWF.out 64 rfl
          obtain ⟨hRl, hRlt⟩ := hR
          generalize RD 64 = R at hsb hRl hRlt hfin
          have hmb : Blk wr g 109 (nv s ++ bv b ++ [Value.int .u64 (L : Int)]) := HB.out.keep hx (by simp)
          have HFIN := Lib.hid hfin
          have HRL := Lib.hid hRl
          have HRLT := Lib.hid hRlt
          have hgr : w.grownBy wr (some g) := hx.any _
          have hgs : g ≠ sN := by have := HSZ.out; omega
          clear hfin hRl hRlt hn hx
          go_wp2
          obtain ⟨wb, rfl⟩ : ∃ wb : World, wb = wr := ⟨_, rfl⟩
          go_loopw [126] (fun i wq => ∃ k : Nat, k ≤ 8 ∧ i = .int .i64 k ∧ w.grownBy wq (some g) ∧ Blk wq g 109 (nv ((List.zipWith (fun x y => (x + y) % 4294967296) s R).take k ++ s.drop k) ++ bv b ++ [Value.int .u64 (L : Int)]) ∧ Blk wq sN 106 (nv R)) (fun i _ => 8 - (intOf i).toNat)
          case atStart => exact ⟨0, by omega, rfl, hgr, by simpa using hmb, hsb⟩
          case round =>
            clear hgr hmb hsb
            obtain ⟨k, hk, rfl, hgr, hmb, hsb⟩ := hrel
            by_cases hlt : k < 8
            · have hg1 := sumk_get s R k hs HRL.out hlt (fun x y => (x + y) % 4294967296)
              have hst := sumk_step s R k hs HRL.out hlt (fun x y => (x + y) % 4294967296)
              have hl8 : ((List.zipWith (fun x y => (x + y) % 4294967296) s R).take k ++ s.drop k).length = 8 := by simp [hs, HRL.out]; omega
              have hcg := hmb.cell k
              have hfg := hmb.free k
              have hcs := hsb.cell k
              generalize (List.zipWith (fun x y => (x + y) % 4294967296) s R).take k ++ s.drop k = X at hg1 hst hl8 hmb hcg
              have hsk : s.getD k 0 < 4294967296 := getD_lt hlt' k
              have hrk : R.getD k 0 < 4294967296 := getD_lt HRLT.out k
              rw [List.append_assoc, List.getElem?_append_left (by rw [nv_length, hl8]; exact hlt), nv, List.getElem?_map, hg1, Option.map_some] at hcg
              have hrg : R[k]? = some (R.getD k 0) := by have := HRL.out; simp [List.getD, List.getElem?_eq_getElem (show k < R.length by omega)]
              rw [nv, List.getElem?_map, hrg, Option.map_some] at hcs
              generalize s.getD k 0 = x at hst hcg hsk
              generalize R.getD k 0 = y at hst hcs hrk
              have HST := Lib.hid hst
              have HL8 := Lib.hid hl8
              have HMB := Lib.hid hmb
              have HSB2 := Lib.hid hsb
              have k1 : (0 : Int) ≤ (k : Int) := by omega
              have k2 : (k : Int) < 8 := by omega
              clear hst hl8 hmb hsb hg1 hrg
              go_wp2
              refine wp_region_draw_last 13 _ rfl (by kernel_rfl) (by kernel_rfl) (by kernel_rfl) ?_
              simp only [List.take_succ_cons, List.take_zero]
              repeat (go_big_quiet_step (fail))
              refine wpQuiet_nil ?_
              rintro _ ⟨nq, rfl⟩
              go_wp2
              go_roundw
              case rel =>
                have h1 : Blk (wr.drewN nq) g 109 (nv X ++ bv b ++ [Value.int .u64 (L : Int)]) := HMB.out
                have h2 : Blk (wr.drewN nq) sN 106 (nv R) := HSB2.out
                have h3 : w.grownBy (wr.drewN nq) (some g) := ⟨hgr.os, hgr.tape, hgr.output, hgr.size, hgr.block⟩
                have hv : ∀ v : Int, v = (((x + y) % 4294967296 : Nat) : Int) → Blk ((wr.drewN nq).setCell ⟨g, k, none⟩ (Value.int .u32 v)) g 109 (nv ((List.zipWith (fun x y => (x + y) % 4294967296) s R).take (k + 1) ++ s.drop (k + 1)) ++ bv b ++ [Value.int .u64 (L : Int)]) := by
                  rintro _ rfl
                  have h4 := h1.set k (Value.int .u32 (((x + y) % 4294967296 : Nat) : Int))
                  rwa [List.append_assoc, List.set_append_left _ _ (by rw [nv_length, HL8.out]; exact hlt), nv_set, HST.out, ← List.append_assoc] at h4
                exact ⟨k + 1, by omega, by go_num, h3.trans (only_set _ _), hv _ (by omega), h2.keep (only_set _ _) (by simpa using hgs.symm)⟩
              case measure => simp [intOf]; omega
            · obtain rfl : k = 8 := by omega
              have e : (List.zipWith (fun x y => (x + y) % 4294967296) s R).take 8 ++ s.drop 8 = block s b := by
                rw [← HFIN.out, List.take_of_length_le (by simp [hs, HRL.out]), List.drop_eq_nil_of_le (by omega), List.append_nil]
              rw [e] at hmb
              clear e
              go_wp2
              go_end0
              exact ⟨rfl, hmb, hgr⟩
end
end
section
open Go.RowKit

/-- 's[k:]' of bytes. -/
theorem holds_drop {w : World} {F : Fp} {A : Option Addr} {c n : Nat} {bs : List UInt8} (h : (Ty.sl .u8).holds w F [.slice A bs.length c] bs) (hn : n ≤ bs.length) :
    (Ty.sl .u8).holds w F [.slice (if c = n then A else A.map (·.add n)) (bs.length - n) (c - n)] (bs.drop n) := by
  obtain ⟨A', c', xs, hv, hl, hc, hA, hcell, hall⟩ := h
  cases hv
  have hx := AllH.bytes.1 hall
  subst hx
  refine ⟨(if c = n then A else A.map (·.add n)), c - n, bv (bs.drop n), by rw [List.length_drop], by rw [List.length_drop]; omega, by omega, ?_, ?_, AllH.bytes.2 rfl⟩
  · intro h0
    by_cases hcn : c = n
    · omega
    · rw [if_neg hcn] at h0
      have : A = none := by cases A <;> simp_all
      have := hA this
      omega
  · intro hne
    have hne' : bs ≠ [] := by rintro rfl; simp at hne
    have hlt : n < bs.length := by rcases Nat.lt_or_ge n bs.length with h | h; exact h; exact absurd (List.drop_eq_nil_of_le h) hne
    obtain ⟨ad, rfl, hF, hcs⟩ := hcell hne'
    rw [if_neg (by omega)]
    refine ⟨ad.add n, rfl, by rw [add_block]; exact hF, ?_⟩
    have := hcs.drop n
    rwa [show (bv bs).drop n = bv (bs.drop n) by simp [bv]] at this
theorem holds_take {w : World} {F : Fp} {A : Option Addr} {c n : Nat} {bs : List UInt8} (h : (Ty.sl .u8).holds w F [.slice A bs.length c] bs) (hn : n ≤ bs.length) :
    (Ty.sl .u8).holds w F [.slice A n c] (bs.take n) := by
  obtain ⟨A', c', xs, hv, hl, hc, hA, hcell, hall⟩ := h
  cases hv
  have hx := AllH.bytes.1 hall
  subst hx
  refine ⟨A, c, bv (bs.take n), by simp; omega, by simp; omega, hc, hA, ?_, AllH.bytes.2 rfl⟩
  intro hne
  obtain ⟨ad, rfl, hF, hcs⟩ := hcell (by rintro rfl; simp at hne)
  refine ⟨ad, rfl, hF, ?_⟩
  have := hcs.take n
  rwa [show (bv bs).take n = bv (bs.take n) by simp [bv]] at this

/-- How long a slice is. -/
def slLen : Value → Nat
  | .slice _ n _ => n
  | _ => 0
end
section
open Go.RowKit

theorem zip_ok {s R : List Nat} (h : s.length = 8) (hr : R.length = 8) : (List.zipWith (fun x y => (x + y) % 4294967296) s R).length = 8 ∧ ∀ x ∈ List.zipWith (fun x y => (x + y) % 4294967296) s R, x < 4294967296 := by
  refine ⟨by simp [h, hr], ?_⟩
  intro x hx
  obtain ⟨i, hi, rfl⟩ := List.getElem_of_mem hx
  rw [List.getElem_zipWith]
  exact Nat.mod_lt _ (by decide)
theorem firstK_ok : firstK.length = 8 ∧ ∀ x ∈ firstK, x < 4294967296 := ⟨rfl, by decide⟩
theorem block_ok {s : List Nat} (h : s.length = 8 ∧ ∀ x ∈ s, x < 4294967296) (b : List UInt8) : (block s b).length = 8 ∧ ∀ x ∈ block s b, x < 4294967296 := zip_ok h.1 (rounds_ok h _ _).1
theorem blocks_ok (b : List UInt8) : ∀ n, (blocks b n).length = 8 ∧ ∀ x ∈ blocks b n, x < 4294967296
  | 0 => firstK_ok
  | n + 1 => block_ok (blocks_ok b n) _
theorem blocks_left (b x : List UInt8) : ∀ n, 64 * n ≤ b.length → blocks (b ++ x) n = blocks b n
  | 0, _ => rfl
  | n + 1, h => by
    show block (blocks (b ++ x) n) _ = block (blocks b n) _
    rw [blocks_left b x n (by omega), List.drop_append_of_le_length (by omega), List.take_append_of_le_length (by rw [List.length_drop]; omega)]
/-- A mill in memory: so many bytes have come. -/
def MillAt (w : World) (g : Nat) (B : List UInt8) : Prop :=
  ∃ wait : List UInt8, wait.length = 64 ∧ wait.take (B.length % 64) = B.drop (64 * (B.length / 64)) ∧ Blk w g 109 (nv (blocks B (B.length / 64)) ++ bv wait ++ [Value.int .u64 (B.length : Int)])
theorem MillAt.lt {w : World} {g : Nat} {B : List UInt8} (h : MillAt w g B) : g < w.heap.size := by obtain ⟨_, _, _, hb⟩ := h; exact hb.lt
theorem MillAt.keep {w w' : World} {g : Nat} {B : List UInt8} {row : Option Nat} (h : MillAt w g B) (hg : w.grownBy w' row) (hne : some g ≠ row) : MillAt w' g B := by
  obtain ⟨wait, h1, h2, hb⟩ := h
  exact ⟨wait, h1, h2, hb.keep hg hne⟩
/-- Some bytes more come into the block that waits. -/
theorem wait_part {B x wait : List UInt8} (hl : wait.length = 64) (hw : wait.take (B.length % 64) = B.drop (64 * (B.length / 64))) (hx : B.length % 64 + x.length < 64) :
    (wait.take (B.length % 64) ++ x ++ wait.drop (B.length % 64 + x.length)).length = 64 ∧
    (wait.take (B.length % 64) ++ x ++ wait.drop (B.length % 64 + x.length)).take ((B ++ x).length % 64) = (B ++ x).drop (64 * ((B ++ x).length / 64)) ∧
    blocks (B ++ x) ((B ++ x).length / 64) = blocks B (B.length / 64) := by
  have e1 : (B ++ x).length / 64 = B.length / 64 := by rw [List.length_append]; omega
  have e2 : (B ++ x).length % 64 = B.length % 64 + x.length := by rw [List.length_append]; omega
  refine ⟨by simp [hl]; omega, ?_, by rw [e1, blocks_left _ _ _ (by omega)]⟩
  rw [e1, e2, List.drop_append_of_le_length (by omega), ← hw, List.take_append_of_le_length (by simp [hl]; omega), List.take_of_length_le (by simp [hl]; omega)]
theorem wait_full {B x wait : List UInt8} (hl : wait.length = 64) (hw : wait.take (B.length % 64) = B.drop (64 * (B.length / 64))) (hx : B.length % 64 + x.length = 64) :
    (wait.take (B.length % 64) ++ x ++ wait.drop (B.length % 64 + x.length)).length = 64 ∧
    (wait.take (B.length % 64) ++ x ++ wait.drop (B.length % 64 + x.length)).take ((B ++ x).length % 64) = (B ++ x).drop (64 * ((B ++ x).length / 64)) ∧
    blocks (B ++ x) ((B ++ x).length / 64) = block (blocks B (B.length / 64)) (wait.take (B.length % 64) ++ x ++ wait.drop (B.length % 64 + x.length)) := by
  have e1 : (B ++ x).length / 64 = B.length / 64 + 1 := by rw [List.length_append]; omega
  have e2 : (B ++ x).length % 64 = 0 := by rw [List.length_append]; omega
  refine ⟨by simp [hl]; omega, ?_, ?_⟩
  · rw [e1, e2, List.take_zero, List.drop_eq_nil_of_le (by rw [List.length_append]; omega)]
  · rw [e1]
    show block (blocks (B ++ x) _) _ = _
    have hd : (B.drop (64 * (B.length / 64))).length = B.length % 64 := by rw [List.length_drop]; omega
    rw [blocks_left _ _ _ (by omega), show wait.drop (B.length % 64 + x.length) = [] from List.drop_eq_nil_of_le (by rw [hl]; omega), List.append_nil, hw, List.drop_append_of_le_length (by omega), List.take_of_length_le (by rw [List.length_append, hd]; omega)]

theorem long_cell {w : World} {g : Nat} {st : List Nat} {wait : List UInt8} {v : Value} (hs : st.length = 8) (hw : wait.length = 64) (h : Blk w g 109 (nv st ++ bv wait ++ [v])) :
    w.cell? ⟨g, 72, none⟩ = some v ∧ w.frozen? ⟨g, 72, none⟩ = false ∧ ∀ u, Blk (w.setCell ⟨g, 72, none⟩ u) g 109 (nv st ++ bv wait ++ [u]) := by
  have hl : (nv st ++ bv wait).length = 72 := by simp [hs, hw]
  refine ⟨?_, h.free 72, fun u => ?_⟩
  · have := h.cell 72
    rwa [List.getElem?_append_right (by omega), hl] at this
  · have := h.set 72 u
    rwa [List.set_append_right _ _ (by omega), hl] at this
theorem grown_draw {a w : World} {r : Option Nat} (h : a.grownBy w r) (n : Nat) : a.grownBy (w.drewN n) r := ⟨h.os, h.tape, h.output, h.size, h.block⟩

section
variable (g : Nat) (w : World)
set_option maxHeartbeats 1000000 in
theorem Put (v : Value) (bs p : List UInt8) (F : Fp) (hm : MillAt w g bs) (hp : (Ty.sl .u8).holds w F [v] p) (hF : ∀ b, F b → b < w.heap.size ∧ b ≠ g) (hb : bs.length + p.length < 1152921504606846976) :
    Calls Try.prog 57 #[.pointer (some ⟨g, 0, none⟩), v] w fun e w' => e = .returned (.tuple #[]) ∧ MillAt w' g (bs ++ p) ∧ w.grownBy w' (some g) := by
  have hv0 : ∃ A c, v = .slice A p.length c := by obtain ⟨A, c, xs, hv, _⟩ := hp; cases hv; exact ⟨A, c, rfl⟩
  obtain ⟨A0, c0, rfl⟩ := hv0
  go_enter Try.func57, Try.ntmps57
  go_wp2
  go_loopw [1] (fun v wr => ∃ B q : List UInt8, B ++ q = bs ++ p ∧ (Ty.sl .u8).holds wr F [v] q ∧ MillAt wr g B ∧ w.grownBy wr (some g)) (fun v _ => slLen v)
  case atStart => exact ⟨bs, p, rfl, hp, hm, World.grownBy.refl _ _⟩
  case round =>
    obtain ⟨B, q, hBq, hq, hmr, hgr⟩ := hrel
    have hq0 := hq
    obtain ⟨A, c, xs, hv, hlc, hc, hA, hcell, hall⟩ := hq
    cases hv
    have hsum : B.length + q.length < 1152921504606846976 := by
      have := congrArg List.length hBq
      rw [List.length_append, List.length_append] at this
      omega
    have hsrc := src_bytes hq0
    have HBQ := Lib.hid hBq
    have HQ := Lib.hid hq0
    unfold maxLen at hc
    clear hBq hq0 hall hcell hA
    rcases Nat.eq_zero_or_pos q.length with h0 | h0
    · obtain rfl : q = [] := List.eq_nil_of_length_eq_zero h0
      go_wp2
      go_end0
      exact ⟨rfl, by have := HBQ.out; rw [List.append_nil] at this; rw [← this]; exact hmr, hgr⟩
    · obtain ⟨wait, hwl, hwt, hblk⟩ := hmr
      obtain ⟨n, hn⟩ : ∃ n, n = min q.length (64 - B.length % 64) := ⟨_, rfl⟩
      have hn1 : n ≤ q.length := by omega
      have hn2 : B.length % 64 + n ≤ 64 := by omega
      have hn3 : 0 < n := by omega
      have hql : (q.take n).length = n := by rw [List.length_take]; omega
      have hpart := fun h => wait_part (x := q.take n) hwl hwt h
      have hfull := fun h => wait_full (x := q.take n) hwl hwt h
      rw [hql] at hpart hfull
      have hst := blocks_ok B (B.length / 64)
      have hoff : B.length % 64 < 64 := Nat.mod_lt _ (by decide)
      have hBL : (B ++ q.take n).length = B.length + n := by rw [List.length_append, hql]
      rw [hBL] at hpart hfull
      have hdiv : (B.length : Int) % 64 = ((B.length % 64 : Nat) : Int) := by omega
      generalize hS : blocks B (B.length / 64) = st at *
      generalize hO : B.length % 64 = off at *
      generalize hL : B.length = L at *
      have hcur : (nv st).length = 8 := by rw [nv_length]; exact hst.1
      have c72 := hblk.cell 72
      rw [List.getElem?_append_right (by rw [List.length_append, hcur, bv_length, hwl]; omega), List.length_append, hcur, bv_length, hwl] at c72
      simp only [Nat.sub_self, List.getElem?_cons_zero] at c72
      have hsplit : ∀ X : List UInt8, X.length = n → (nv st ++ bv wait ++ [Value.int .u64 (L : Int)]).take (8 + off) ++ bv X ++ (nv st ++ bv wait ++ [Value.int .u64 (L : Int)]).drop (8 + off + n) = nv st ++ bv (wait.take off ++ X ++ wait.drop (off + n)) ++ [Value.int .u64 (L : Int)] := by
        intro X hX
        rw [List.append_assoc (nv st), List.take_append, List.drop_append, hcur, List.take_of_length_le (by rw [hcur]; omega), List.drop_eq_nil_of_le (by rw [hcur]; omega), show 8 + off - 8 = off by omega, show 8 + off + n - 8 = off + n by omega,
          List.take_append_of_le_length (by rw [bv_length, hwl]; omega), List.drop_append_of_le_length (by rw [bv_length, hwl]; omega)]
        simp [bv]
      have hlen : (nv st ++ bv wait ++ [Value.int .u64 (L : Int)]).length = 73 := by simp only [List.length_append, hcur, bv_length, hwl, List.length_cons, List.length_nil]
      have HDIV := Lib.hid hdiv
      have HN := Lib.hid hn
      have HQL := Lib.hid hql
      have HPART := Lib.hid hpart
      have HFULL := Lib.hid hfull
      have HST := Lib.hid hst
      have HBL := Lib.hid hBL
      have HS := Lib.hid hS
      have HO := Lib.hid hO
      have HL := Lib.hid hL
      have HCUR := Lib.hid hcur
      have HSPLIT := Lib.hid hsplit
      have HLEN := Lib.hid hlen
      have HBLK := Lib.hid hblk
      have HWL := Lib.hid hwl
      have o1 : (0 : Int) ≤ (off : Int) := by omega
      have o2 : (off : Int) ≤ 64 := by omega
      clear hn hql hpart hfull hst hBL hS hO hL hcur hsplit hlen hblk hwl hwt
      go_wp2
      refine wp_region_draw_tail 10 (by kernel_rfl) (by kernel_rfl) (by kernel_rfl) ?_
      simp only [List.take_succ_cons, List.take_zero, List.drop_succ_cons, List.drop_zero]
      repeat (go_big_quiet_step (fail))
      refine wpQuiet_nil ?_
      rintro _ ⟨nq, rfl⟩
      have hcap : w.grownBy (wr.drewN nq) (some g) := grown_draw hgr nq
      have hsrc : Src (wr.drewN nq) A q.length (bv q) := hsrc
      have hblk : (wr.drewN nq).heap[g]? = some (.cells (nv st ++ bv wait ++ [Value.int .u64 (L : Int)]).toArray 109 (0, 0)) := HBLK.out
      have hq1 : (Ty.sl .u8).holds (wr.drewN nq) F [.slice A q.length c] q := HQ.out
      have HQ1 := Lib.hid hq1
      have HG1 := Lib.hid hcap
      generalize wr.drewN nq = wd at HQ1 HG1 hsrc hblk ⊢
      clear hq1 hcap hm hgr
      have hdrop := holds_drop HQ1.out hn1
      have HDROP := Lib.hid hdrop
      have hwl2 : (wait.take off ++ q.take n ++ wait.drop (off + n)).length = 64 := by have := HQL.out; have := HWL.out; simp; omega
      have HWL2 := Lib.hid hwl2
      have hBq2 : (B ++ q.take n) ++ q.drop n = bs ++ p := by rw [List.append_assoc, List.take_append_drop]; exact HBQ.out
      have HBQ2 := Lib.hid hBq2
      generalize hX : wait.take off ++ q.take n ++ wait.drop (off + n) = X at *
      have HX := Lib.hid hX
      clear hdrop hwl2 hBq2 hX
      by_cases hz : off + n = 64
      · obtain ⟨-, hw2, hb2⟩ := HFULL.out hz
        have HW2 := Lib.hid hw2
        have HB2 := Lib.hid hb2
        have hz1 : (((L : Int) + (n : Int)) % 64 == 0) = true := by have := HO.out; simp; omega
        clear hz hw2 hb2
        go_wp2_with (first
          | (refine wpList_copyB rfl (.tmp 16) (.tmp 17) _ _ rfl 5 Try.underlying55 (by kernel_rfl) g (8 + off) (64 - off) (64 - off) rfl A q.length c rfl q rfl hsrc _ _ hblk n (by rw [HN.out]) (by rw [HLEN.out]; omega) ?_; intro w1 hb1 hg1; rw [HSPLIT.out _ HQL.out, HX.out] at hb1; obtain ⟨c72, f72, s72⟩ := long_cell HST.out.1 HWL2.out hb1; have HS72 := Lib.hid s72; have HG2 := Lib.hid (HG1.out.trans hg1); have HQ2 := Lib.hid (Ty.keep (t := (Ty.sl .u8)) (fun b hb => hg1.block b (Nat.lt_of_lt_of_le (hF b hb).1 HG1.out.size) (by simpa using (hF b hb).2)) (fun _ h => h) HDROP.out); clear s72)
          | fail)
        all_goals
          refine (Grind g st X (L + n) _ (by rw [Int.natCast_add]; exact HS72.out _) HST.out.1 HWL2.out HST.out.2).mono ?_
          rintro e w2 ⟨rfl, hb2, hg2⟩
          go_wp2
          go_roundw
          case rel =>
            have hk : w1.grownBy w2 (some g) := (only_set 72 _).trans hg2
            have hq3 := Ty.keep (t := (Ty.sl .u8)) (fun b hb => hk.block b (Nat.lt_of_lt_of_le (hF b hb).1 HG2.out.size) (by simpa using (hF b hb).2)) (fun _ h => h) HQ2.out
            refine ⟨B ++ q.take n, q.drop n, HBQ2.out, ?_, ⟨X, HWL2.out, by rw [HBL.out]; exact HW2.out, by rw [HBL.out, HB2.out]; exact hb2⟩, HG2.out.trans hk⟩
            first
              | exact hq3
              | (rw [if_pos (by assumption), show c - n = 0 by omega] at hq3; exact hq3)
              | (rw [if_neg (by assumption)] at hq3; exact hq3)
          case measure => simp [slLen]; omega
      · obtain ⟨-, hw2, hb2⟩ := HPART.out (by omega)
        have HW2 := Lib.hid hw2
        have HB2 := Lib.hid hb2
        have hz1 : (((L : Int) + (n : Int)) % 64 == 0) = false := by have := HO.out; simp; omega
        clear hz hw2 hb2
        go_wp2_with (first
          | (refine wpList_copyB rfl (.tmp 16) (.tmp 17) _ _ rfl 5 Try.underlying55 (by kernel_rfl) g (8 + off) (64 - off) (64 - off) rfl A q.length c rfl q rfl hsrc _ _ hblk n (by rw [HN.out]) (by rw [HLEN.out]; omega) ?_; intro w1 hb1 hg1; rw [HSPLIT.out _ HQL.out, HX.out] at hb1; obtain ⟨c72, f72, s72⟩ := long_cell HST.out.1 HWL2.out hb1; have HS72 := Lib.hid s72; have HG2 := Lib.hid (HG1.out.trans hg1); have HQ2 := Lib.hid (Ty.keep (t := (Ty.sl .u8)) (fun b hb => hg1.block b (Nat.lt_of_lt_of_le (hF b hb).1 HG1.out.size) (by simpa using (hF b hb).2)) (fun _ h => h) HDROP.out); clear s72)
          | fail)
        all_goals
          go_roundw
          case rel =>
            have hk : w1.grownBy (w1.setCell ⟨g, 72, none⟩ (Value.int .u64 ((L : Int) + (n : Int)))) (some g) := only_set 72 _
            have hq3 := Ty.keep (t := (Ty.sl .u8)) (fun b hb => hk.block b (Nat.lt_of_lt_of_le (hF b hb).1 HG2.out.size) (by simpa using (hF b hb).2)) (fun _ h => h) HQ2.out
            refine ⟨B ++ q.take n, q.drop n, HBQ2.out, ?_, ⟨X, HWL2.out, by rw [HBL.out]; exact HW2.out, by rw [HBL.out, HB2.out]; exact by rw [Int.natCast_add]; exact HS72.out _⟩, HG2.out.trans hk⟩
            first
              | exact hq3
              | (rw [if_pos (by assumption), show c - n = 0 by omega] at hq3; exact hq3)
              | (rw [if_neg (by assumption)] at hq3; exact hq3)
          case measure => simp [slLen]; omega
end
end
section
open Go.RowKit

set_option maxHeartbeats 400000 in
theorem Write_nil (v : Value) (w : World) : Calls Try.prog 52 #[.pointer none, v] w fun e w' => e = .returned (.tuple #[]) ∧ w = w' := by
  go_enter Try.func52, Try.ntmps52
  go_wp2
  exact bodyPost_ret (results_none rfl _ _ _) rfl ⟨rfl, rfl⟩
theorem flat_take_len {α β : Type} (f : α → List β) (l : List α) (k : Nat) : ((l.take k).flatMap f).length ≤ (l.flatMap f).length := by
  have e : l.flatMap f = (l.take k).flatMap f ++ (l.drop k).flatMap f := by rw [← List.flatMap_append, List.take_append_drop]
  rw [e, List.length_append]
  omega
set_option maxHeartbeats 400000 in
theorem Write (g : Nat) (v : Value) (B : List UInt8) (ps : List (List UInt8)) (w : World) (F : Fp) (hm : MillAt w g B) (hp : (Ty.sl (.sl .u8)).holds w F [v] ps) (hF : ∀ b, F b → b < w.heap.size ∧ b ≠ g) (hb : B.length + (ps.flatMap id).length < 1152921504606846976) :
    Calls Try.prog 52 #[.pointer (some ⟨g, 0, none⟩), v] w fun e w' => e = .returned (.tuple #[]) ∧ MillAt w' g (B ++ ps.flatMap id) ∧ w.grownBy w' (some g) := by
  obtain ⟨A, c, xs, hv, hlc, hc, hA, hcell, hall⟩ := hp
  cases hv
  unfold maxLen at hc
  go_enter Try.func52, Try.ntmps52
  go_wp2
  go_loopw [10] (fun i wr => ∃ k : Nat, k ≤ ps.length ∧ i = .int .i64 k ∧ MillAt wr g (B ++ (ps.take k).flatMap id) ∧ w.grownBy wr (some g)) (fun i _ => ps.length - (intOf i).toNat)
  case atStart => exact ⟨0, by omega, rfl, by simpa using hm, World.grownBy.refl _ _⟩
  case round =>
    obtain ⟨k, hk, rfl, hmr, hgr⟩ := hrel
    by_cases hlt : k < ps.length
    · obtain ⟨ad, rfl, hf, hcells⟩ := hcell (by rintro rfl; simp at hlt)
      obtain ⟨y, hy, hyh⟩ := AllH.sl_at hall hlt
      have hsame : ∀ b, F b → wr.heap[b]? = w.heap[b]? := fun b hb => hgr.block b (hF b hb).1 (by simpa using (hF b hb).2)
      have hcx := (hcells.keep (hsame _ hf)) k _ hy
      have hyr := Ty.keep (t := (Ty.sl .u8)) hsame (fun _ h => h) hyh
      have hst := flat_len_step id ps k hlt
      obtain ⟨A1, c1, xs1, hv1, hlc1, hc1, hA1, hcell1, hall1⟩ := hyh
      cases hv1
      go_wp2_with fail
      refine (Put g _ _ (B ++ (ps.take k).flatMap id) ps[k] F hmr hyr (fun b hb => ⟨Nat.lt_of_lt_of_le (hF b hb).1 hgr.size, (hF b hb).2⟩) (by rw [List.length_append]; simp only [id] at hst; omega)).mono ?_
      rintro e w1 ⟨rfl, hm1, hg1⟩
      go_wp2
      go_roundw
      case rel => exact ⟨k + 1, by omega, by go_num, by rw [flat_step _ _ _ hlt, ← List.append_assoc]; exact hm1, hgr.trans hg1⟩
      case measure => simp [intOf]; omega
    · obtain rfl : k = ps.length := by omega
      rw [List.take_length] at hmr
      go_wp2
      go_end0
      exact ⟨rfl, hmr, hgr⟩
end
section
open Go.RowKit

theorem digest_zero : (Try.prog.info? 31).bind (fun i => i.zero.map (·.cells)) = some (bv (List.replicate 32 0)).toArray := by kernel_rfl
theorem digest_size {n : Nat} (h : n = 32) : (Try.prog.info? 31).map (·.size) = some n := by subst h; kernel_rfl
theorem mill_zero : (Try.prog.info? 109).bind (fun i => i.zero.map (·.cells)) = some (nv (List.replicate 8 0) ++ bv (List.replicate 64 0) ++ [Value.int .u64 0]).toArray := by kernel_rfl
theorem mill_size {n : Nat} (h : n = 73) : (Try.prog.info? 109).map (·.size) = some n := by subst h; kernel_rfl
theorem be8_split (n : Nat) : be 8 n = be 4 (n / 4294967296) ++ be 4 (n % 4294967296) := by
  rw [be_mod4]
  simp only [be, List.cons_append, List.nil_append, Nat.div_div_eq_div_mul]
theorem mill_one (st : List Nat) (wait : List UInt8) (L : Int) : ∀ u ∈ nv st ++ bv wait ++ [Value.int .u64 L], u.oneCell' = true := by
  intro u hu
  simp only [List.mem_append, List.mem_singleton] at hu
  rcases hu with (hu | hu) | rfl
  · exact nv_one _ u hu
  · exact bv_one _ u hu
  · rfl
theorem fill_length (n : Nat) : (fill n).length = 64 - (n + 8) % 64 := by
  have : (n + 8) % 64 < 64 := Nat.mod_lt _ (by decide)
  simp [fill]; omega
theorem padded_length (b : List UInt8) : (padded b).length = b.length + (64 - (b.length + 8) % 64) + 8 := by
  simp [padded, fill_length, be_length]; omega
theorem flat4_length (l : List Nat) : (l.flatMap (be 4)).length = 4 * l.length := be_flat 4 l

set_option maxHeartbeats 400000 in
theorem Sum_nil (w : World) : Calls Try.prog 54 #[.pointer none] w fun e w' => e = .returned (.agg (bv (List.replicate 32 0)).toArray) ∧ Ext w w' := by
  have hz := digest_zero
  have hl : (bv (List.replicate 32 0)).length = 32 := by simp
  have hone := bv_one (List.replicate 32 0)
  have HL := Lib.hid hl
  have hb : ∀ (o : Op) (w : World), True := fun _ _ => trivial
  clear hl hb
  generalize hZ : bv (List.replicate 32 0) = Z at hz HL hone ⊢
  have HZ := Lib.hid hZ
  clear hZ
  go_enter Try.func54, Try.ntmps54
  go_wp2_with (first
    | (refine wpList_alloc _ rfl 31 rfl _ hz ?_)
    | (refine wpList_build (.inl rfl) 31 _ rfl (.agg Z.toArray) (by rw [← HZ.out]; kernel_rfl) ?_)
    | (refine wpList_store_new _ rfl 31 (.tmp 2) (.tmp 11) rfl rfl Z Z _ rfl (digest_size HL.out) rfl hone ?_)
    | fail)
  have hc : Cells (w.alloc (.cells Z.toArray 31)) ⟨w.heap.size, 0, none⟩ Z := by have := Cells.of_block (heap_alloc_new w (.cells Z.toArray 31)); simpa using this
  (try simp only [Exit.inBlock, Exit.then])
  refine bodyPost_ret (results_agg rfl _ _ _ _ _ rfl Try.underlying31 rfl (digest_size HL.out) hc) rfl ?_
  exact ⟨rfl, (Ext.refl w).alloc _⟩

theorem after_make {w w1 : World} {N G : Nat} {a : Addr} {x : Value} (ho : w1.ownsRow 0 5 1 (.slice (some ⟨w.heap.size, 0, none⟩) N N) N (madeCells (Value.int .u8 0).cells (N * 1)).toList) (hg : w.grownBy w1 none) (hN : 0 < N) (hx : w.cell? a = some x) (hG : w.heap.size = G) :
    w1.cell? ⟨G, 0, none⟩ = some (.int .u8 0) ∧ w1.frozen? ⟨G, 0, none⟩ = false ∧ w1.cell? a = some x ∧
    OwnB (w1.setCell ⟨G, 0, none⟩ (.int .u8 128)) (.slice (some ⟨G, 0, none⟩) N N) (128 :: List.replicate (N - 1) 0) := by
  subst hG
  have e : (madeCells (Value.int .u8 0).cells (N * 1)).toList = bv (List.replicate N 0) := by
    rw [show (Value.int .u8 0).cells = #[.int .u8 0] from rfl, toList_madeCells_one, Nat.mul_one]
    simp [bv]
  rw [e] at ho
  refine ⟨?_, World.ownsRow.frozenAt ho 0, ?_, ?_⟩
  · have := World.ownsRow.cellAt ho 0 (by simpa using hN)
    rw [this]
    simp [bv, hN]
  · have hlt := World.block_lt_of_cell? w a hx
    rw [World.cell?_of_block (hg.block _ hlt (by simp))]; exact hx
  · have := (World.ownsRow.stored ho 0 (.int .u8 128)).1
    obtain ⟨m, rfl⟩ : ∃ m, N = m + 1 := ⟨N - 1, by omega⟩
    have e2 : (bv (List.replicate (m + 1) 0)).set 0 (Value.int .u8 128) = bv (128 :: List.replicate m 0) := by simp [bv, List.replicate_succ]
    rw [e2] at this
    unfold OwnB
    have e3 : (128 :: List.replicate (m + 1 - 1) (0 : UInt8)).length = m + 1 := by simp
    rw [e3]
    exact this

theorem laid_step (S : List Nat) (k : Nat) (hS : S.length = 8) (hk : k < 8) :
    (bv ((S.take k).flatMap (be 4) ++ List.replicate (32 - 4 * k) 0)).length = 32 ∧
    (bv ((S.take k).flatMap (be 4) ++ List.replicate (32 - 4 * k) 0)).take (4 * k) ++ bv ((be 4 (S.getD k 0)).take 4) ++ (bv ((S.take k).flatMap (be 4) ++ List.replicate (32 - 4 * k) 0)).drop (4 * k + 4) =
      bv ((S.take (k + 1)).flatMap (be 4) ++ List.replicate (32 - 4 * (k + 1)) 0) := by
  have hA : ((S.take k).flatMap (be 4)).length = 4 * k := by rw [be_flat, List.length_take]; omega
  have he : S.getD k 0 = S[k]'(by omega) := by simp [List.getD, List.getElem?_eq_getElem (show k < S.length by omega)]
  refine ⟨by rw [bv_length, List.length_append, hA, List.length_replicate]; omega, ?_⟩
  rw [flat_step _ _ _ (by omega), he]
  generalize (S.take k).flatMap (be 4) = A at hA
  rw [bv_append, List.take_left' (by rw [bv_length]; exact hA), ← bv_append, List.take_of_length_le (by rw [be_length]; exact Nat.le_refl _), List.drop_append, bv_length, hA, List.drop_eq_nil_of_le (by rw [bv_length]; omega), List.nil_append, show 4 * k + 4 - 4 * k = 4 by omega]
  have e2 : (bv (List.replicate (32 - 4 * k) 0)).drop 4 = bv (List.replicate (32 - 4 * (k + 1)) 0) := by
    simp only [bv, List.map_replicate, List.drop_replicate]
    congr 1
  rw [e2, ← bv_append]
theorem Four_i (x : Int) (n : Nat) (w : World) (hx : x = n) (hn : n < 4294967296) : Calls Try.prog 53 #[.int .u32 x] w fun e w' => e = .returned (.slice (some ⟨w.heap.size, 0, none⟩) 4 4) ∧ w' = w.alloc (.cells (bv (be 4 n)).toArray 5) := by
  subst hx; exact Four w n hn
theorem own_lit {w : World} {G : Nat} {e : TypeId} {cs : List Value} {n : Nat} (hG : w.heap.size = G) (hn : cs.length = n) (hm : n ≤ maxLen) : Own (w.alloc (.cells cs.toArray e)) e 1 (.slice (some ⟨G, 0, none⟩) n n) n cs := by
  subst hG
  refine ⟨by simpa using hn, .inr ⟨w.heap.size, n, cs.toArray, rfl, Nat.zero_le _, heap_alloc_new w _, Nat.le_refl _, hm, by simpa using hn, ?_⟩⟩
  simp [← hn]

set_option maxRecDepth 100000 in
set_option maxHeartbeats 1000000 in
theorem Sum (g : Nat) (B : List UInt8) (w : World) (hm : MillAt w g B) (hb : B.length < 576460752303423488) :
    Calls Try.prog 54 #[.pointer (some ⟨g, 0, none⟩)] w fun e w' => e = .returned (.agg (bv (sha B)).toArray) ∧ Ext w w' := by
  obtain ⟨i0, hi, hz0, hz1, hz2⟩ := info_parts u8_info
  have hg := hm.lt
  obtain ⟨wait, hwl, hwt, hblk⟩ := hm
  have hst := blocks_ok B (B.length / 64)
  generalize hS : blocks B (B.length / 64) = st at hblk hst
  have hone := mill_one st wait (B.length : Int)
  have hcl : (nv st ++ bv wait ++ [Value.int .u64 (B.length : Int)]).length = 73 := by simp [hst.1, hwl]
  have hcs : Cells (w.alloc (.cells (bv (List.replicate 32 0)).toArray 31)) ⟨g, 0, none⟩ (nv st ++ bv wait ++ [Value.int .u64 (B.length : Int)]) := hblk.cells.keep (heap_alloc_old _ _ hg)
  have c72 : (((w.alloc (.cells (bv (List.replicate 32 0)).toArray 31)).alloc (.cells (nv st ++ bv wait ++ [Value.int .u64 (B.length : Int)]).toArray 109))).cell? ⟨w.heap.size + 1, 72, none⟩ = some (.int .u64 (B.length : Int)) := by
    have h := Blk.new (w.alloc (.cells (bv (List.replicate 32 0)).toArray 31)) 109 (nv st ++ bv wait ++ [Value.int .u64 (B.length : Int)])
    have := (long_cell hst.1 hwl h).1
    simpa using this
  generalize hZ : bv (List.replicate 32 0) = Z at hcs c72
  generalize hCS : nv st ++ bv wait ++ [Value.int .u64 (B.length : Int)] = CS at hcs hblk hone hcl c72
  have hz := digest_zero
  rw [hZ] at hz
  have hmz := mill_zero
  have hmzl : (nv (List.replicate 8 0) ++ bv (List.replicate 64 0) ++ [Value.int .u64 0]).length = 73 := by simp
  generalize nv (List.replicate 8 0) ++ bv (List.replicate 64 0) ++ [Value.int .u64 0] = MZ at hmz hmzl
  have HZ := Lib.hid hZ
  have HS := Lib.hid hS
  have HCS := Lib.hid hCS
  have HCL := Lib.hid hcl
  have HST := Lib.hid hst
  have HMZ := Lib.hid hmzl
  have HBLK := Lib.hid hblk
  have HWL := Lib.hid hwl
  have HWT := Lib.hid hwt
  obtain ⟨N, hN⟩ : ∃ N, N = 64 - (B.length + 8) % 64 := ⟨_, rfl⟩
  have n1 : 0 < N := by omega
  have n2 : N ≤ 64 := by omega
  have NN := Lib.hid hN
  clear hN
  have l1 : (0 : Int) ≤ 64 - ((B.length : Int) + 8) % 64 ∧ 64 - ((B.length : Int) + 8) % 64 ≤ 64 := by omega
  clear hZ hS hCS hcl hst hmzl hblk hwl hwt
  go_enter Try.func54, Try.ntmps54
  go_wp2_with (first
    | (refine wpList_alloc _ rfl 31 rfl _ hz ?_)
    | (refine wpList_load_agg _ rfl 109 (.tmp 13) rfl _ rfl CS _ Try.underlying109 rfl (mill_size HCL.out) hcs ?_)
    | (refine wpList_alloc _ rfl 109 rfl _ hmz ?_)
    | (refine wpList_store_new _ rfl 109 (.tmp 3) (.tmp 14) rfl (by simp; rfl) MZ CS _ rfl (mill_size HCL.out) (by rw [HCL.out, HMZ.out]) hone ?_)
    | (at_make; refine wpList_make_full _ rfl _ _ _ rfl 0 _ i0 _ 1 Try.underlying55 hi hz0 hz1 .u64 .u64 _ _ N rfl rfl (by rw [NN.out]; omega) (by rw [NN.out]; omega) (by rw [hz2]; omega) (by unfold maxLen; omega) (Nat.zero_le _) ?_; intro w1 ho1 hg1; obtain ⟨c0, f0, d72, hs1⟩ := after_make (G := w.heap.size + 1 + 1) ho1 hg1 n1 c72 (by simp); have HS1 := Lib.hid hs1; have HG1 := Lib.hid hg1; have HO1 := Lib.hid ho1; clear hs1 hg1 ho1)
    | fail)
  have hfill : 128 :: List.replicate (N - 1) 0 = fill B.length := by
    have h := NN.out
    unfold fill
    rw [show N - 1 = 63 - (B.length + 8) % 64 by omega]
  have ho2 : OwnB (w1.setCell ⟨w.heap.size + 1 + 1, 0, none⟩ (Value.int .u8 128)) (.slice (some ⟨w.heap.size + 1 + 1, 0, none⟩) N N) (fill B.length) := by rw [← hfill]; exact HS1.out
  have hbq : Blk ((w.alloc (.cells Z.toArray 31)).alloc (.cells CS.toArray 109)) (w.heap.size + 1) 109 CS := by have := Blk.new (w.alloc (.cells Z.toArray 31)) 109 CS; simpa using this
  have hm1 : MillAt (w1.setCell ⟨w.heap.size + 1 + 1, 0, none⟩ (Value.int .u8 128)) (w.heap.size + 1) B :=
    ⟨wait, HWL.out, HWT.out, by rw [HS.out, HCS.out]; exact (hbq.keep HG1.out (by simp)).keep (only_set 0 _) (by simp)⟩
  have hx1 : Ext w (w1.setCell ⟨w.heap.size + 1 + 1, 0, none⟩ (Value.int .u8 128)) := ((((Ext.refl w).alloc _).alloc _).trans HG1.out).setCell (by simp; omega) _
  have hr1 : Blk (w1.setCell ⟨w.heap.size + 1 + 1, 0, none⟩ (Value.int .u8 128)) w.heap.size 31 Z := (((Blk.new w 31 Z).keep ((Ext.refl _).alloc _) (by simp)).keep HG1.out (by simp)).keep (only_set 0 _) (by simp; omega)
  have hp2 : (Ty.sl .u8).holds _ (fun b => b = w.heap.size + 1 + 1) [_] (fill B.length) := Ty.keep (fun _ _ => rfl) (fun b hb => (Option.some.inj hb).symm) _ ho2.holds
  refine (Put (w.heap.size + 1) _ _ B (fill B.length) (fun b => b = w.heap.size + 1 + 1) hm1 hp2 (by rintro b rfl; exact ⟨ho2.lt _ rfl, by omega⟩) (by rw [fill_length]; omega)).mono ?_
  rintro e w2 ⟨rfl, hm2, hg2⟩
  have hx2 : Ext w w2 := grown_then hx1 hg2 (.inr (by rintro _ ⟨⟩; omega))
  have hr2 := hr1.keep hg2 (by simp)
  have HM2 := Lib.hid hm2
  have HX2 := Lib.hid hx2
  have HR2 := Lib.hid hr2
  clear hm1 hx1 hr1 hm2 hx2 hr2 hbq ho2 hp2 hfill c0 f0 d72 hcs c72
  go_wp2_with fail
  refine (Four_i _ (B.length * 8 / 4294967296) _ (by omega) (by omega)).mono ?_
  rintro e w3 ⟨rfl, rfl⟩
  go_wp2_with fail
  refine (Four_i _ (B.length * 8 % 4294967296) _ (by omega) (by omega)).mono ?_
  rintro e w3 ⟨rfl, rfl⟩
  generalize hhi : B.length * 8 / 4294967296 = hi8
  generalize hlo : B.length * 8 % 4294967296 = lo8
  have HHI := Lib.hid hhi
  have HLO := Lib.hid hlo
  clear hhi hlo
  go_wp2_with (first
    | (at_builtin; refine wpList_app _ rfl (.tmp 31) (.tmp 34) _ _ rfl _ _ i0 _ 1 1 Try.underlying55 Try.underlying55 hi hz0 hz1 hz2 rfl (by decide) _ _ _ rfl ((own_lit rfl (by simp [be_length]) (by simp [maxLen])).ext ((Ext.refl _).alloc _)) _ _ _ (bv (be 4 lo8)) rfl (by simp [be_length]) (by have := src_new (w2.alloc (.cells (bv (be 4 hi8)).toArray 5)) (bv (be 4 lo8)) 5 4; simpa using this) (bv_one _) (by simp [maxLen]) (by omega) ?_; intro v5 w5 ho5 hm5)
    | fail)
  have hm5 : Moved ((w2.alloc (.cells (bv (be 4 hi8)).toArray 5)).alloc (.cells (bv (be 4 lo8)).toArray 5)) w5 (.slice (some ⟨w2.heap.size, 0, none⟩) 4 4) v5 := hm5
  have ho5' : OwnB w5 v5 (be 8 (B.length * 8)) := by rw [be8_split, HHI.out, HLO.out]; exact OwnB.app (by simpa [be_length] using ho5)
  have hlt2 : w.heap.size + 1 < w2.heap.size := HM2.out.lt
  have hg5 : w2.grownBy w5 none := grown_then (((Ext.refl w2).alloc _).alloc _) hm5.grown (.inr (by rintro _ ⟨⟩; exact Nat.le_refl _))
  have hnew5 : ∀ b, v5.ownBlock = some b → w2.heap.size ≤ b := by
    intro b hb
    rcases hm5.at_ with e | h
    · rw [e] at hb; cases hb; exact Nat.le_refl _
    · have := h b hb; simp at this; omega
  have hm6 : MillAt w5 (w.heap.size + 1) (B ++ fill B.length) := HM2.out.keep hg5 (by simp)
  have hx5 : Ext w w5 := HX2.out.trans hg5
  have hr5 := HR2.out.keep hg5 (by simp)
  have hp5 := ho5'.holds
  have hlt5 := ho5'.lt
  have HR5 := Lib.hid hr5
  have HX5 := Lib.hid hx5
  clear hm5 ho5 ho5' hg5 hx5 hr5 HM2 HX2 HR2
  refine (Put (w.heap.size + 1) _ v5 (B ++ fill B.length) (be 8 (B.length * 8)) _ hm6 hp5 (fun b hb => ⟨hlt5 b hb, by have := hnew5 b hb; omega⟩) (by rw [List.length_append, fill_length, be_length]; omega)).mono ?_
  rintro e w6 ⟨rfl, hm7, hg6⟩
  have hpad : B ++ fill B.length ++ be 8 (B.length * 8) = padded B := rfl
  rw [hpad] at hm7
  have hx6 : Ext w w6 := grown_then HX5.out hg6 (.inr (by rintro _ ⟨⟩; omega))
  have hr6 := HR5.out.keep hg6 (by simp)
  have hdiv : (padded B).length / 64 = (padded B).length / 64 := rfl
  obtain ⟨wait2, hwl2, hwt2, hbk2⟩ := hm7
  have hst2 := blocks_ok (padded B) ((padded B).length / 64)
  have hfin : (blocks (padded B) ((padded B).length / 64)).flatMap (be 4) = sha B := rfl
  generalize blocks (padded B) ((padded B).length / 64) = S at hbk2 hst2 hfin
  obtain ⟨hS8, hSlt⟩ := hst2
  have hlt6 := hbk2.lt
  have hcS : Cells (w6.alloc (.cells Z.toArray 31)) ⟨w.heap.size + 1, 0, none⟩ (nv S) := (hbk2.cells.left.left).keep (heap_alloc_old _ _ hlt6)
  have hlS : (nv S).length = 8 := by rw [nv_length]; exact hS8
  have HS8 := Lib.hid hS8
  have HLS := Lib.hid hlS
  have HFIN := Lib.hid hfin
  have HR6 := Lib.hid hr6
  have HX6 := Lib.hid hx6
  clear hS8 hlS hfin hr6 hx6 hbk2 hwl2 hwt2 hdiv hpad hm6 hp5 hlt5 hnew5 hg6
  have ss : ∀ {n : Nat}, n = 8 → (Try.prog.info? 106).map (·.size) = some n := by rintro _ rfl; kernel_rfl
  go_wp2_with (first
    | (refine wpList_alloc _ rfl 31 rfl _ hz ?_)
    | (refine wpList_load_agg _ rfl 106 (.tmp 37) rfl _ rfl (nv S) _ Try.underlying106 rfl (ss HLS.out) hcS ?_)
    | fail)
  have hdb : Blk (w6.alloc (.cells Z.toArray 31)) w6.heap.size 31 Z := Blk.new _ _ _
  have hr7 : Blk (w6.alloc (.cells Z.toArray 31)) w.heap.size 31 Z := HR6.out.keep ((Ext.refl _).alloc _) (by simp)
  have hx7 : Ext w (w6.alloc (.cells Z.toArray 31)) := HX6.out.alloc _
  have hne : w.heap.size ≠ w6.heap.size := Nat.ne_of_lt HR6.out.lt
  have hdz : w.heap.size ≤ w6.heap.size := HX6.out.size
  clear hcS
  generalize hDB : w6.heap.size = DB at hdb hne hdz
  have HDB := Lib.hid hDB
  clear hDB
  go_loopw [39] (fun i wr => ∃ k : Nat, k ≤ 8 ∧ i = .int .i64 k ∧ Ext w wr ∧ Blk wr DB 31 (bv ((S.take k).flatMap (be 4) ++ List.replicate (32 - 4 * k) 0)) ∧ Blk wr w.heap.size 31 Z) (fun i _ => 8 - (intOf i).toNat)
  case atStart => exact ⟨0, by omega, rfl, hx7, by rw [show bv ((S.take 0).flatMap (be 4) ++ List.replicate (32 - 4 * 0) 0) = Z from HZ.out]; exact hdb, hr7⟩
  case round =>
    clear hx7 hdb hr7
    obtain ⟨k, hk, rfl, hx, hd, hr⟩ := hrel
    by_cases hlt : k < 8
    · obtain ⟨hcl, hcs⟩ := laid_step S k HS8.out hlt
      have hSk : (nv S)[k]? = some (Value.int .u32 ((S.getD k 0 : Nat) : Int)) := by
        have := HS8.out
        simp [nv, List.getD, List.getElem?_eq_getElem (show k < S.length by omega)]
      have hbd := getD_lt hSlt k
      generalize hcur : bv ((S.take k).flatMap (be 4) ++ List.replicate (32 - 4 * k) 0) = cur at hd hcl hcs
      generalize S.getD k 0 = x at hcs hSk hbd
      have HCS2 := Lib.hid hcs
      have HCL2 := Lib.hid hcl
      have HX := Lib.hid hx
      have HD := Lib.hid hd
      have HRR := Lib.hid hr
      have hu32 : (Try.prog.info? 23).map (·.size) = some 1 := by kernel_rfl
      have k1 : (0 : Int) ≤ 4 * (k : Int) := by omega
      have k2 : 4 * (k : Int) ≤ 32 := by omega
      have kw : IntKind.i64.wrap (4 * (k : Int)) = 4 * (k : Int) := by rw [IntKind.wrap_i64]; omega
      clear hcur hcs hcl hx hd hr
      go_wp2_with (first
        | (refine wpList_index (.inl rfl) 106 (.tmp 38) (.tmp 39) rfl (nv S) k 8 .i64 23 _ _ rfl rfl Try.underlying106 hlt Try.underlying23 rfl hu32 hSk ?_)
        | fail)
      have hb8 : Blk (wr.drew.alloc (.cells (bv (be 4 x)).toArray 5)) DB 31 cur := Blk.keep (w := wr.drew) HD.out ((Ext.refl _).alloc _) (by simp)
      go_region_held_law (fun _ => True) (trivial) (first
        | (go_at_call 53; refine (Four_i _ x _ rfl hbd).mono ?_; rintro e w7 ⟨rfl, rfl⟩)
        | (refine step_copyB rfl (.tmp 45) (.tmp 47) 55 55 rfl 5 Try.underlying55 (by kernel_rfl) DB (4 * k) (32 - 4 * k) (32 - 4 * k) rfl (some ⟨wr.heap.size, 0, none⟩) 4 4 rfl (be 4 x) (be_length _ _) (src_new wr.drew (bv (be 4 x)) 5 4) cur 31 hb8 4 (by omega) (by rw [HCL2.out]; omega) ?_; intro w8 hd8 hg8; rw [HCS2.out] at hd8))
      go_wp2
      go_roundw
      case rel =>
        have h1 : Ext w (wr.drew.alloc (.cells (bv (be 4 x)).toArray 5)) := HX.out.drew.alloc _
        have h2 : Blk (wr.drew.alloc (.cells (bv (be 4 x)).toArray 5)) w.heap.size 31 Z := Blk.keep (w := wr.drew) HRR.out ((Ext.refl _).alloc _) (by simp)
        exact ⟨k + 1, by omega, by go_num, grown_then h1 hg8 (.inr (by rintro _ ⟨⟩; exact hdz)), hd8, h2.keep hg8 (by simpa using hne)⟩
      case measure => simp [intOf]; omega
    · obtain rfl : k = 8 := by omega
      have e8 : (S.take 8).flatMap (be 4) ++ List.replicate (32 - 4 * 8) 0 = sha B := by rw [List.take_of_length_le (by rw [HS8.out]; exact Nat.le_refl _), HFIN.out]; simp
      rw [e8] at hd
      have hsl : (bv (sha B)).length = 32 := by rw [bv_length, ← HFIN.out, be_flat, HS8.out]
      have hzl : Z.length = 32 := by rw [← HZ.out, bv_length, List.length_replicate]
      have hso := bv_one (sha B)
      generalize hR : bv (sha B) = R at hd hsl hso
      have HR := Lib.hid hR
      clear hR
      have hcd := hd.cells
      have hrw : wr.heap[w.heap.size]? = some (.cells Z.toArray 31 (0, 0)) := hr
      have HSL := Lib.hid hsl
      have HZL := Lib.hid hzl
      have HX := Lib.hid hx
      clear e8 hsl hzl hx
      go_wp2_with (first
        | (refine wpList_load_agg _ rfl 31 (.tmp 6) rfl _ rfl R _ Try.underlying31 rfl (digest_size HSL.out) hcd ?_)
        | (refine wpList_store_row _ rfl 31 (.tmp 2) (.tmp 50) rfl w.heap.size rfl Z R _ rfl hrw (digest_size HSL.out) (by rw [HSL.out, HZL.out]) hso ?_)
        | fail)
      have hc : Cells (wr.setRow w.heap.size R.toArray) ⟨w.heap.size, 0, none⟩ R := Blk.cells (t := 31) (setRow_at hrw)
      (try simp only [Exit.inBlock, Exit.then])
      refine bodyPost_ret (results_agg rfl _ _ _ _ _ rfl Try.underlying31 rfl (digest_size HSL.out) hc) rfl ?_
      exact ⟨by rw [HR.out], setRow_grown HX.out _ _ (Nat.le_refl _)⟩
end
end Go.Proofs.Ytfoomnibfibfnaa

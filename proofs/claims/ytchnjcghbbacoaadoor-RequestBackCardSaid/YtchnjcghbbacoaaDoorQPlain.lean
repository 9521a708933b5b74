/- What is written of a request is read as it was; what is read has the very text; a turned letter is seen. No program in sight. Conditions: none but what each names. -/
import Derived.Test.YtchnjcghbbacoaaDoorQParseM
set_option linter.unusedVariables false
set_option linter.unusedSimpArgs false
set_option linter.unnecessarySimpa false
namespace Go.Proofs.YtchnjcghbbacoaaDoor

/-! ### The sum -/
theorem turnBy_xor (top x y : Nat) : ∀ k, turnBy top (x ^^^ y) k = turnBy top x k ^^^ y
  | 0 => rfl
  | k + 1 => by
    unfold turnBy
    rw [turnBy_xor top x y k]
    split
    · rw [Nat.xor_assoc, Nat.xor_comm y, ← Nat.xor_assoc]
    · rfl
theorem turnBy_zero (top x k : Nat) : turnBy top x k = turnBy top 0 k ^^^ x := by
  have h := turnBy_xor top 0 x k
  rwa [Nat.zero_xor] at h
theorem xor_mul32 (a b : Nat) : (a ^^^ b) * 32 = (a * 32) ^^^ (b * 32) := by
  have h : ∀ n : Nat, n * 32 = n <<< 5 := fun n => by rw [Nat.shiftLeft_eq]
  rw [h, h, h, Nat.shiftLeft_xor_distrib]
theorem xor_div (s d : Nat) (h : d < 33554432) : (s ^^^ d) / 33554432 = s / 33554432 := by
  have e : ∀ n : Nat, n / 33554432 = n >>> 25 := fun n => by rw [Nat.shiftRight_eq_div_pow]
  rw [e, Nat.shiftRight_xor_distrib, ← e, ← e, Nat.div_eq_of_lt h, Nat.xor_zero]
theorem xor_mod (s d : Nat) (h : d < 33554432) : (s ^^^ d) % 33554432 = (s % 33554432) ^^^ d := by
  have e := Nat.xor_mod_two_pow (a := s) (b := d) (n := 25)
  rw [show (2 : Nat) ^ 25 = 33554432 from rfl] at e
  rw [e, Nat.mod_eq_of_lt h]
theorem mul32_xor (d n : Nat) (h : n < 32) : (d * 32) ^^^ n = d * 32 + n := by
  have e := Nat.shiftLeft_add_eq_or_of_lt (i := 5) (b := n) h d
  rw [Nat.shiftLeft_eq, show (2 : Nat) ^ 5 = 32 from rfl] at e
  rw [e]
  apply Nat.eq_of_testBit_eq
  intro i
  rw [Nat.testBit_xor, Nat.testBit_or, show (32 : Nat) = 2 ^ 5 from rfl, Nat.testBit_mul_two_pow]
  by_cases hi : 5 ≤ i
  · rw [Nat.testBit_lt_two_pow (x := n) (i := i) (Nat.lt_of_lt_of_le h (show 2 ^ 5 ≤ 2 ^ i from Nat.pow_le_pow_right (by omega) hi))]
    simp
  · simp [hi]
theorem mixStep_moved (s d n : Nat) (hd : d < 33554432) (hn : n < 32) : mixStep (s ^^^ d) n = mixStep s 0 ^^^ (d * 32 + n) := by
  unfold mixStep
  rw [xor_div s d hd, xor_mod s d hd, xor_mul32, Nat.xor_zero, Nat.xor_assoc, mul32_xor d n hn, turnBy_xor]
/-- Six numbers of five bits as one. -/
def num32 (l : List Nat) : Nat := l.foldl (fun d n => d * 32 + n) 0
theorem mix_six (s : Nat) (l : List Nat) (h6 : l.length = 6) (hl : ∀ x ∈ l, x < 32) : mixFrom s l = mixFrom s (List.replicate 6 0) ^^^ num32 l := by
  match l, h6 with
  | [a, b, c, d, e, f], _ =>
    have ha := hl a (by simp)
    have hb := hl b (by simp)
    have hc := hl c (by simp)
    have hd := hl d (by simp)
    have he := hl e (by simp)
    have hf := hl f (by simp)
    show mixStep (mixStep (mixStep (mixStep (mixStep (mixStep s a) b) c) d) e) f = mixStep (mixStep (mixStep (mixStep (mixStep (mixStep s 0) 0) 0) 0) 0) 0 ^^^ (((((((0 * 32 + a) * 32 + b) * 32 + c) * 32 + d) * 32 + e) * 32) + f)
    have h0 : mixStep s a = mixStep s 0 ^^^ (0 * 32 + a) := by
      have h := mixStep_moved s 0 a (by decide) ha
      rwa [Nat.xor_zero] at h
    rw [h0, mixStep_moved _ _ _ (by omega) hb, mixStep_moved _ _ _ (by omega) hc, mixStep_moved _ _ _ (by omega) hd, mixStep_moved _ _ _ (by omega) he, mixStep_moved _ _ _ (by omega) hf]
theorem num32_six (S : Nat) (h : S < 1073741824) : num32 (sixOf S) = S := by
  show (((((((0 * 32 + S / 2 ^ (5 * (5 - 0)) % 32) * 32 + S / 2 ^ (5 * (5 - 1)) % 32) * 32 + S / 2 ^ (5 * (5 - 2)) % 32) * 32 + S / 2 ^ (5 * (5 - 3)) % 32) * 32 + S / 2 ^ (5 * (5 - 4)) % 32) * 32) + S / 2 ^ (5 * (5 - 5)) % 32) = S
  simp only [Nat.reduceMul, Nat.reduceSub, Nat.reducePow]
  omega
theorem six_num32 (l : List Nat) (h6 : l.length = 6) (hl : ∀ x ∈ l, x < 32) : sixOf (num32 l) = l := by
  match l, h6 with
  | [a, b, c, d, e, f], _ =>
    have ha := hl a (by simp)
    have hb := hl b (by simp)
    have hc := hl c (by simp)
    have hd := hl d (by simp)
    have he := hl e (by simp)
    have hf := hl f (by simp)
    show [num32 [a, b, c, d, e, f] / 2 ^ (5 * (5 - 0)) % 32, num32 [a, b, c, d, e, f] / 2 ^ (5 * (5 - 1)) % 32, num32 [a, b, c, d, e, f] / 2 ^ (5 * (5 - 2)) % 32, num32 [a, b, c, d, e, f] / 2 ^ (5 * (5 - 3)) % 32, num32 [a, b, c, d, e, f] / 2 ^ (5 * (5 - 4)) % 32, num32 [a, b, c, d, e, f] / 2 ^ (5 * (5 - 5)) % 32] = _
    have hN : num32 [a, b, c, d, e, f] = (((((((0 * 32 + a) * 32 + b) * 32 + c) * 32 + d) * 32 + e) * 32) + f) := rfl
    rw [hN]
    simp only [Nat.reduceMul, Nat.reduceSub, Nat.reducePow, List.cons.injEq, and_true]
    refine ⟨?_, ?_, ?_, ?_, ?_, ?_⟩ <;> omega
theorem sixOf_length (S : Nat) : (sixOf S).length = 6 := by simp [sixOf]
theorem num32_lt (l : List Nat) (h6 : l.length = 6) (hl : ∀ x ∈ l, x < 32) : num32 l < 1073741824 := by
  match l, h6 with
  | [a, b, c, d, e, f], _ =>
    have ha := hl a (by simp)
    have hb := hl b (by simp)
    have hc := hl c (by simp)
    have hd := hl d (by simp)
    have he := hl e (by simp)
    have hf := hl f (by simp)
    show (((((((0 * 32 + a) * 32 + b) * 32 + c) * 32 + d) * 32 + e) * 32) + f) < _
    omega
theorem mixM_app (l m : List Nat) : mixM (l ++ m) = mixFrom (mixM l) m := by simp [mixM, mixFrom, List.foldl_append]
theorem aheadK_lt : ∀ x ∈ aheadK, x < 32 := by decide
theorem ahead_lt {l : List Nat} (hl : ∀ x ∈ l, x < 32) : ∀ x ∈ aheadK ++ l, x < 32 := fun x hx => by
  rcases List.mem_append.1 hx with h | h
  · exact aheadK_lt x h
  · exact hl x h
theorem mixM_lt32 {l : List Nat} (hl : ∀ x ∈ l, x < 32) : mixM l < 1073741824 := mixM_lt l fun x hx => Nat.lt_trans (hl x hx) (by decide)
theorem mixM_zeros {l : List Nat} (hl : ∀ x ∈ l, x < 32) : mixM (aheadK ++ l ++ List.replicate 6 0) < 1073741824 := mixM_lt32 fun x hx => by
  rcases List.mem_append.1 hx with h | h
  · exact ahead_lt hl x h
  · rw [List.eq_of_mem_replicate h]; decide
theorem checkM_length (l : List Nat) : (checkM l).length = 6 := sixOf_length _
theorem checkM_lt (l : List Nat) : ∀ x ∈ checkM l, x < 32 := sixOf_lt _
/-- Behind the six numbers the sum is one. -/
theorem mix_check {l : List Nat} (hl : ∀ x ∈ l, x < 32) : mixM (aheadK ++ (l ++ checkM l)) = 1 := by
  rw [← List.append_assoc, mixM_app (aheadK ++ l) (checkM l), mix_six _ _ (checkM_length l) (checkM_lt l)]
  have h : num32 (checkM l) = mixM (aheadK ++ l ++ List.replicate 6 0) ^^^ 1 := num32_six _ (Nat.xor_lt_two_pow (n := 30) (mixM_zeros hl) (by decide))
  rw [h, mixM_app (aheadK ++ l) (List.replicate 6 0), ← Nat.xor_assoc, Nat.xor_self, Nat.zero_xor]
/-- .. and behind no other six. -/
theorem check_only {l m : List Nat} (h6 : m.length = 6) (hm : ∀ x ∈ m, x < 32) (h : mixM (aheadK ++ (l ++ m)) = 1) : m = checkM l := by
  rw [← List.append_assoc, mixM_app (aheadK ++ l) m, mix_six _ _ h6 hm] at h
  have e : num32 m = mixM (aheadK ++ l ++ List.replicate 6 0) ^^^ 1 := by
    rw [mixM_app (aheadK ++ l) (List.replicate 6 0), ← h, ← Nat.xor_assoc, Nat.xor_self, Nat.zero_xor]
  have := six_num32 m h6 hm
  rw [e] at this
  exact this.symm
theorem xor_left {a b c : Nat} (h : a ^^^ b = a ^^^ c) : b = c := by
  have := congrArg (a ^^^ ·) h
  simp only [← Nat.xor_assoc, Nat.xor_self, Nat.zero_xor] at this
  exact this
theorem xor_right {a b c : Nat} (h : b ^^^ a = c ^^^ a) : b = c := by
  rw [Nat.xor_comm b, Nat.xor_comm c] at h
  exact xor_left h
theorem turns_apart : ∀ a b : Fin 32, turnBy a.1 0 5 % 32 = turnBy b.1 0 5 % 32 → a = b := by decide +kernel
theorem mixStep_inj {s s' n : Nat} (hs : s < 1073741824) (hs' : s' < 1073741824) (h : mixStep s n = mixStep s' n) : s = s' := by
  unfold mixStep at h
  rw [turnBy_xor, turnBy_xor] at h
  have h := xor_right h
  rw [turnBy_zero, turnBy_zero _ (s' % 33554432 * 32)] at h
  have hm := congrArg (· % 32) h
  have e : ∀ a b : Nat, (a ^^^ (b * 32)) % 32 = a % 32 := fun a b => by
    have := Nat.xor_mod_two_pow (a := a) (b := b * 32) (n := 5)
    rw [show (2 : Nat) ^ 5 = 32 from rfl] at this
    rw [this, Nat.mul_mod_left, Nat.xor_zero]
  simp only [e] at hm
  have ht := turns_apart ⟨s / 33554432, by omega⟩ ⟨s' / 33554432, by omega⟩ hm
  have ht : s / 33554432 = s' / 33554432 := by simpa using ht
  rw [ht] at h
  have h := xor_left h
  omega
theorem mixStep_turned {s n m : Nat} (h : mixStep s n = mixStep s m) : n = m := by
  unfold mixStep at h
  rw [turnBy_xor, turnBy_xor] at h
  exact xor_left h
theorem mixFrom_inj : ∀ (l : List Nat) (s s' : Nat), (∀ x ∈ l, x < 32) → s < 1073741824 → s' < 1073741824 → mixFrom s l = mixFrom s' l → s = s'
  | [], _, _, _, _, _, h => h
  | a :: l, s, s', hl, hs, hs', h => by
    have ha : a < 2 ^ 30 := Nat.lt_trans (hl a (by simp)) (by decide)
    exact mixStep_inj hs hs' (mixFrom_inj l (mixStep s a) (mixStep s' a) (fun x hx => hl x (by simp [hx])) (mixStep_lt s a ha) (mixStep_lt s' a ha) h)
/-- One turned number turns the sum. -/
theorem mix_turned {l : List Nat} {j n : Nat} (hl : ∀ x ∈ l, x < 32) (hj : j < l.length) (hn : n < 32) (h : mixM (aheadK ++ l) = mixM (aheadK ++ l.set j n)) : l[j]? = some n := by
  have e1 : l = l.take j ++ l[j] :: l.drop (j + 1) := by rw [List.getElem_cons_drop, List.take_append_drop]
  have e2 : l.set j n = l.take j ++ n :: l.drop (j + 1) := by rw [List.set_eq_take_append_cons_drop, if_pos hj]
  have hx := hl l[j] (List.getElem_mem hj)
  rw [e2] at h
  conv at h => lhs; rw [e1]
  rw [← List.append_assoc, ← List.append_assoc, mixM_app (aheadK ++ l.take j) (l[j] :: l.drop (j + 1)), mixM_app (aheadK ++ l.take j) (n :: l.drop (j + 1))] at h
  have hs : mixM (aheadK ++ l.take j) < 1073741824 := mixM_lt32 (ahead_lt fun x hx => hl x (List.mem_of_mem_take hx))
  generalize mixM (aheadK ++ l.take j) = s at *
  have h2 : mixStep s l[j] = mixStep s n := mixFrom_inj (l.drop (j + 1)) _ _ (fun x hx => hl x (List.mem_of_mem_drop hx)) (mixStep_lt s _ (Nat.lt_trans hx (by decide))) (mixStep_lt s n (Nat.lt_trans hn (by decide))) h
  rw [List.getElem?_eq_getElem hj, mixStep_turned h2]
/-! ### Fives and eights -/
theorem bitsP_inj : ∀ (p q : List UInt8), bitsP p = bitsP q → p = q
  | [], [], _ => rfl
  | [], b :: q, h => by have := congrArg List.length h; rw [bitsP_length, bitsP_length] at this; simp at this
  | a :: p, [], h => by have := congrArg List.length h; rw [bitsP_length, bitsP_length] at this; simp at this
  | a :: p, b :: q, h => by
    have e1 : bitsP (a :: p) = bitsOf 8 a.toNat ++ bitsP p := rfl
    have e2 : bitsP (b :: q) = bitsOf 8 b.toNat ++ bitsP q := rfl
    rw [e1, e2] at h
    obtain ⟨h1, h2⟩ := List.append_inj h (by rw [bitsOf_length, bitsOf_length])
    rw [UInt8.toNat_inj.1 (bitsOf_inj 8 _ _ a.toNat_lt b.toNat_lt h1), bitsP_inj p q h2]
theorem Eights.back {l : List Nat} {p q : List UInt8} {ok : Bool} (h : Eights l p ok) (k : Fives (bitsP q) l) : p = q ∧ ok = true := by
  obtain ⟨n, r, hn, hr, he, rfl⟩ := h.bits
  obtain ⟨pad, hp, hk⟩ := k.bits
  rw [hk] at he
  have hlen := congrArg List.length he
  simp only [List.length_append, List.length_replicate, bitsP_length, bitsOf_length] at hlen
  obtain rfl : n = pad := by omega
  obtain ⟨h1, h2⟩ := List.append_inj he (by rw [bitsP_length, bitsP_length]; omega)
  rw [← bitsOf_zero n] at h2
  obtain rfl := bitsOf_inj n r 0 hr (Nat.two_pow_pos n) h2
  exact ⟨bitsP_inj p q h1, by simp [hp]⟩
theorem Eights.fives {l : List Nat} {p : List UInt8} (h : Eights l p true) (hl : ∀ x ∈ l, x < 32) : Fives (bitsP p) l := by
  obtain ⟨n, r, hn, hr, he, hok⟩ := h.bits
  simp only [Bool.true_eq, Bool.and_eq_true, decide_eq_true_eq] at hok
  obtain ⟨h5, rfl⟩ := hok
  rw [bitsOf_zero] at he
  exact ⟨hl, n, h5, he.symm⟩
/-! ### Letters -/
theorem letter_inj {a b : Nat} (ha : a < 32) (hb : b < 32) (h : letter a = letter b) : a = b := by
  have h1 := letter_index a ha
  rw [h, letter_index b hb] at h1
  omega
theorem letters_inj : ∀ (l m : List Nat), (∀ x ∈ l, x < 32) → (∀ x ∈ m, x < 32) → l.map letter = m.map letter → l = m
  | [], [], _, _, _ => rfl
  | [], b :: m, _, _, h => by simp at h
  | a :: l, [], _, _, h => by simp at h
  | a :: l, b :: m, hl, hm, h => by
    simp only [List.map_cons, List.cons.injEq] at h
    rw [letter_inj (hl a (by simp)) (hm b (by simp)) h.1, letters_inj l m (fun x hx => hl x (by simp [hx])) (fun x hx => hm x (by simp [hx])) h.2]
/-! ### Bytes -/
theorem beNum_consQ_aux (l : List UInt8) : ∀ a : Nat, l.foldl (fun n b => n * 256 + b.toNat) a = a * 256 ^ l.length + l.foldl (fun n b => n * 256 + b.toNat) 0 := by
  induction l with
  | nil => intro a; simp
  | cons x l ih =>
    intro a
    rw [List.foldl_cons, List.foldl_cons, ih (a * 256 + x.toNat), ih (0 * 256 + x.toNat), List.length_cons, Nat.pow_succ, Nat.zero_mul, Nat.zero_add, Nat.add_mul, Nat.mul_assoc, Nat.mul_comm 256, Nat.add_assoc]
theorem beNum_consQ (x : UInt8) (l : List UInt8) : beNum (x :: l) = x.toNat * 256 ^ l.length + beNum l := by
  show List.foldl _ _ (x :: l) = _
  rw [List.foldl_cons, beNum_consQ_aux, Nat.zero_mul, Nat.zero_add]; rfl
theorem beNum_beQ (k n : Nat) : beNum (be k n) = n % 256 ^ k := by
  induction k with
  | zero => simp [be, beNum, Nat.mod_one]
  | succ k ih =>
    rw [be, beNum_consQ, be_length, ih, UInt8.toNat_ofNat', show (2 : Nat) ^ 8 = 256 from rfl]
    have h : n % 256 ^ (k + 1) = n % 256 ^ k + 256 ^ k * (n / 256 ^ k % 256) := Nat.mod_pow_succ
    rw [h, Nat.mul_comm, Nat.add_comm]
theorem beNum_injQ : ∀ (x y : List UInt8), x.length = y.length → beNum x = beNum y → x = y
  | [], [], _, _ => rfl
  | [], b :: y, h, _ => by simp at h
  | a :: x, [], h, _ => by simp at h
  | a :: x, b :: y, h, hn => by
    rw [beNum_consQ, beNum_consQ, show x.length = y.length by simpa using h] at hn
    have h1 := beNum_lt x
    have h2 := beNum_lt y
    rw [show x.length = y.length by simpa using h] at h1
    have hp : 0 < 256 ^ y.length := Nat.pow_pos (by decide)
    have e : a.toNat = b.toNat := by
      have := congrArg (· / 256 ^ y.length) hn
      simp only [Nat.mul_comm _ (256 ^ y.length), Nat.mul_add_div hp, Nat.div_eq_of_lt h1, Nat.div_eq_of_lt h2, Nat.add_zero] at this
      exact this
    rw [e] at hn
    rw [UInt8.toNat_inj.1 e, beNum_injQ x y (by simpa using h) (by omega)]
theorem be_beNum (a : List UInt8) : be a.length (beNum a) = a := beNum_injQ _ _ (be_length _ _) (by rw [beNum_beQ, Nat.mod_eq_of_lt (beNum_lt a)])
theorem cutM_frontQ (a r : List UInt8) {n : Nat} (h : a.length = n) : cutM n (a ++ r, 0) = (a, (r, 0)) := by
  unfold cutM
  rw [if_neg (by simp), if_neg (by show ¬ (a ++ r).length < n; rw [List.length_append]; omega)]
  show ((a ++ r).take n, ((a ++ r).drop n, (0 : Int))) = _
  rw [List.take_left' h, List.drop_left' h]
theorem numM_frontQ (k n : Nat) (r : List UInt8) : numM k (be k n ++ r, 0) = (n % 256 ^ k, (r, 0)) := by
  unfold numM
  rw [cutM_frontQ _ _ (be_length k n), beNum_beQ]
theorem sumM_frontQ (a r : List UInt8) (h : a.length = 32) : sumM (a ++ r, 0) = (a, (r, 0)) := by
  unfold sumM
  rw [cutM_frontQ a r h]
  simp [h]
theorem blobM_frontQ (p r : List UInt8) (h : p.length ≤ 100) : blobM 100 (blob p ++ r, 0) = (p, (r, 0)) := by
  unfold blobM blob
  rw [List.append_assoc, numM_frontQ, Nat.mod_eq_of_lt (by omega), if_neg (by simp; omega)]
  exact cutM_frontQ _ _ rfl
theorem readM_bytes {r : Rq} (h : RqOk r) (hr : rightR r = true) : readM (bytesR r) = (r, 0) := by
  obtain ⟨to, am, ex, hash, note⟩ := r
  have ham := wf_ltQ h.am
  have hex := wf_ltQ h.ex
  have hh := h.hash
  simp only [rightR, Bool.and_eq_true, decide_eq_true_eq] at hr
  have hb : bytesR (to, am, ex, hash, note) = be 1 to.toNat ++ (be 8 am ++ (be 8 ex ++ (hash ++ (blob note.data.toList ++ [])))) := by
    simp [bytesR, be, noteL]
  have hn : note.data.toList.length ≤ 100 := by rw [Array.length_toList]; exact hr.2
  have hrr : rrM (bytesR (to, am, ex, hash, note)) = ((to, am, ex, hash, note), 0) := by
    unfold rrM
    rw [hb]
    dsimp only
    rw [numM_frontQ, numM_frontQ, numM_frontQ, sumM_frontQ _ _ hh, blobM_frontQ _ _ hn]
    dsimp only
    rw [Nat.mod_eq_of_lt (show am < 256 ^ 8 from ham), Nat.mod_eq_of_lt (show ex < 256 ^ 8 from hex), Nat.mod_eq_of_lt (show to.toNat < 256 ^ 1 from to.toNat_lt), UInt8.ofNat_toNat]
    rfl
  unfold readM
  rw [hrr]
  rw [if_neg (by simp), if_neg (by simp [rightR]; exact hr)]
theorem cutM_ok {n : Nat} {s : InS} (h : (cutM n s).2.2 = 0) : s.2 = 0 ∧ s.1 = (cutM n s).1 ++ (cutM n s).2.1 ∧ (cutM n s).1.length = n := by
  unfold cutM at h ⊢
  by_cases h1 : s.2 ≠ 0
  · rw [if_pos h1] at h; exact absurd h h1
  · rw [if_neg h1] at h ⊢
    by_cases h2 : s.1.length < n
    · rw [if_pos h2] at h; exact absurd h (by decide)
    · rw [if_neg h2]
      exact ⟨by omega, (List.take_append_drop n s.1).symm, by rw [List.length_take]; omega⟩
theorem numM_ok {n : Nat} {s : InS} (h : (numM n s).2.2 = 0) : s.2 = 0 ∧ s.1 = be n (numM n s).1 ++ (numM n s).2.1 := by
  obtain ⟨h1, h2, h3⟩ := cutM_ok (n := n) (s := s) h
  refine ⟨h1, ?_⟩
  have e : be n (numM n s).1 = (cutM n s).1 := by
    have := be_beNum (cutM n s).1
    rwa [h3] at this
  rw [e]; exact h2
theorem sumM_ok {s : InS} (h : (sumM s).2.2 = 0) : s.2 = 0 ∧ s.1 = (sumM s).1 ++ (sumM s).2.1 := by
  obtain ⟨h1, h2, h3⟩ := cutM_ok (n := 32) (s := s) h
  refine ⟨h1, ?_⟩
  show s.1 = ((cutM 32 s).1 ++ List.replicate (32 - (cutM 32 s).1.length) 0) ++ (cutM 32 s).2.1
  rw [h3]
  simpa using h2
theorem failM_bad {e : Int} (he : e ≠ 0) (s : InS) : (failM e s).2 ≠ 0 := by
  unfold failM
  split
  · exact he
  · rename_i h; intro h0; exact h ⟨h0, he⟩
theorem blobM_ok {s : InS} (h : (blobM 100 s).2.2 = 0) : s.2 = 0 ∧ s.1 = blob (blobM 100 s).1 ++ (blobM 100 s).2.1 ∧ (blobM 100 s).1.length ≤ 100 := by
  unfold blobM at h ⊢
  by_cases hc : (numM 4 s).2.2 = 0 ∧ ((100 : Int) < 0 ∨ min (100 : Int) 4096 < ((numM 4 s).1 : Int))
  · rw [if_pos hc] at h; exact absurd h (failM_bad (by decide) _)
  · rw [if_neg hc] at h ⊢
    obtain ⟨h1, h2, h3⟩ := cutM_ok h
    obtain ⟨h4, h5⟩ := numM_ok h1
    refine ⟨h4, ?_, ?_⟩
    · unfold blob
      rw [h3, List.append_assoc, ← h2]
      exact h5
    · rw [h3]
      have : ¬ min (100 : Int) 4096 < ((numM 4 s).1 : Int) := fun h => hc ⟨h1, .inr h⟩
      omega
theorem endM_ok {s : InS} (h : (endM s).2 = 0) : s.2 = 0 ∧ s.1 = [] := by
  unfold endM at h
  by_cases h1 : 0 < s.1.length
  · rw [if_pos h1] at h; exact absurd h (failM_bad (by decide) _)
  · rw [if_neg h1] at h
    exact ⟨h, List.length_eq_zero_iff.1 (by omega)⟩
theorem readM_ok {p : List UInt8} (h : (readM p).2 = 0) : bytesR (readM p).1 = p ∧ rightR (readM p).1 = true := by
  unfold readM at h ⊢
  by_cases h1 : (rrM p).2 ≠ 0
  · rw [if_pos h1] at h; exact absurd h h1
  rw [if_neg h1] at h ⊢
  by_cases h2 : rightR (rrM p).1 = false
  · rw [if_pos h2] at h; exact absurd h (by decide)
  rw [if_neg h2]
  refine ⟨?_, by simpa using h2⟩
  have h1 : (rrM p).2 = 0 := by simpa using h1
  have e5 := endM_ok h1
  have e4 := blobM_ok e5.1
  have e3 := sumM_ok e4.1
  have e2 := numM_ok e3.1
  have e1 := numM_ok e2.1
  have e0 := numM_ok e1.1
  have hp : p = be 1 (numM 1 (p, 0)).1 ++ (be 8 (numM 8 (numM 1 (p, 0)).2).1 ++ (be 8 (numM 8 (numM 8 (numM 1 (p, 0)).2).2).1 ++ ((sumM (numM 8 (numM 8 (numM 1 (p, 0)).2).2).2).1 ++ (blob (blobM 100 (sumM (numM 8 (numM 8 (numM 1 (p, 0)).2).2).2).2).1 ++ (blobM 100 (sumM (numM 8 (numM 8 (numM 1 (p, 0)).2).2).2).2).2.1)))) := by
    rw [← e4.2.1, ← e3.2, ← e2.2, ← e1.2, ← e0.2]
  rw [e5.2, List.append_nil] at hp
  refine Eq.trans ?_ hp.symm
  simp [bytesR, rrM, noteL, be]
end Go.Proofs.YtchnjcghbbacoaaDoor

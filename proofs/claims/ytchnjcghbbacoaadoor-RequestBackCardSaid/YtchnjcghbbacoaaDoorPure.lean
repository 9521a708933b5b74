/- Plain laws on bytes and numbers: no program, no world. No condition but what each names. -/
import Derived.PlainAid
set_option linter.unusedVariables false
set_option linter.unusedSimpArgs false
set_option linter.unnecessarySimpa false
namespace Go.Proofs.YtchnjcghbbacoaaDoor

/-- A number's bytes, the highest first. -/
def be : Nat → Nat → List UInt8
  | 0, _ => []
  | k + 1, n => UInt8.ofNat (n / 256 ^ k) :: be k n
theorem be_length : ∀ (k n : Nat), (be k n).length = k
  | 0, _ => rfl
  | k + 1, n => by simp [be, be_length k n]
/-- The first of them: all but the last j. -/
def beTop (size j n : Nat) : List UInt8 := (be size n).take (size - j)
theorem beTop_length (size j n : Nat) : (beTop size j n).length = size - j := by simp [beTop, be_length]
theorem be_get : ∀ (k n i : Nat), i < k → (be k n)[i]? = some (UInt8.ofNat (n / 256 ^ (k - 1 - i)))
  | 0, _, _, h => by omega
  | k + 1, n, 0, _ => by simp [be]
  | k + 1, n, i + 1, h => by
    rw [be, List.getElem?_cons_succ, be_get k n i (by omega)]
    rw [show k + 1 - 1 - (i + 1) = k - 1 - i by omega]
theorem beTop_step (size j n : Nat) (h0 : 0 < j) (hj : j ≤ size) : beTop size (j - 1) n = beTop size j n ++ [UInt8.ofNat (n / 256 ^ (j - 1))] := by
  unfold beTop
  rw [show size - (j - 1) = (size - j) + 1 by omega, List.take_add_one, be_get size n (size - j) (by omega), show size - 1 - (size - j) = j - 1 by omega]
  rfl
theorem be_byte (n j : Nat) : (n : Int) / 2 ^ (8 * (j - 1)) % 256 = ((UInt8.ofNat (n / 256 ^ (j - 1))).toNat : Int) := by
  rw [UInt8.toNat_ofNat', show (256 : Nat) ^ (j - 1) = 2 ^ (8 * (j - 1)) by rw [Nat.pow_mul], Int.natCast_emod, Int.natCast_ediv, Int.natCast_pow]
  rfl
theorem be_flat (k : Nat) (l : List Nat) : (l.flatMap (be k)).length = k * l.length := by
  induction l with
  | nil => rfl
  | cons a l ih => rw [List.flatMap_cons, List.length_append, ih, be_length, List.length_cons, Nat.mul_add]; omega
theorem flat_step {α β : Type} (f : α → List β) (l : List α) (k : Nat) (h : k < l.length) : (l.take (k + 1)).flatMap f = (l.take k).flatMap f ++ f l[k] := by
  rw [List.take_add_one, List.getElem?_eq_getElem h, Option.toList_some, List.flatMap_append, List.flatMap_singleton]
/-- A blob: how long, then the bytes. -/
def blob (p : List UInt8) : List UInt8 := be 4 p.length ++ p
theorem flat_len_step {α β : Type} (f : α → List β) (l : List α) (k : Nat) (h : k < l.length) : ((l.take k).flatMap f).length + (f l[k]).length ≤ (l.flatMap f).length := by
  have e : l.flatMap f = (l.take (k + 1)).flatMap f ++ (l.drop (k + 1)).flatMap f := by rw [← List.flatMap_append, List.take_append_drop]
  rw [e, flat_step f l k h, List.length_append, List.length_append]
  omega
theorem be_low (size j n : Nat) (h0 : 0 < j) (hj : j ≤ size) : (be size n).drop (j - 1) = UInt8.ofNat (n / 256 ^ (size - j)) :: (be size n).drop j := by
  have hl : j - 1 < (be size n).length := by rw [be_length]; omega
  rw [List.drop_eq_getElem_cons hl, show j - 1 + 1 = j by omega]
  congr 1
  have := be_get size n (j - 1) (by omega)
  rw [List.getElem?_eq_getElem hl] at this
  rw [Option.some.inj this, show size - 1 - (j - 1) = size - j by omega]
/-- A row that is filled from its end. -/
def beFill (size j n : Nat) : List UInt8 := List.replicate j 0 ++ (be size n).drop j
theorem beFill_length (size j n : Nat) (hj : j ≤ size) : (beFill size j n).length = size := by simp [beFill, be_length]; omega
theorem beFill_step (size j n : Nat) (h0 : 0 < j) (hj : j ≤ size) : (beFill size j n).set (j - 1) (UInt8.ofNat (n / 256 ^ (size - j))) = beFill size (j - 1) n := by
  unfold beFill
  rw [be_low size j n h0 hj]
  obtain ⟨k, rfl⟩ : ∃ k, j = k + 1 := ⟨j - 1, by omega⟩
  rw [List.replicate_succ', List.append_assoc, Nat.add_sub_cancel, List.set_append_right _ _ (by simp)]
  simp
theorem be_rest (n size j : Nat) (h0 : 0 < j) (hj : j ≤ size) : n / 256 ^ (size - j) / 256 = n / 256 ^ (size - (j - 1)) := by
  rw [Nat.div_div_eq_div_mul, show size - (j - 1) = size - j + 1 by omega, Nat.pow_succ]
theorem be_mod4 (n : Nat) : be 4 (n % 4294967296) = be 4 n := by
  have e : ∀ k, k < 4 → UInt8.ofNat (n % 4294967296 / 256 ^ k) = UInt8.ofNat (n / 256 ^ k) := by
    intro k hk
    apply UInt8.toNat_inj.1
    rw [UInt8.toNat_ofNat', UInt8.toNat_ofNat']
    match k, hk with
    | 0, _ => omega
    | 1, _ => omega
    | 2, _ => omega
    | 3, _ => omega
  simp only [be, e 3 (by omega), e 2 (by omega), e 1 (by omega), e 0 (by omega)]
/-- The number that bytes are. -/
def beNum (bs : List UInt8) : Nat := bs.foldl (fun n b => n * 256 + b.toNat) 0
theorem beNum_snoc (bs : List UInt8) (b : UInt8) : beNum (bs ++ [b]) = beNum bs * 256 + b.toNat := by simp [beNum, List.foldl_append]
theorem beNum_lt_aux : ∀ (n : Nat) (bs : List UInt8), bs.length = n → beNum bs < 256 ^ n
  | 0, bs, h => by obtain rfl := List.eq_nil_of_length_eq_zero h; simp [beNum]
  | n + 1, bs, h => by
    have hne : bs ≠ [] := by rintro rfl; simp at h
    have hl : bs.dropLast.length = n := by simp [h]
    have ih := beNum_lt_aux n bs.dropLast hl
    have e := List.dropLast_concat_getLast hne
    rw [← e, beNum_snoc, Nat.pow_succ]
    have := (bs.getLast hne).toNat_lt
    omega
theorem beNum_lt (bs : List UInt8) : beNum bs < 256 ^ bs.length := beNum_lt_aux _ bs rfl
theorem beNum_step (bs : List UInt8) (k : Nat) (h : k < bs.length) : beNum (bs.take (k + 1)) = beNum (bs.take k) * 256 + bs[k].toNat := by
  rw [List.take_add_one, List.getElem?_eq_getElem h, Option.toList_some, beNum_snoc]
end Go.Proofs.YtchnjcghbbacoaaDoor

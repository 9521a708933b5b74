/- Layer 4's keys and signatures on lists of bytes. No program in sight, no condition. -/
import Derived.Test.YtfoomnibfibfnaaOf
set_option linter.unusedVariables false
set_option linter.unusedSimpArgs false
set_option linter.unnecessarySimpa false
namespace Go.Proofs.Ytfoomnibfibfnaa

def byteN (n : Nat) : UInt8 := UInt8.ofNat n
/-- A secret, for a place and a value. -/
def secretM (seed : List UInt8) (n k b : Nat) : List UInt8 := (sha (textM 1 [seed, be 4 n, [byteN k, byteN b]])).take 16
/-- What a piece is known by. -/
def coverM (p : List UInt8) : List UInt8 := (sha (textM 5 [p])).take 16
def leafOf (all : List UInt8) : List UInt8 := sha (textM 2 [all])
def rowM (seed : List UInt8) (n k : Nat) : List UInt8 := coverM (secretM seed n k 0) ++ coverM (secretM seed n k 1)
def allM (seed : List UInt8) (n : Nat) : List UInt8 := (List.range 32).flatMap (rowM seed n)
def leafM (seed : List UInt8) (n : Nat) : List UInt8 := leafOf (allM seed n)
/-- One of a digest's first bits. -/
def bitM (d : List UInt8) (k : Nat) : Nat := (d.getD (k / 8) 0).toNat / 2 ^ (7 - k % 8) % 2
theorem bitM_lt (d : List UInt8) (k : Nat) : bitM d k < 2 := Nat.mod_lt _ (by decide)
theorem secretM_length (seed : List UInt8) (n k b : Nat) : (secretM seed n k b).length = 16 := by unfold secretM; rw [List.length_take, sha_length]; rfl
theorem coverM_length (p : List UInt8) : (coverM p).length = 16 := by unfold coverM; rw [List.length_take, sha_length]; rfl
theorem leafOf_length (a : List UInt8) : (leafOf a).length = 32 := sha_length _
theorem rowM_length (seed : List UInt8) (n k : Nat) : (rowM seed n k).length = 32 := by unfold rowM; rw [List.length_append, coverM_length, coverM_length]
/-- What a signature's piece k, with its other one, comes to for the leaf. -/
def rowFrom (b : Nat) (op ot : List UInt8) : List UInt8 := if b = 0 then coverM op ++ ot else ot ++ coverM op
/-- The open pieces, the other ones. -/
def openM (seed : List UInt8) (n : Nat) (d : List UInt8) (k : Nat) : List UInt8 := secretM seed n k (bitM d k)
def otherM (seed : List UInt8) (n : Nat) (d : List UInt8) (k : Nat) : List UInt8 := coverM (secretM seed n k (1 - bitM d k))
theorem row_back (seed : List UInt8) (n : Nat) (d : List UInt8) (k : Nat) : rowFrom (bitM d k) (openM seed n d k) (otherM seed n d k) = rowM seed n k := by
  have h := bitM_lt d k
  unfold rowFrom openM otherM rowM
  rcases Nat.eq_zero_or_pos (bitM d k) with h0 | h0
  · rw [if_pos h0, h0]
  · have h1 : bitM d k = 1 := by omega
    rw [if_neg (by omega), h1]
/-- A signature's piece k. -/
def pieceAt (s : List UInt8) (k : Nat) : List UInt8 := (s.drop (16 * k)).take 16
theorem pieceAt_length {s : List UInt8} {k : Nat} (h : 16 * k + 16 ≤ s.length) : (pieceAt s k).length = 16 := by unfold pieceAt; rw [List.length_take, List.length_drop]; omega
/-- What a key would be known by that signed a digest so: op, the open pieces, ot, the other ones. -/
def allFrom (op ot d : List UInt8) : List UInt8 := (List.range 32).flatMap fun k => rowFrom (bitM d k) (pieceAt op k) (pieceAt ot k)
def fromM (op ot d : List UInt8) : List UInt8 := leafOf (allFrom op ot d)
/-- Pieces, one behind the other. -/
def piecesM (f : Nat → List UInt8) (n : Nat) : List UInt8 := (List.range n).flatMap f
theorem piecesM_succ (f : Nat → List UInt8) (n : Nat) : piecesM f (n + 1) = piecesM f n ++ f n := by simp [piecesM, List.range_succ]
theorem piecesM_length {f : Nat → List UInt8} {m : Nat} (h : ∀ k, (f k).length = m) : ∀ n, (piecesM f n).length = m * n
  | 0 => by simp [piecesM]
  | n + 1 => by rw [piecesM_succ, List.length_append, piecesM_length h n, h, Nat.mul_succ]
theorem piecesM_split (f : Nat → List UInt8) {m : Nat} : ∀ {n : Nat}, m ≤ n → ∃ r, piecesM f n = piecesM f m ++ r
  | 0, h => by obtain rfl : m = 0 := by omega
               exact ⟨[], by simp⟩
  | n + 1, h => by
    by_cases e : m = n + 1
    · subst e; exact ⟨[], by simp⟩
    · obtain ⟨r, hr⟩ := piecesM_split f (show m ≤ n by omega)
      exact ⟨r ++ f n, by rw [piecesM_succ, hr, List.append_assoc]⟩
theorem pieceAt_pieces {f : Nat → List UInt8} (h : ∀ k, (f k).length = 16) {k n : Nat} (hk : k < n) : pieceAt (piecesM f n) k = f k := by
  obtain ⟨r, hr⟩ := piecesM_split f (show k + 1 ≤ n by omega)
  rw [hr, piecesM_succ, List.append_assoc, pieceAt, List.drop_left' (piecesM_length h k), List.take_left' (h k)]
/-- A signature leads to its key's leaf. -/
theorem from_back (seed : List UInt8) (n : Nat) (d : List UInt8) : fromM (piecesM (openM seed n d) 32) (piecesM (otherM seed n d) 32) d = leafM seed n := by
  unfold fromM leafM allFrom allM
  congr 1
  have h : ∀ l : List Nat, (∀ k ∈ l, k < 32) → l.flatMap (fun k => rowFrom (bitM d k) (pieceAt (piecesM (openM seed n d) 32) k) (pieceAt (piecesM (otherM seed n d) 32) k)) = l.flatMap (rowM seed n) := by
    intro l
    induction l with
    | nil => intro _; rfl
    | cons k l ih =>
      intro hl
      rw [List.flatMap_cons, List.flatMap_cons, ih (fun x hx => hl x (List.mem_cons_of_mem _ hx)), pieceAt_pieces (f := openM seed n d) (fun k => secretM_length _ _ _ _) (hl k (by simp)), pieceAt_pieces (f := otherM seed n d) (fun k => coverM_length _) (hl k (by simp)), row_back]
  exact h _ (fun k hk => by simpa using hk)
end Go.Proofs.Ytfoomnibfibfnaa

/- What the pact's functions compute, plain: no program, no world. No condition but what each names. -/
import Derived.PlainAid
set_option linter.unusedVariables false
set_option linter.unusedSimpArgs false
set_option linter.unnecessarySimpa false
namespace Go.Proofs.Ytemladlnpaaefaa

/-- A payment: number, side, amount, hash, expiry. -/
abbrev Cd := Nat × Int × Nat × List UInt8 × Nat × Unit
abbrev Cd.id (c : Cd) : Nat := c.1
abbrev Cd.side (c : Cd) : Int := c.2.1
abbrev Cd.am (c : Cd) : Nat := c.2.2.1
/-- A state. -/
structure St where
  chan : Nat
  round : Nat
  m0 : Nat
  m1 : Nat
  t0 : Nat
  t1 : Nat
  cs : List Cd
def St.zero : St := ⟨0, 0, 0, 0, 0, 0, []⟩
/-- A wish. -/
structure Wish where
  kind : Int
  am : Nat
  c : Cd
  id : Nat

def M64 : Nat := 18446744073709551616
def addM (a b : Nat) : Nat × Int := if a + b < M64 then (a + b, 0) else (0, 11)
def subM (a b : Nat) : Nat × Int := if a < b then (0, 12) else (a - b, 0)
/-- A sum, from a first one on. -/
def sumM : Nat → List Nat → Nat × Int
  | s, [] => (s, 0)
  | s, a :: l => if s + a < M64 then sumM (s + a) l else (0, 11)
def turnM (round : Nat) : Int := if round % 2 = 1 then 0 else 1
def findM (cs : List Cd) (id : Nat) : Int := if cs.any (fun c => c.1 == id) then (cs.findIdx (fun c => c.1 == id) : Nat) else -1
def ams (cs : List Cd) (side : Int) : List Nat := (cs.filter fun c => c.2.1 == side).map fun c => c.2.2.1
def heldM (cs : List Cd) (side : Int) : Nat × Int := sumM 0 (ams cs side)
def pick2 (a b : Nat) (side : Int) : Nat := if side = 0 then a else b
/-- What is left behind some are taken off. -/
def subL : Nat → List Nat → Nat × Int
  | n, [] => (n, 0)
  | n, a :: l => if n < a then (0, 12) else subL (n - a) l
def freeM (s : St) (p0 p1 : Nat) (side : Int) : Nat × Int :=
  if side = 0 ∨ side = 1 then
    if (heldM s.cs side).2 = 0 then
      if (sumM 0 [pick2 p0 p1 side, pick2 s.m1 s.m0 side]).2 = 0 then
        subL (sumM 0 [pick2 p0 p1 side, pick2 s.m1 s.m0 side]).1 [pick2 s.m0 s.m1 side, pick2 s.t0 s.t1 side, (heldM s.cs side).1]
      else (0, 11)
    else (0, 11)
  else (0, 1)
theorem sumM_cases : ∀ (l : List Nat) (n : Nat), n < M64 → (∃ m, m < M64 ∧ sumM n l = (m, 0)) ∨ sumM n l = (0, 11)
  | [], n, h => .inl ⟨n, h, rfl⟩
  | a :: l, n, h => by
    by_cases hov : n + a < M64
    · rw [sumM, if_pos hov]; exact sumM_cases l _ hov
    · rw [sumM, if_neg hov]; exact .inr rfl
theorem subL_cases : ∀ (l : List Nat) (n : Nat), n < M64 → (∃ m, m < M64 ∧ subL n l = (m, 0)) ∨ subL n l = (0, 12)
  | [], n, h => .inl ⟨n, h, rfl⟩
  | a :: l, n, h => by
    by_cases hov : n < a
    · rw [subL, if_pos hov]; exact .inr rfl
    · rw [subL, if_neg hov]; exact subL_cases l _ (by omega)
/-- What is wrong with the payments, from a place on; 0: nothing. -/
def badM (cs : List Cd) : Nat → List Cd → Int
  | _, [] => 0
  | i, c :: l => if (c.2.1 ≠ 0 ∧ c.2.1 ≠ 1) ∨ c.2.2.1 = 0 then 1 else if findM cs c.1 ≠ i then 7 else badM cs (i + 1) l
def soundM (s : St) (p0 p1 : Nat) : Int :=
  if 200 < s.round ∨ 8 < s.cs.length then 8
  else if badM s.cs 0 s.cs ≠ 0 then badM s.cs 0 s.cs
  else if (freeM s p0 p1 0).2 ≠ 0 then (freeM s p0 p1 0).2
  else (freeM s p0 p1 1).2
def spendM (s : St) (p0 p1 : Nat) (side : Int) (am : Nat) : Int :=
  if am = 0 then 1 else if (freeM s p0 p1 side).2 ≠ 0 then (freeM s p0 p1 side).2 else if (freeM s p0 p1 side).1 < am then 28 else 0
def actM (s : St) (p0 p1 : Nat) (side : Int) (o : Wish) : St × Int :=
  if o.kind = 0 then (s, 0)
  else if o.kind = 1 then
    if spendM s p0 p1 side o.am ≠ 0 then (.zero, spendM s p0 p1 side o.am)
    else if (addM (pick2 s.m0 s.m1 side) o.am).2 ≠ 0 then (.zero, 11)
    else (if side = 0 then { s with m0 := s.m0 + o.am } else { s with m1 := s.m1 + o.am }, 0)
  else if o.kind = 5 then
    if spendM s p0 p1 side o.am ≠ 0 then (.zero, spendM s p0 p1 side o.am)
    else if (addM (pick2 s.t0 s.t1 side) o.am).2 ≠ 0 then (.zero, 11)
    else (if side = 0 then { s with t0 := s.t0 + o.am } else { s with t1 := s.t1 + o.am }, 0)
  else if o.kind = 2 then
    if o.c.2.1 ≠ side then (.zero, 1)
    else if 0 ≤ findM s.cs o.c.1 then (.zero, 7)
    else if 8 ≤ s.cs.length then (.zero, 4)
    else if spendM s p0 p1 side o.c.2.2.1 ≠ 0 then (.zero, spendM s p0 p1 side o.c.2.2.1)
    else ({ s with cs := s.cs ++ [o.c] }, 0)
  else if o.kind = 3 ∨ o.kind = 4 then
    if findM s.cs o.id < 0 then (.zero, 6)
    else
      match s.cs[(findM s.cs o.id).toNat]? with
      | none => (.zero, 6)
      | some c =>
        if o.kind = 4 then ({ s with cs := s.cs.eraseIdx (findM s.cs o.id).toNat }, 0)
        else if (addM (pick2 s.m0 s.m1 c.2.1) c.2.2.1).2 ≠ 0 then (.zero, 11)
        else (if c.2.1 = 0 then { s with m0 := s.m0 + c.2.2.1, cs := s.cs.eraseIdx (findM s.cs o.id).toNat } else { s with m1 := s.m1 + c.2.2.1, cs := s.cs.eraseIdx (findM s.cs o.id).toNat }, 0)
  else (.zero, 33)
def nextM (s : St) (p0 p1 : Nat) (side : Int) (o : Wish) : St × Int :=
  if soundM s p0 p1 ≠ 0 then (.zero, soundM s p0 p1)
  else if 200 ≤ s.round then (.zero, 8)
  else if side ≠ turnM (s.round + 1) then (.zero, 26)
  else if (actM s p0 p1 side o).2 ≠ 0 then (.zero, (actM s p0 p1 side o).2)
  else if soundM { (actM s p0 p1 side o).1 with round := s.round + 1 } p0 p1 ≠ 0 then (.zero, soundM { (actM s p0 p1 side o).1 with round := s.round + 1 } p0 p1)
  else ({ (actM s p0 p1 side o).1 with round := s.round + 1 }, 0)
end Go.Proofs.Ytemladlnpaaefaa

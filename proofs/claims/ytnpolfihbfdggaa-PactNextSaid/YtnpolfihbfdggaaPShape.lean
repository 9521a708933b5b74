/- The shapes of payments and states in memory. No condition but what each names. -/
import Derived.Test.YtnpolfihbfdggaaPMoney
import Derived.Test.YtnpolfihbfdggaaByt
import Derived.Test.YtnpolfihbfdggaaQuiet
set_option linter.unusedVariables false
set_option linter.unusedSimpArgs false
set_option linter.unnecessarySimpa false
namespace Go.Proofs.Ytnpolfihbfdggaa
open Go.RowKit

def CondT : Ty := .st (.pair (.nat .u64) (.pair (.int .i64) (.pair (.nat .u64) (.pair (.arr 32 .u8) (.pair (.nat .u64) .unit)))))
/-- A payment's cells. -/
def condCells (c : Cd) : List Value := .int .u64 (c.1 : Int) :: .int .i64 c.2.1 :: .int .u64 (c.2.2.1 : Int) :: (bv c.2.2.2.1 ++ [.int .u64 (c.2.2.2.2.1 : Int)])
structure CondOk (c : Cd) : Prop where
  id : (Lit.int .u64 (c.1 : Int)).wf = true
  side : (Lit.int .i64 c.2.1).wf = true
  am : (Lit.int .u64 (c.2.2.1 : Int)).wf = true
  hash : c.2.2.2.1.length = 32
  exp : (Lit.int .u64 (c.2.2.2.2.1 : Int)).wf = true
theorem condT_iff {w : World} {F : Fp} {cs : List Value} {c : Cd} : CondT.holds w F cs c ↔ cs = condCells c ∧ CondOk c := by
  obtain ⟨i, b, a, h, e, u⟩ := c
  constructor
  · rintro ⟨_, _, rfl, ⟨rfl, w1⟩, _, _, rfl, ⟨rfl, w2⟩, _, _, rfl, ⟨rfl, w3⟩, _, _, rfl, ⟨hl, hb⟩, _, _, rfl, ⟨rfl, w5⟩, rfl⟩
    rw [AllH.bytes.1 hb]
    exact ⟨by simp [condCells], w1, w2, w3, hl, w5⟩
  · rintro ⟨rfl, w1, w2, w3, hl, w5⟩
    exact ⟨[_], _, rfl, ⟨rfl, w1⟩, [_], _, rfl, ⟨rfl, w2⟩, [_], _, rfl, ⟨rfl, w3⟩, bv h, _, rfl, ⟨hl, AllH.bytes.2 rfl⟩, [_], [], rfl, ⟨rfl, w5⟩, rfl⟩
theorem condCells_len {c : Cd} (h : CondOk c) : (condCells c).length = 36 := by simp [condCells, h.hash]
theorem condCells_one (c : Cd) : ∀ u ∈ condCells c, u.oneCell' = true := by
  intro u hu
  simp only [condCells, List.mem_cons, List.mem_append] at hu
  rcases hu with rfl | rfl | rfl | hu | rfl | hu
  · rfl
  · rfl
  · rfl
  · exact bv_one _ u hu
  · rfl
  · cases hu
theorem conds_iff {w : World} {F : Fp} : ∀ {l : List Cd} {xs : List Value}, AllH (CondT.holds w F) xs l ↔ xs = l.flatMap condCells ∧ ∀ c ∈ l, CondOk c
  | [], xs => by simp [AllH]
  | c :: l, xs => by
    constructor
    · rintro ⟨c1, c2, rfl, h1, h2⟩
      obtain ⟨rfl, ok⟩ := condT_iff.1 h1
      obtain ⟨rfl, oks⟩ := conds_iff.1 h2
      refine ⟨rfl, fun x hx => ?_⟩
      rcases List.mem_cons.1 hx with rfl | hx
      · exact ok
      · exact oks x hx
    · rintro ⟨rfl, ok⟩
      exact ⟨_, _, rfl, condT_iff.2 ⟨rfl, ok c (by simp)⟩, conds_iff.2 ⟨rfl, fun x hx => ok x (by simp [hx])⟩⟩
/-- Bounds of a state's numbers. -/
structure StOk (s : St) : Prop where
  chan : s.chan < 4294967296
  round : s.round < M64
  m0 : s.m0 < M64
  m1 : s.m1 < M64
  t0 : s.t0 < M64
  t1 : s.t1 < M64
/-- A state's value: its slice is v. -/
abbrev stv (s : St) (v : Value) : Value := .agg #[.int .u32 (s.chan : Int), .int .u64 (s.round : Int), .int .u64 (s.m0 : Int), .int .u64 (s.m1 : Int), .int .u64 (s.t0 : Int), .int .u64 (s.t1 : Int), v]
/-- The payments of a slice. -/
abbrev Conds (w : World) (F : Fp) (v : Value) (cs : List Cd) : Prop := (Ty.sl CondT).holds w F [v] cs
theorem conds_open {w : World} {F : Fp} {v : Value} {cs : List Cd} (h : Conds w F v cs) : ∃ (A : Option Addr) (c : Nat) (xs : List Value), v = .slice A (List.length (α := Cd) cs) c ∧ List.length (α := Cd) cs ≤ c ∧ c ≤ maxLen ∧ (A = none → c = 0) ∧ (0 < List.length (α := Cd) cs → ∃ ad, A = some ad ∧ F ad.block ∧ Cells w ad xs) ∧ AllH (CondT.holds w F) xs cs := by
  obtain ⟨A, c, xs, hv, h1, h2, h3, h4, h5⟩ := h
  cases hv
  exact ⟨A, c, xs, rfl, h1, h2, h3, fun h => h4 (by intro e; rw [e] at h; exact absurd h (Nat.lt_irrefl _)), h5⟩
/-- What is read of the payments: one, by its place. -/
theorem conds_at {w w' : World} {F : Fp} {xs : List Value} {l : List Cd} {ad : Addr} {k : Nat} (hall : AllH (CondT.holds w F) xs l) (hc : Cells w' ad xs) (hk : k < l.length) : Cells w' (ad.add (k * 36)) (condCells l[k]) ∧ CondOk l[k] := by
  have h := AllH.elem hall hk
  obtain ⟨h1, h2⟩ := condT_iff.1 h
  have e : CondT.size = 36 := rfl
  rw [e] at h1
  have h3 := (hc.drop (k * 36)).take 36
  rw [h1] at h3
  exact ⟨h3, h2⟩
theorem cond_size {n : Nat} (h : n = 36) : (Try.prog.info? 44).map (·.size) = some n := by subst h; kernel_rfl
theorem cond_zero : (Try.prog.info? 44).bind (fun i => i.zero.map (·.cells)) = some (condCells (0, 0, 0, List.replicate 32 0, 0, ())).toArray := by kernel_rfl
/-- The cells of one payment that lies in a block of its own. -/
theorem cond_block {w : World} {g : Nat} {c : Cd} (h : Blk w g 44 (condCells c)) : w.cell? ⟨g, 0, none⟩ = some (.int .u64 (c.1 : Int)) ∧ w.cell? ⟨g, 1, none⟩ = some (.int .i64 c.2.1) ∧ w.cell? ⟨g, 2, none⟩ = some (.int .u64 (c.2.2.1 : Int)) :=
  ⟨h.cell 0, h.cell 1, h.cell 2⟩
theorem src_new_at {w : World} {g : Nat} (hg : w.heap.size = g) (cs : List Value) (t : TypeId) (m : Nat) : Src (w.alloc (.cells cs.toArray t)) (some ⟨g, 0, none⟩) m cs := by
  subst hg; exact src_new w cs t m
end Go.Proofs.Ytnpolfihbfdggaa

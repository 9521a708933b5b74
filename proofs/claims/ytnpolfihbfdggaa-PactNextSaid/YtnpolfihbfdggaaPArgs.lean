/- The pact's arguments, opened: two numbers, a wish, a state. No condition but what each names. -/
import Derived.Test.YtnpolfihbfdggaaPLocks2
import Derived.Test.YtnpolfihbfdggaaOpen
set_option linter.unusedVariables false
set_option linter.unusedSimpArgs false
set_option linter.unnecessarySimpa false
namespace Go.Proofs.Ytnpolfihbfdggaa
open Go.RowKit

def PutT : Ty := .arr 2 (.nat .u64)
def WishT : Ty := .st (.pair (.int .i64) (.pair (.nat .u64) (.pair CondT (.pair (.nat .u64) .unit))))
def StT : Ty := .st (.pair (.nat .u32) (.pair (.nat .u64) (.pair (.arr 2 (.nat .u64)) (.pair (.arr 2 (.nat .u64)) (.pair (.sl CondT) .unit)))))
theorem agg_cells (cs : List Value) : (Value.agg cs.toArray).cells.toList = cs := by simp [Value.cells]
theorem two_open {W : World} {F : Fp} {cs : List Value} {x : List Nat} (h : (Ty.arr 2 (.nat .u64)).holds W F cs x) : ∃ a b : Nat, cs = [.int .u64 (a : Int), .int .u64 (b : Int)] ∧ a < M64 ∧ b < M64 := by
  obtain ⟨hl, ha⟩ := h
  match x, hl, ha with
  | [a, b], _, ha =>
    obtain ⟨_, _, rfl, ⟨rfl, w1⟩, _, _, rfl, ⟨rfl, w2⟩, rfl⟩ := ha
    exact ⟨a, b, rfl, M64_of w1, M64_of w2⟩
theorem put_open {W : World} {F : Fp} {cs : List Value} {x : PutT.Data} (h : PutT.holds W F (Value.agg cs.toArray).cells.toList x) : ∃ a b : Nat, cs = ptc a b ∧ a < M64 ∧ b < M64 := by
  rw [agg_cells] at h
  exact two_open h
theorem wish_holds {W : World} {F : Fp} {cs : List Value} {x : WishT.Data} (h : WishT.holds W F cs x) : ∃ o : Wish, cs = wishCells o ∧ CondOk o.c ∧ o.am < M64 ∧ o.id < M64 ∧ (Lit.int .i64 o.kind).wf = true := by
  obtain ⟨k, a, c, i, u⟩ := x
  obtain ⟨_, _, rfl, ⟨rfl, w1⟩, _, _, rfl, ⟨rfl, w2⟩, _, _, rfl, hc, _, _, rfl, ⟨rfl, w3⟩, rfl⟩ := h
  obtain ⟨rfl, hok⟩ := condT_iff.1 hc
  exact ⟨⟨k, a, c, i⟩, by simp [wishCells], hok, M64_of w2, M64_of w3, w1⟩
theorem wish_open {W : World} {F : Fp} {cs : List Value} {x : WishT.Data} (h : WishT.holds W F (Value.agg cs.toArray).cells.toList x) : ∃ o : Wish, cs = wishCells o ∧ CondOk o.c ∧ o.am < M64 ∧ o.id < M64 ∧ (Lit.int .i64 o.kind).wf = true := by
  rw [agg_cells] at h
  exact wish_holds h
theorem state_open {W : World} {F : Fp} {cs : List Value} {x : StT.Data} (h : StT.holds W F (Value.agg cs.toArray).cells.toList x) : ∃ (s : St) (v : Value), cs = stc s v ∧ StOk s ∧ Conds W F v s.cs := by
  rw [agg_cells] at h
  obtain ⟨ch, rd, mv, tk, cd, u⟩ := x
  obtain ⟨_, _, rfl, ⟨rfl, w1⟩, _, _, rfl, ⟨rfl, w2⟩, _, _, rfl, hm, _, _, rfl, ht, _, _, rfl, hc, rfl⟩ := h
  obtain ⟨a, b, rfl, ha, hb⟩ := two_open hm
  obtain ⟨c, d, rfl, hc', hd⟩ := two_open ht
  obtain ⟨A, cap, xs, rfl, hrest⟩ := hc
  exact ⟨⟨ch, rd, a, b, c, d, cd⟩, .slice A (List.length (α := CondT.Data) cd) cap, by simp [stc], ⟨by have h := bounds_u32 w1; show (ch : Nat) < 4294967296; exact Int.ofNat_lt.1 (by have := h.2; exact Int.lt_of_le_of_lt this (by decide)), M64_of w2, ha, hb, hc', hd⟩, ⟨A, cap, xs, rfl, hrest⟩⟩
end Go.Proofs.Ytnpolfihbfdggaa

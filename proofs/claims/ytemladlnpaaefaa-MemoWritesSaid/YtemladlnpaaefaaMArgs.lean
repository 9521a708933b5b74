/- A memo among a law's arguments: its cells and its parts. No condition. -/
import Derived.Test.YtemladlnpaaefaaMSizes2
import Derived.Test.YtemladlnpaaefaaOpen
set_option linter.unusedVariables false
set_option linter.unusedSimpArgs false
set_option linter.unnecessarySimpa false
namespace Go.Proofs.Ytemladlnpaaefaa
open Go.RowKit

def SigF : Ty := .st (.pair SigT (.pair (.nat .u32) (.pair (.sl DigT) .unit)))
def MemoT : Ty := .st (.pair (.int .i64) (.pair (.nat .u32) (.pair (.nat .u64) (.pair WishT18 (.pair (.sl HopT) (.pair SigF .unit))))))
theorem agg_cells18 (cs : List Value) : (Value.agg cs.toArray).cells.toList = cs := by simp [Value.cells]
theorem wish_holds18 {W : World} {F : Fp} {cs : List Value} {x : WishT18.Data} (h : WishT18.holds W F cs x) : ∃ o : Wish, cs = wishCells o ∧ CondOk o.c := by
  obtain ⟨k, a, c, i, u⟩ := x
  obtain ⟨_, _, rfl, ⟨rfl, w1⟩, _, _, rfl, ⟨rfl, w2⟩, _, _, rfl, hc, _, _, rfl, ⟨rfl, w3⟩, rfl⟩ := h
  obtain ⟨rfl, hok⟩ := condT_iff.1 hc
  exact ⟨⟨k, a, c, i⟩, by simp [wishCells], hok⟩
theorem sl_cell {W : World} {F : Fp} {t : Ty} {cs : List Value} {x : List t.Data} (h : (Ty.sl t).holds W F cs x) : ∃ v, cs = [v] := by
  obtain ⟨A, c, xs, rfl, _⟩ := h
  exact ⟨_, rfl⟩
theorem memo_open {W : World} {F : Fp} {cs : List Value} {x : MemoT.Data} (h : MemoT.holds W F (Value.agg cs.toArray).cells.toList x) :
    ∃ (kind : Int) (ch rd : Nat) (o : Wish) (tr : Value) (hs : List Hp) (C : List Value) (key : Nat) (u : Value) (ds : List Dg) (od : WishT18.Data) (sg : SigT.Data), cs = memoC kind ch rd (wishCells o) tr (sigC C key u) ∧ CondOk o.c ∧ C.length = 1024 ∧ (∀ u ∈ C, u.oneCell' = true) ∧ Hops W F tr hs ∧ Ways W F u ds ∧ WishT18.holds W F (wishCells o) od ∧ SigT.holds W F C sg := by
  rw [agg_cells18] at h
  obtain ⟨kind, ch, rd, od, hs, ⟨sg, key, ds, u1⟩, u2⟩ := x
  obtain ⟨_, _, rfl, ⟨rfl, _⟩, _, _, rfl, ⟨rfl, _⟩, _, _, rfl, ⟨rfl, _⟩, c1, _, rfl, ho, c2, _, rfl, hh, c3, _, rfl, hsg, rfl⟩ := h
  obtain ⟨C, _, rfl, hC, _, c4, rfl, ⟨rfl, _⟩, c5, _, rfl, hd, rfl⟩ := hsg
  obtain ⟨o, rfl, hok⟩ := wish_holds18 ho
  obtain ⟨tr, rfl⟩ := sl_cell hh
  obtain ⟨u, rfl⟩ := sl_cell hd
  refine ⟨kind, ch, rd, o, tr, hs, C, key, u, ds, od, sg, by simp [memoC, sigC], hok, Ty.len SigT hC, Ty.one SigT hC, hh, hd, ho, hC⟩
end Go.Proofs.Ytemladlnpaaefaa

/- The law PactKeeps holds. Conditions: the numbers are in their bounds. -/
import Derived.Test.YtnpolfihbfdggaaPKeeps
set_option linter.unusedVariables false
set_option linter.unusedSimpArgs false
set_option linter.unnecessarySimpa false
namespace Go.Proofs.Ytnpolfihbfdggaa
open Go.RowKit

theorem Keeps (p0 p1 : Nat) (v : Value) (ops : List WishT.Data) (w : World) (F : Fp) (hp0 : p0 < M64) (hp1 : p1 < M64) (hl : (Ty.sl WishT).holds w F [v] ops) (hF : ∀ b, F b → b < w.heap.size) :
    Calls Try.prog 4 #[.agg (ptc p0 p1).toArray, v] w fun e w' => e = .returned (.bool true) ∧ Ext w w' := by
  have hl0 := hl
  obtain ⟨A, c, xs, hv, _⟩ := hl0
  cases hv
  exact Keeps1 p0 p1 ops A c w F (ptc p0 p1) zst zop rfl hp0 hp1 hl hF state_zero rfl rop_zero rfl
end Go.Proofs.Ytnpolfihbfdggaa

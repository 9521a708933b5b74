/- The law PactWhole holds. Conditions: the numbers are in their bounds. -/
import Derived.Test.YtnpolfihbfdggaaPWhole
set_option linter.unusedVariables false
set_option linter.unusedSimpArgs false
set_option linter.unnecessarySimpa false
namespace Go.Proofs.Ytnpolfihbfdggaa
open Go.RowKit

theorem Whole (p0 p1 q0 q1 : Nat) (v dv : Value) (ops : List WishT.Data) (fl : List Bool) (w : World) (F : Fp) (hp0 : p0 < M64) (hp1 : p1 < M64) (hq0 : q0 < M64) (hq1 : q1 < M64) (hl : (Ty.sl WishT).holds w F [v] ops) (hd : (Ty.sl .bool).holds w F [dv] fl) (hF : ∀ b, F b → b < w.heap.size) :
    Calls Try.prog 8 #[.agg (ptc p0 p1).toArray, .agg (ptc q0 q1).toArray, v, dv] w fun e w' => e = .returned (.bool true) ∧ Ext w w' := by
  have hl0 := hl
  obtain ⟨A, c, xs, hv, _⟩ := hl0
  cases hv
  exact Whole1 p0 p1 q0 q1 ops fl A c dv w F (ptc p0 p1) (ptc q0 q1) zst zop rfl rfl hp0 hp1 hq0 hq1 hl hd hF state_zero rfl rop_zero rfl
end Go.Proofs.Ytnpolfihbfdggaa

/- Walks and plain laws, put together in build order. Conditions: what each of them names. -/
import Derived.Test.YtpdkmapogncgmaaW508a5981ff
set_option linter.unusedVariables false
set_option linter.unusedSimpArgs false
set_option linter.unnecessarySimpa false
namespace Go.Proofs.Ytpdkmapogncgmaa
section
open Go.RowKit

theorem KeysLaw (seed : List UInt8) (hs : seed.length = 32) (tall : Int) (htall : (Lit.int .i64 tall).wf = true) (ks : List Nat) (A1 : Option Addr) (n1 c1 : Nat) (qs : List UInt8) (A2 : Option Addr) (n2 c2 : Nat) (d : Dg) (hd : List.length (α := UInt8) d = 32) (Fa : Fp) (w : World)
    (hk : (Ty.sl (.nat .u32)).holds w Fa [.slice A1 n1 c1] ks) (hq : (Ty.sl .u8).holds w Fa [.slice A2 n2 c2] qs) (hF : ∀ b, Fa b → b < w.heap.size) :
    Calls Try.prog 6 #[.agg (bv seed).toArray, .int .i64 tall, .slice A1 n1 c1, .slice A2 n2 c2, .agg (bv d).toArray] w fun e w' => e = .returned (.bool true) ∧ Ext w w' := by
  by_cases hb : tall < 0 ∨ 3 < tall
  · exact KeysEarly seed tall htall hb _ _ (bv d) w hs
  obtain ⟨n, rfl⟩ : ∃ n : Nat, tall = n := ⟨tall.toNat, by omega⟩
  have hk0 := hk
  have hq0 := hq
  obtain ⟨A, c, xs, hv, -⟩ := hk0
  obtain ⟨A', c', ys, hv2, -⟩ := hq0
  simp only [List.cons.injEq, Value.slice.injEq, and_true] at hv hv2
  obtain ⟨rfl, rfl, rfl⟩ := hv
  obtain ⟨rfl, rfl, rfl⟩ := hv2
  exact KeysAll seed hs n (by omega) ks A1 c1 qs A2 c2 d hd Fa w hk hq hF
end
end Go.Proofs.Ytpdkmapogncgmaa

/- What the law PactLocks needs of the model. Conditions: the numbers are in their bounds. -/
import Derived.Test.YtnpolfihbfdggaaPTo
import Derived.Test.YtnpolfihbfdggaaField
import Derived.Test.YtnpolfihbfdggaaMono3
set_option linter.unusedVariables false
set_option linter.unusedSimpArgs false
set_option linter.unnecessarySimpa false
namespace Go.Proofs.Ytnpolfihbfdggaa
open Go.RowKit

theorem sharedL {Q : Prop} {A : Nat → List Value → World → Prop} (J : Nat → List Value → World → Prop) (h1 : (∀ g u w, J g u w → A g u w) → Q) (h2 : ∀ g u w, J g u w → A g u w) : Q := h1 h2
theorem NJ.step {w0 W W' : World} {Z : List Value} {al : Option Nat} {u : Value} {cs : List Cd} (h : NJ w0 Z al W u cs) (hx : Ext W W') : NJ w0 Z al W' u cs ∧ KeepB (fun b => b < w0.heap.size) W W' :=
  ⟨⟨h.ext.trans hx, fun g hg => ⟨(h.blk g hg).1, (h.blk g hg).2.keep hx (by simp)⟩, h.own.ext hx, h.far⟩, fun b hb => hx.block b (Nat.lt_of_lt_of_le hb h.ext.size) (by simp)⟩
theorem rop_size {n : Nat} (h : n = 39) : (Try.prog.info? 32).map (·.size) = some n := by subst h; kernel_rfl
theorem op_field2 : ∃ fields f d, Try.prog.underlying 46 = some (.struct fields) ∧ fields[2]? = some f ∧ f.offset = 2 ∧ Try.prog.underlying f.type = some d ∧ isAggD d = true ∧ (Try.prog.info? f.type).map (·.size) = some 36 :=
  ⟨_, _, _, Try.underlying46, rfl, rfl, Try.underlying44, rfl, by kernel_rfl⟩
def s1 : St := { St.zero with chan := 1 }
def S1 : List Value := stc s1 (.slice none 0 0)
/-- A payment that is the left side's. -/
def leftC (c : Cd) : Cd := (c.1, 0, c.2.2)
theorem leftC_ok {c : Cd} (h : CondOk c) : CondOk (leftC c) := ⟨h.id, (by decide : (Lit.int .i64 0).wf = true), h.am, h.hash, h.exp⟩
structure LocksIn (PC OC DC C OL Z ZO : List Value) : Prop where
  z : (Try.prog.info? 36).bind (fun i => i.zero.map (·.cells)) = some Z.toArray
  zo : (Try.prog.info? 46).bind (fun i => i.zero.map (·.cells)) = some ZO.toArray
  pl : PC.length = 2
  dl : DC.length = 39
  zl : Z.length = 7
  piece : (DC.drop 2).take 36 = C
  fill : fillL ([(0, 1), (1, 1), (2, 36), (38, 1)].toArray[·]?) ZO [(0, [.int .i64 2]), (2, C)] = some OL
  op : ∀ W, Calls Try.prog 12 #[.agg DC.toArray] W fun e w' => e = .returned (.agg DC.toArray) ∧ Ext W w'
  set : OC.set 3 (.int .i64 0) = DC
  o3 : ∃ v, OC[3]? = some v
/-- What comes behind a payment that was laid. -/
structure LocksT (done : Bool) (PC DC Z ZO : List Value) (n : St) (z2 : Int) (n2 : St) (kd : Int) (id am : Nat) (OK : List Value) : Prop where
  ekd : kd = if done then 3 else 4
  len : List.length (α := Cd) n.cs = 1
  fill : fillL ([(0, 1), (1, 1), (2, 36), (38, 1)].toArray[·]?) ZO [(0, [.int .i64 kd]), (3, [.int .u64 (id : Int)])] = some OK
  nx : ∀ (W : World) (v : Value), OwnC W v n.cs → Calls Try.prog 11 #[.agg (stc n v).toArray, .agg PC.toArray, .int .i64 1, .agg OK.toArray] W fun e w' => ∃ (R : List Value) (v2 : Value), e = .returned (.tuple #[.agg R.toArray, .int .i64 z2]) ∧ R = stc n2 v2 ∧ OwnC w' v2 n2.cs ∧ Ext W w'
  held : ∀ (W : World) (v : Value), OwnC W v n.cs → Calls Try.prog 21 #[.agg (stc n v).toArray, .int .i64 0] W fun e w' => e = .returned (.tuple #[.int .u64 (am : Int), .int .i64 0]) ∧ Ext W w'
  same : z2 = 0 → ∀ (W : World) (v : Value), OwnC W v n2.cs → Calls Try.prog 28 #[.agg (stc n2 v).toArray, .agg (stc { s1 with round := 2, m0 := if done then am else 0 } (.slice none 0 0)).toArray] W fun e w' => e = .returned (.bool true) ∧ Ext W w'
  o2 : DC[2]? = some (.int .u64 (id : Int))
  o4 : DC[4]? = some (.int .u64 (am : Int))
  eam : am < M64
  f : z2 ≠ 0 → done = true ∧ z2 = 11
abbrev LocksTail (done : Bool) (PC DC Z ZO : List Value) (n : St) : Prop := ∃ z2 n2 kd id am OK, LocksT done PC DC Z ZO n z2 n2 kd id am OK
end Go.Proofs.Ytnpolfihbfdggaa

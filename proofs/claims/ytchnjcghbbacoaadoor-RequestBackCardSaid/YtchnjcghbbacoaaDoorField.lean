/- A field of a struct's value that is held as a list of cells. No condition but what each names. -/
import Derived.Test.YtchnjcghbbacoaaDoorQuiet
set_option linter.unusedVariables false
set_option linter.unusedSimpArgs false
set_option linter.unnecessarySimpa false
namespace Go.Proofs.YtchnjcghbbacoaaDoor
open Go.RowKit

section
variable {P : Program}
theorem run_isAgg {t : TypeId} {d : TypeDesc} (hu : P.underlying t = some d) (w : World) : (isAgg t).run P w = .ok (isAggD d) w := by
  unfold isAgg
  rw [Sem.run_bind, run_underlying hu w]
  cases d <;> simp [isAggD]
theorem run_field_agg (t : TypeId) (n off m : Nat) (cs piece : List Value) (w : World)
    (hf : ∃ fields f d, P.underlying t = some (.struct fields) ∧ fields[n]? = some f ∧ f.offset = off ∧ P.underlying f.type = some d ∧ isAggD d = true ∧ (P.info? f.type).map (·.size) = some m)
    (hp : (cs.drop off).take m = piece) : (Instr.field t (.agg cs.toArray) n).run P w = .ok (.agg piece.toArray) w := by
  obtain ⟨fields, f, d, hu, hf, rfl, hd, ha, hi⟩ := hf
  obtain ⟨i, hi2, rfl⟩ := Option.map_eq_some_iff.1 hi
  clear hi
  unfold Instr.field
  rw [Sem.run_bind, run_underlying hu w]
  simp only [Result.andThen_ok, hf, asAgg, Sem.run_bind, Sem.run_pure, part, run_isAgg hd, ha, if_true, sizeOf, typeInfo, run_program, hi2]
  rw [← hp]
  simp
theorem run_field_cell (t : TypeId) (n off : Nat) (cs : List Value) (v : Value) (w : World)
    (hf : ∃ fields f d, P.underlying t = some (.struct fields) ∧ fields[n]? = some f ∧ f.offset = off ∧ P.underlying f.type = some d ∧ isAggD d = false)
    (hp : cs[off]? = some v) : (Instr.field t (.agg cs.toArray) n).run P w = .ok v w := by
  obtain ⟨fields, f, d, hu, hf, rfl, hd, ha⟩ := hf
  unfold Instr.field
  rw [Sem.run_bind, run_underlying hu w]
  simp [Result.andThen_ok, hf, asAgg, Sem.run_bind, Sem.run_pure, part, run_isAgg hd, ha, hp]
theorem quiet_field {C : World → Prop} {o : Oper} {a : Act} {K : Act → Prop} (t : TypeId) (x : Operand) (n : Nat) (ho : o.op = .field t x n) (off m : Nat) (cs piece : List Value)
    (hf : ∃ fields f d, P.underlying t = some (.struct fields) ∧ fields[n]? = some f ∧ f.offset = off ∧ P.underlying f.type = some d ∧ isAggD d = true ∧ (P.info? f.type).map (·.size) = some m)
    (hx : a.eval x = .agg cs.toArray) (hp : (cs.drop off).take m = piece) (h : K (a.put o.dst (.agg piece.toArray))) : o.quiet P a C K :=
  quiet_run _ (fun w _ => by
    unfold execOp
    simp only [ho, hx, Sem.run_bind, run_field_agg t n off m cs piece w hf hp, Result.andThen_ok, Sem.run_pure]) h
theorem quiet_fieldCell {C : World → Prop} {o : Oper} {a : Act} {K : Act → Prop} (t : TypeId) (x : Operand) (n : Nat) (ho : o.op = .field t x n) (off : Nat) (cs : List Value) (v : Value)
    (hf : ∃ fields f d, P.underlying t = some (.struct fields) ∧ fields[n]? = some f ∧ f.offset = off ∧ P.underlying f.type = some d ∧ isAggD d = false)
    (hx : a.eval x = .agg cs.toArray) (hp : cs[off]? = some v) (h : K (a.put o.dst v)) : o.quiet P a C K :=
  quiet_run _ (fun w _ => by
    unfold execOp
    simp only [ho, hx, Sem.run_bind, run_field_cell t n off cs v w hf hp, Result.andThen_ok, Sem.run_pure]) h
theorem wpList_field {w : World} {ops : Array Oper} {rest : List Oper} {o : Oper} {a : Act} {Q : Exit → Act → World → Prop} (hgd : o.guard = none ∨ Region.wanted o (yielded ops a.tmps) = true) (t : TypeId) (x : Operand) (n : Nat) (ho : o.op = .field t x n) (off m : Nat) (cs piece : List Value)
    (hf : ∃ fields f d, P.underlying t = some (.struct fields) ∧ fields[n]? = some f ∧ f.offset = off ∧ P.underlying f.type = some d ∧ isAggD d = true ∧ (P.info? f.type).map (·.size) = some m)
    (hx : a.eval x = .agg cs.toArray) (hp : (cs.drop off).take m = piece) (h : wpList P ops Q rest (a.put o.dst (.agg piece.toArray)) w) : wpList P ops Q (o :: rest) a w :=
  wpList_want hgd fun K hK => by
    unfold Oper.wp execOp
    simp only [ho, hx, Sem.run_bind, run_field_agg t n off m cs piece w hf hp, Result.andThen_ok, Sem.run_pure]
    exact hK _ _ h
theorem wpList_fieldCell {w : World} {ops : Array Oper} {rest : List Oper} {o : Oper} {a : Act} {Q : Exit → Act → World → Prop} (hgd : o.guard = none ∨ Region.wanted o (yielded ops a.tmps) = true) (t : TypeId) (x : Operand) (n : Nat) (ho : o.op = .field t x n) (off : Nat) (cs : List Value) (v : Value)
    (hf : ∃ fields f d, P.underlying t = some (.struct fields) ∧ fields[n]? = some f ∧ f.offset = off ∧ P.underlying f.type = some d ∧ isAggD d = false)
    (hx : a.eval x = .agg cs.toArray) (hp : cs[off]? = some v) (h : wpList P ops Q rest (a.put o.dst v) w) : wpList P ops Q (o :: rest) a w :=
  wpList_want hgd fun K hK => by
    unfold Oper.wp execOp
    simp only [ho, hx, Sem.run_bind, run_field_cell t n off cs v w hf hp, Result.andThen_ok, Sem.run_pure]
    exact hK _ _ h
/-- A load of a whole struct or array, perhaps guarded. -/
theorem wpList_loadG {w : World} {ops : Array Oper} {rest : List Oper} {o : Oper} {a : Act} {Q : Exit → Act → World → Prop} (hgd : o.guard = none ∨ Region.wanted o (yielded ops a.tmps) = true) (ty : TypeId) (x : Operand) (ho : o.op = .load ty x) (ad : Addr) (hx : a.eval x = .pointer (some ad)) (cs : List Value) (d : TypeDesc) (hu : P.underlying ty = some d) (hd : isAggD d = true) (hi : (P.info? ty).map (·.size) = some cs.length) (hc : Cells w ad cs)
    (h : wpList P ops Q rest (a.put o.dst (.agg cs.toArray)) w) : wpList P ops Q (o :: rest) a w :=
  wpList_want hgd fun K hK => by
    unfold Oper.wp execOp
    simp only [ho, hx, Instr.loadAt, Instr.sureAddr, Sem.run_bind, Sem.run_pure, Result.andThen_ok, run_load_agg w ty ad cs d hu hd hi hc]
    exact hK _ _ h
/-- A load of one cell. -/
theorem wpList_cell {w : World} {ops : Array Oper} {rest : List Oper} {o : Oper} {a : Act} {Q : Exit → Act → World → Prop} (hgd : o.guard = none ∨ Region.wanted o (yielded ops a.tmps) = true) (ty : TypeId) (x : Operand) (ho : o.op = .load ty x) (ad : Addr) (hx : a.eval x = .pointer (some ad)) (v : Value) (d : TypeDesc) (hu : P.underlying ty = some d) (hd : isAggD d = false) (hc : w.cell? ad = some v)
    (h : wpList P ops Q rest (a.put o.dst v) w) : wpList P ops Q (o :: rest) a w :=
  wpList_want hgd fun K hK => by
    unfold Oper.wp execOp
    simp only [ho, hx, Sem.run_bind, run_load_one ty ad v d hu hd hc, Sem.run_pure, Result.andThen_ok]
    exact hK _ _ h
end
end Go.Proofs.YtchnjcghbbacoaaDoor

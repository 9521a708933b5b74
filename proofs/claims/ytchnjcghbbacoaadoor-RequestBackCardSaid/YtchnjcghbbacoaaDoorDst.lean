/- Guards for arms: which operation is it? No condition. -/
import Derived.Test.YtchnjcghbbacoaaDoorLaws
set_option linter.unusedVariables false
set_option linter.unusedSimpArgs false
set_option linter.unnecessarySimpa false
namespace Go.Proofs.YtchnjcghbbacoaaDoor
open Go.RowKit

/-- Is it the operation that fills this slot? (Ahead of an arm, 'with_reducible'.) -/
theorem wpDst {P : Program} {w : World} {ops : Array Oper} {rest : List Oper} {o : Oper} {a : Act} {Q : Exit → Act → World → Prop} (n : Nat) (_ : o.dst = some n) (h : wpList P ops Q (o :: rest) a w) : wpList P ops Q (o :: rest) a w := h
/-- Is it the store of this slot at that one? -/
theorem wpSto {P : Program} {w : World} {ops : Array Oper} {rest : List Oper} {o : Oper} {a : Act} {Q : Exit → Act → World → Prop} {ty : TypeId} (p x : Nat) (_ : o.op = .store ty (.tmp p) (.tmp x)) (h : wpList P ops Q (o :: rest) a w) : wpList P ops Q (o :: rest) a w := h
/-- A load of a whole struct or array, named by the slot that it fills. -/
theorem wpList_loadD {P : Program} {w : World} {ops : Array Oper} {rest : List Oper} {o : Oper} {a : Act} {Q : Exit → Act → World → Prop} (dst : Nat) (hdst : o.dst = some dst) (hgd : o.guard = none) (ty : TypeId) (x : Operand) (ho : o.op = .load ty x)
    (ad : Addr) (hx : a.eval x = .pointer (some ad)) (cs : List Value) (d : TypeDesc) (hu : P.underlying ty = some d) (hd : isAggD d = true) (hi : (P.info? ty).map (·.size) = some cs.length) (hc : Cells w ad cs)
    (h : wpList P ops Q rest (a.put o.dst (.agg cs.toArray)) w) : wpList P ops Q (o :: rest) a w := wpList_load_agg w hgd ty x ho ad hx cs d hu hd hi hc h
/-- A store into the variable that was made last. -/
theorem wpList_storeN {P : Program} {w : World} {ops : Array Oper} {rest : List Oper} {o : Oper} {a : Act} {Q : Exit → Act → World → Prop} (hgd : o.guard = none) (ty : TypeId) (p x : Operand) (ho : o.op = .store ty p x)
    (w0 : World) (hp : a.eval p = .pointer (some ⟨w0.heap.size, 0, none⟩)) (old cs : List Value) (t : TypeId) (hw : w = w0.alloc (.cells old.toArray t)) (hx : a.eval x = .agg cs.toArray)
    (hi : (P.info? ty).map (·.size) = some cs.length) (hl : cs.length = old.length) (h1 : ∀ u ∈ cs, u.oneCell' = true)
    (h : wpList P ops Q rest (a.put o.dst undef) (w0.alloc (.cells cs.toArray t))) : wpList P ops Q (o :: rest) a w := by
  subst hw
  refine wpList_store_row _ hgd ty p x ho w0.heap.size hp old cs t hx (heap_alloc_new w0 _) hi hl h1 ?_
  rw [setRow_new w0 (.cells old.toArray t) old.toArray cs.toArray t rfl]
  exact h
end Go.Proofs.YtchnjcghbbacoaaDoor

/- Equality of described structs and arrays, as a step of a walk. No condition but what each names. -/
import Derived.Test.YtchnjcghbbacoaaDoorEq
import Derived.Test.YtchnjcghbbacoaaDoorQuiet
set_option linter.unusedVariables false
set_option linter.unusedSimpArgs false
set_option linter.unnecessarySimpa false
namespace Go.Proofs.YtchnjcghbbacoaaDoor
open Go.RowKit
section
variable {P : Program} {C : World → Prop} {o : Oper} {a : Act} {K : Act → Prop}
theorem quiet_eqTy (ty : Ty) (t t' : TypeId) (x y : Operand) (ho : o.op = .binOp .eql t x y t') (hf : (ty.eqFits P).1 t = true) (hd : ty.deep ≤ 10000) (hg : P.eqGuardType P.depth t = false) (hv : ∀ cs, ty.val cs = .agg cs.toArray)
    {W1 W2 : World} {F1 F2 : Fp} (cs ds : List Value) (d1 d2 : ty.Data) (hx : a.eval x = .agg cs.toArray) (hy : a.eval y = .agg ds.toArray) (h1 : ty.holds W1 F1 cs d1) (h2 : ty.holds W2 F2 ds d2) (hk : K (a.put o.dst (.bool (ty.eqv d1 d2)))) : o.quiet P a C K :=
  quiet_run _ (fun w _ => by
    unfold execOp
    simp only [ho, hx, hy, Sem.run_bind, run_eqGuard w .eql t x y _ _ (.inl rfl) hg, run_eqTy ty t hf hd w W1 W2 F1 F2 cs ds d1 d2 h1 h2 hv, Result.andThen_ok, Sem.run_pure]) hk
theorem quiet_neTy (ty : Ty) (t t' : TypeId) (x y : Operand) (ho : o.op = .binOp .neq t x y t') (hf : (ty.eqFits P).1 t = true) (hd : ty.deep ≤ 10000) (hg : P.eqGuardType P.depth t = false) (hv : ∀ cs, ty.val cs = .agg cs.toArray)
    {W1 W2 : World} {F1 F2 : Fp} (cs ds : List Value) (d1 d2 : ty.Data) (hx : a.eval x = .agg cs.toArray) (hy : a.eval y = .agg ds.toArray) (h1 : ty.holds W1 F1 cs d1) (h2 : ty.holds W2 F2 ds d2) (hk : K (a.put o.dst (.bool (!ty.eqv d1 d2)))) : o.quiet P a C K :=
  quiet_run _ (fun w _ => by
    unfold execOp
    simp only [ho, hx, hy, Sem.run_bind, run_eqGuard w .neq t x y _ _ (.inr rfl) hg, run_neTy ty t hf hd w W1 W2 F1 F2 cs ds d1 d2 h1 h2 hv, Result.andThen_ok, Sem.run_pure]) hk
theorem wpList_eqTy {w : World} {ops : Array Oper} {rest : List Oper} {Q : Exit → Act → World → Prop} (hgd : o.guard = none ∨ Region.wanted o (yielded ops a.tmps) = true) (ty : Ty) (t t' : TypeId) (x y : Operand) (ho : o.op = .binOp .eql t x y t') (hf : (ty.eqFits P).1 t = true) (hd : ty.deep ≤ 10000) (hg : P.eqGuardType P.depth t = false) (hv : ∀ cs, ty.val cs = .agg cs.toArray)
    {W1 W2 : World} {F1 F2 : Fp} (cs ds : List Value) (d1 d2 : ty.Data) (hx : a.eval x = .agg cs.toArray) (hy : a.eval y = .agg ds.toArray) (h1 : ty.holds W1 F1 cs d1) (h2 : ty.holds W2 F2 ds d2) (b : Bool) (hb : ty.eqv d1 d2 = b) (hk : wpList P ops Q rest (a.put o.dst (.bool b)) w) : wpList P ops Q (o :: rest) a w :=
  wpList_want hgd fun K hK => by
    subst hb
    unfold Oper.wp execOp
    simp only [ho, hx, hy, Sem.run_bind, run_eqGuard w .eql t x y _ _ (.inl rfl) hg, run_eqTy ty t hf hd w W1 W2 F1 F2 cs ds d1 d2 h1 h2 hv, Result.andThen_ok, Sem.run_pure]
    exact hK _ _ hk
theorem wpList_neTy {w : World} {ops : Array Oper} {rest : List Oper} {Q : Exit → Act → World → Prop} (hgd : o.guard = none ∨ Region.wanted o (yielded ops a.tmps) = true) (ty : Ty) (t t' : TypeId) (x y : Operand) (ho : o.op = .binOp .neq t x y t') (hf : (ty.eqFits P).1 t = true) (hd : ty.deep ≤ 10000) (hg : P.eqGuardType P.depth t = false) (hv : ∀ cs, ty.val cs = .agg cs.toArray)
    {W1 W2 : World} {F1 F2 : Fp} (cs ds : List Value) (d1 d2 : ty.Data) (hx : a.eval x = .agg cs.toArray) (hy : a.eval y = .agg ds.toArray) (h1 : ty.holds W1 F1 cs d1) (h2 : ty.holds W2 F2 ds d2) (b : Bool) (hb : (!ty.eqv d1 d2) = b) (hk : wpList P ops Q rest (a.put o.dst (.bool b)) w) : wpList P ops Q (o :: rest) a w :=
  wpList_want hgd fun K hK => by
    subst hb
    unfold Oper.wp execOp
    simp only [ho, hx, hy, Sem.run_bind, run_eqGuard w .neq t x y _ _ (.inr rfl) hg, run_neTy ty t hf hd w W1 W2 F1 F2 cs ds d1 d2 h1 h2 hv, Result.andThen_ok, Sem.run_pure]
    exact hK _ _ hk
end
end Go.Proofs.YtchnjcghbbacoaaDoor

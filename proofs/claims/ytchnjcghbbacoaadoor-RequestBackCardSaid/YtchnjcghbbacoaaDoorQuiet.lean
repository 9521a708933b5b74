/- A drawn region whose operations yield one value in every world that has grown from the first one: walked in the order of the text. No condition but what each names. -/
import Derived.Test.YtchnjcghbbacoaaDoorReg
import Derived.BigQuiet
set_option linter.unusedVariables false
set_option linter.unusedSimpArgs false
set_option linter.unnecessarySimpa false
namespace Go.Proofs.YtchnjcghbbacoaaDoor
open Go.RowKit

/-- The worlds that have grown from this one. -/
def Since (w0 w : World) : Prop := Ext w0 w
theorem Since.ext {w0 w : World} (h : Since w0 w) : Ext w0 w := h
section
variable {P : Program} {C : World → Prop} {o : Oper} {a : Act} {K : Act → Prop}
theorem quiet_run (v : Value) (h : ∀ w, C w → (execOp a.eval o).run P w = .ok (.value v) w) (hk : K (a.put o.dst v)) : o.quiet P a C K :=
  ⟨v, fun w hw => by unfold Oper.quietAt; rw [h w hw]; exact ⟨rfl, rfl⟩, hk⟩
theorem quiet_agg (ty : TypeId) (x : Operand) (ho : o.op = .load ty x) (ad : Addr) (hx : a.eval x = .pointer (some ad)) (cs : List Value) (d : TypeDesc) (hu : P.underlying ty = some d) (hd : isAggD d = true) (hi : (P.info? ty).map (·.size) = some cs.length) (hc : ∀ w, C w → Cells w ad cs) (hk : K (a.put o.dst (.agg cs.toArray))) : o.quiet P a C K :=
  quiet_run _ (fun w hw => by
    unfold execOp
    simp only [ho, hx, Instr.loadAt, Instr.sureAddr, Sem.run_bind, Sem.run_pure, Result.andThen_ok, run_load_agg w ty ad cs d hu hd hi (hc w hw)]) hk
theorem run_load_one {w : World} (ty : TypeId) (ad : Addr) (v : Value) (d : TypeDesc) (hu : P.underlying ty = some d) (hd : isAggD d = false) (hc : w.cell? ad = some v) : (Instr.loadAt ty (.pointer (some ad))).run P w = .ok v w := by
  have hagg : (isAgg ty).run P w = .ok false w := by
    unfold isAgg
    rw [Sem.run_bind, run_underlying hu w]
    cases d <;> simp_all [isAggD]
  simp [Instr.loadAt, Instr.sureAddr, loadVar, Sem.run_bind, hagg, hc]
/-- A load of one cell. -/
theorem quiet_cell (ty : TypeId) (x : Operand) (ho : o.op = .load ty x) (ad : Addr) (hx : a.eval x = .pointer (some ad)) (v : Value) (d : TypeDesc) (hu : P.underlying ty = some d) (hd : isAggD d = false) (hc : ∀ w, C w → w.cell? ad = some v) (hk : K (a.put o.dst v)) : o.quiet P a C K :=
  quiet_run _ (fun w hw => by
    unfold execOp
    simp only [ho, hx, Sem.run_bind, run_load_one ty ad v d hu hd (hc w hw), Sem.run_pure, Result.andThen_ok]) hk
/-- 'string(b)'. -/
theorem quiet_str (src dst : TypeId) (x : Operand) (ho : o.op = .convert src dst x) (e : TypeId) (hs : P.underlying src = some (.slice e)) (he : P.underlying e = some (.int .u8)) (hd : P.underlying dst = some .string)
    (A : Option Addr) (n c : Nat) (bs : List UInt8) (hx : a.eval x = .slice A n c) (hn : bs.length = n) (hsrc : ∀ w, C w → Src w A n (bv bs)) (hk : K (a.put o.dst (.string (strOf bs)))) : o.quiet P a C K := by
  subst hn
  exact quiet_run _ (fun w hw => by
    unfold execOp
    simp only [ho, hx, Sem.run_bind, run_str w src dst e hs he hd A c bs (hsrc w hw), Result.andThen_ok, Sem.run_pure]) hk
/-- A conversion, its run known. -/
theorem quiet_conv (src dst : TypeId) (x : Operand) (ho : o.op = .convert src dst x) (v u : Value) (hx : a.eval x = v) (h : ∀ w, C w → (convert src dst v).run P w = .ok u w) (hk : K (a.put o.dst u)) : o.quiet P a C K :=
  quiet_run _ (fun w hw => by
    unfold execOp
    simp only [ho, hx, Sem.run_bind, h w hw, Result.andThen_ok, Sem.run_pure]) hk
theorem quiet_eqSame (t t' : TypeId) (x y : Operand) (ho : o.op = .binOp .eql t x y t') (e : TypeId) (n : Nat) (ht : P.underlying t = some (.array n e)) (he : P.underlying e = some (.int .u8)) (hi : (P.info? e).map (·.size) = some 1) (hg : P.eqGuardType P.depth t = false)
    (xs : List UInt8) (hx : a.eval x = .agg (bv xs).toArray) (hy : a.eval y = .agg (bv xs).toArray) (hxl : xs.length = n) (hk : K (a.put o.dst (.bool true))) : o.quiet P a C K :=
  quiet_run _ (fun w _ => by
    unfold execOp
    simp only [ho, hx, hy, Sem.run_bind, run_eqGuard w .eql t x y _ _ (.inl rfl) hg, run_eqD w t e n ht he hi xs xs hxl hxl, Result.andThen_ok, Sem.run_pure]
    simp) hk
end
theorem wp_region_since {P : Program} {Q : Exit → Act → World → Prop} {id : Nat} {l : List Oper} {a : Act} {w : World} (hm : P.follows .mixedOrders = true) (hB : Region.lexB .any l.toArray = true)
    (h : wpQuiet P l.toArray (Since w) (fun a' => ∀ w', Since w w' → Q .normal a' w') l a) : (Code.region id l.toArray true).wp P Q a w :=
  wp_region_quiet (C := Since w) hm hB (Ext.refl w).drew (by simpa using h)
end Go.Proofs.YtchnjcghbbacoaaDoor

/- A witness with a great struct among its arguments: its cells are looked through once, in step with their types. No condition but what each names. -/
import Derived.Test.YtfoomnibfibfnaaOpen
import Derived.SizedLaws
set_option linter.unusedVariables false
set_option linter.unusedSimpArgs false
set_option linter.unnecessarySimpa false
namespace Go.Proofs.Ytfoomnibfibfnaa
open Go.ChangeShapes Go.WideShapes Go.ChangeAt Go.RowKit

def okZipB (P : Program) (w : World) (t : TypeId) (cs : List Value) : Bool :=
  match P.cellTypes P.depth t with
  | some ts => (ts.length == cs.length && cs.length == P.cellsOf t) && (ts.zip cs).all fun p => Cell.okWideB P w p.1 p.2
  | none => false
theorem zip_at {α β : Type} : ∀ (xs : List α) (ys : List β) (i : Nat) (y : β), xs.length = ys.length → ys[i]? = some y → ∃ x, xs[i]? = some x ∧ (x, y) ∈ xs.zip ys
  | [], [], i, y, _, h => by simp at h
  | x :: xs, z :: ys, 0, y, _, h => by
    have e : z = y := by simpa using h
    subst e
    exact ⟨x, rfl, by simp⟩
  | x :: xs, z :: ys, i + 1, y, hl, h => by
    obtain ⟨u, h1, h2⟩ := zip_at xs ys i y (by simpa using hl) (by simpa using h)
    exact ⟨u, by simpa using h1, by simp [h2]⟩
  | [], _ :: _, _, _, h, _ => by simp at h
  | _ :: _, [], _, _, h, _ => by simp at h
theorem okWide_of_zip {P : Program} {w : World} {base : Nat} {t : TypeId} {fs : Array Field} {cs : List Value} (hu : P.underlying t = some (.struct fs)) (h : okZipB P w t cs = true) : Value.okWide P w .any base t (.agg cs.toArray) := by
  unfold okZipB at h
  split at h
  · rename_i ts hts
    simp only [Bool.and_eq_true, beq_iff_eq, List.all_eq_true] at h
    obtain ⟨⟨h1, h2⟩, h3⟩ := h
    unfold Value.okWide
    simp only [hu]
    refine ⟨_, rfl, by simpa using h2, ts, hts, ⟨1, by simp [h1]⟩, fun i v hv => ?_⟩
    have hv' : cs[i]? = some v := by simpa using hv
    have hi : i < cs.length := (List.getElem?_eq_some_iff.1 hv').1
    obtain ⟨x, hx, hm⟩ := zip_at ts cs i v h1 hv'
    rw [Nat.mod_eq_of_lt (by omega)]
    exact ⟨x, hx, Cell.okWide_of_okWideB (h3 _ hm)⟩
  · cases h
theorem witness6W {H : Type} {enc : TypeId × Value → H} {C : Checked} {os : Os} {f : FuncId} {fn : Func} {s : ChangeSpec} {conds : List PathCond} {apart : Bool} (modest : Bool) (i : Input) (fuel : Nat)
    (hv : (World.plainHolding C.prog os i).variablesB C.prog = true)
    (hr : ((World.plainHolding C.prog os i).heap.toList.drop C.prog.globals.size).take ((begin C.prog (fun _ _ => 0) default).world.heap.size - C.prog.globals.size) =
      (begin C.prog (fun _ _ => 0) default).world.heap.toList.drop C.prog.globals.size)
    (hok : ∀ base, Input.okWide C.prog (World.plainHolding C.prog os i) .any base f ⟨#[], i.args, []⟩)
    (hpre : s.preB enc C.prog fn conds apart (World.plainHolding C.prog os i).memory i.args fuel = true)
    (hsz : s.sizedB enc C.prog fn apart (World.plainHolding C.prog os i).memory i.args fuel = true) :
    ∃ (w : World) (tape : Tape) (i : Input), w.os = os ∧ (w.forCall tape i).Shaped C.prog ∧ i.vars = [] ∧ Input.okWide C.prog (w.forCall tape i) .any w.heap.size f i ∧
      s.pre6 enc C.prog fn conds apart (w.forCall tape i).memory i.args ∧ ({ modest := modest } : Assume).holds C.prog (lone (Frame.enter C.prog f i.args .normal) [] (w.forCall tape i)) :=
  ⟨World.holding C.prog os i, fun _ _ => 0, ⟨#[], i.args, []⟩, rfl, World.shaped_of_B hv hr, rfl, hok _, ⟨ChangeSpec.pre_of_preB hpre, sizedMet_of_sizedB hsz⟩, by
    simp only [Assume.holds]
    exact ⟨by simp, by simp, fun _ => Modest.zero, by simp, by simp⟩⟩
end Go.Proofs.Ytfoomnibfibfnaa

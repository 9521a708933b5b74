/- Walks and plain laws, put together in build order. Conditions: what each of them names. -/
import Derived.SizedLaws
import Derived.Test.YtmicjaiiinaipaaW5a4cdeab44
set_option linter.unusedVariables false
set_option linter.unusedSimpArgs false
set_option linter.unnecessarySimpa false
namespace Go.Proofs.Ytmicjaiiinaipaa
section
open Go.RowKit

set_option maxRecDepth 100000 in
set_option maxHeartbeats 8000000 in
theorem DSignsDark (AC BC : List Value) (s0 o0 : St) (A A2 : Option Addr) (c c2 : Nat) (w : World) (hcm : List.length (α := Cd) s0.cs ≤ 9223372036854775807) (hcm2 : List.length (α := Cd) o0.cs ≤ 9223372036854775807) (hd : ¬ (List.length (α := Cd) s0.cs ≤ 30 ∧ List.length (α := Cd) o0.cs ≤ 30)) :
    Calls Try.prog 4 #[.agg AC.toArray, .agg BC.toArray, stv s0 (.slice A (List.length (α := Cd) s0.cs) c), stv o0 (.slice A2 (List.length (α := Cd) o0.cs) c2)] w fun e w' => e = .returned (.bool true) ∧ Ext w w' := by
  have hlight := fun W => DLight s0 A (List.length (α := Cd) s0.cs) c W (by omega)
  have hlight2 := fun W => DLight o0 A2 (List.length (α := Cd) o0.cs) c2 W (by omega)
  obtain ⟨SC, hSC⟩ : ∃ SC, SC = stc s0 (.slice A (List.length (α := Cd) s0.cs) c) := ⟨_, rfl⟩
  obtain ⟨OC, hOC⟩ : ∃ OC, OC = stc o0 (.slice A2 (List.length (α := Cd) o0.cs) c2) := ⟨_, rfl⟩
  have hst : stv s0 (.slice A (List.length (α := Cd) s0.cs) c) = .agg SC.toArray := by rw [hSC]; rfl
  have hst2 : stv o0 (.slice A2 (List.length (α := Cd) o0.cs) c2) = .agg OC.toArray := by rw [hOC]; rfl
  have hscl : SC.length = 7 := by rw [hSC]; rfl
  have hocl : OC.length = 7 := by rw [hOC]; rfl
  rw [hst] at hlight ⊢
  rw [hst2] at hlight2 ⊢
  have hx0 : Ext w ((((w.alloc (.cells AC.toArray 28)).alloc (.cells BC.toArray 28)).alloc (.cells SC.toArray 27)).alloc (.cells OC.toArray 27)) := ((((Ext.refl w).alloc _).alloc _).alloc _).alloc _
  have hb6 : Blk ((((w.alloc (.cells AC.toArray 28)).alloc (.cells BC.toArray 28)).alloc (.cells SC.toArray 27)).alloc (.cells OC.toArray 27)) (w.heap.size + 2) 27 SC := (Blk.new_at (by simp) _ _).keep ((Ext.refl _).alloc (.cells OC.toArray 27)) (by simp)
  have hb7 : Blk ((((w.alloc (.cells AC.toArray 28)).alloc (.cells BC.toArray 28)).alloc (.cells SC.toArray 27)).alloc (.cells OC.toArray 27)) (w.heap.size + 3) 27 OC := Blk.new_at (by simp) _ _
  have HX := Lib.hid hx0
  have HB6 := Lib.hid hb6
  have HB7 := Lib.hid hb7
  have HSCL := Lib.hid hscl
  have HOCL := Lib.hid hocl
  clear hx0 hb6 hb7 hscl hocl hSC hOC hst hst2 hcm hcm2
  by_cases hl : List.length (α := Cd) s0.cs ≤ 30
  · have hlo : ¬ List.length (α := Cd) o0.cs ≤ 30 := fun h => hd ⟨hl, h⟩
    rw [decide_eq_true hl] at hlight
    rw [decide_eq_false hlo] at hlight2
    have HL1 := Lib.hid hlight
    have HL2 := Lib.hid hlight2
    clear hlight hlight2 hl hlo hd
    go_enter Try.func4, Try.ntmps4
    go_wp2_with (first
      | ((with_reducible refine wpDst 24 rfl ?_); refine wpList_load_agg _ rfl 27 (.tmp 6) rfl _ rfl SC _ Try.underlying27 rfl (szRState HSCL.out) (by exact HB6.out.cells) ?_)
      | fail)
    refine (HL1.out _).mono ?_
    rintro e w1 ⟨rfl, hx1⟩
    replace HB7 := Lib.hid (HB7.out.keep hx1 (by simp))
    replace HX := Lib.hid (HX.out.trans hx1)
    clear hx1 HB6
    go_wp2_with (first
      | ((with_reducible refine wpDst 28 rfl ?_); refine wpList_loadG (.inr (by kernel_rfl)) 27 (.tmp 7) rfl _ rfl OC _ Try.underlying27 rfl (szRState HOCL.out) (by exact HB7.out.cells) ?_)
      | fail)
    refine (HL2.out _).mono ?_
    rintro e w2 ⟨rfl, hx2⟩
    replace HX := Lib.hid (HX.out.trans hx2)
    clear hx2 HB7
    go_wp2_with fail
    refine (DAwake _).mono ?_
    rintro e w3 ⟨rfl, hx3⟩
    go_wp2_with fail
    go_ret
    exact ⟨rfl, HX.out.trans hx3⟩
  · rw [decide_eq_false hl] at hlight
    have HL1 := Lib.hid hlight
    clear hlight hlight2 hl hd
    go_enter Try.func4, Try.ntmps4
    go_wp2_with (first
      | ((with_reducible refine wpDst 24 rfl ?_); refine wpList_load_agg _ rfl 27 (.tmp 6) rfl _ rfl SC _ Try.underlying27 rfl (szRState HSCL.out) (by exact HB6.out.cells) ?_)
      | fail)
    refine (HL1.out _).mono ?_
    rintro e w1 ⟨rfl, hx1⟩
    replace HX := Lib.hid (HX.out.trans hx1)
    clear hx1 HB6 HB7
    go_wp2_with fail
    refine (DAwake _).mono ?_
    rintro e w3 ⟨rfl, hx3⟩
    go_wp2_with fail
    go_ret
    exact ⟨rfl, HX.out.trans hx3⟩
end
section
open Go.RowKit

theorem DSignsLaw (sa sb : List UInt8) (hsa : sa.length = 32) (hsb : sb.length = 32) (s0 o0 : St) (hw : StWf s0) (hwo : StWf o0) (u uo : Value) (F : Fp) (w : World) (hc : Conds w F u s0.cs) (hco : Conds w F uo o0.cs) (hF : ∀ b, F b → b < w.heap.size) :
    Calls Try.prog 4 #[.agg (bv sa).toArray, .agg (bv sb).toArray, stv s0 u, stv o0 uo] w fun e w' => e = .returned (.bool true) ∧ Ext w w' := by
  obtain ⟨A, c, xs, hu, hlc, hcm, -⟩ := conds_open hc
  obtain ⟨A2, c2, xs2, huo, hlc2, hcm2, -⟩ := conds_open hco
  unfold maxLen at hcm hcm2
  subst hu
  subst huo
  by_cases hd : List.length (α := Cd) s0.cs ≤ 30 ∧ List.length (α := Cd) o0.cs ≤ 30
  · exact DSignsLight sa sb hsa hsb s0 o0 hw hwo A A2 c c2 F w hc hco hF hd.1 hd.2
  · exact DSignsDark (bv sa) (bv sb) s0 o0 A A2 c c2 w (by omega) (by omega) hd
end
section
open Go.RowKit

def WishTD : Ty := .st (.pair (.int .i64) (.pair (.nat .u64) (.pair CondT (.pair (.nat .u64) .unit))))
def StTD : Ty := .st (.pair (.nat .u32) (.pair (.nat .u64) (.pair (.arr 2 (.nat .u64)) (.pair (.arr 2 (.nat .u64)) (.pair (.sl CondT) .unit)))))
theorem agg_cellsD (cs : List Value) : (Value.agg cs.toArray).cells.toList = cs := by simp [Value.cells]
theorem two_openD {W : World} {F : Fp} {cs : List Value} {x : List Nat} (h : (Ty.arr 2 (.nat .u64)).holds W F cs x) : ∃ a b : Nat, cs = [.int .u64 (a : Int), .int .u64 (b : Int)] ∧ (Lit.int .u64 (a : Int)).wf = true ∧ (Lit.int .u64 (b : Int)).wf = true := by
  obtain ⟨hl, ha⟩ := h
  match x, hl, ha with
  | [a, b], _, ha =>
    obtain ⟨_, _, rfl, ⟨rfl, w1⟩, _, _, rfl, ⟨rfl, w2⟩, rfl⟩ := ha
    exact ⟨a, b, rfl, w1, w2⟩
theorem wish_openD {W : World} {F : Fp} {cs : List Value} {x : WishTD.Data} (h : WishTD.holds W F (Value.agg cs.toArray).cells.toList x) : ∃ o : Wish, cs = wishCells o ∧ CondOk o.c ∧ (Lit.int .u64 (o.am : Int)).wf = true ∧ (Lit.int .u64 (o.id : Int)).wf = true := by
  rw [agg_cellsD] at h
  obtain ⟨k, a, c, i, u⟩ := x
  obtain ⟨_, _, rfl, ⟨rfl, w1⟩, _, _, rfl, ⟨rfl, w2⟩, _, _, rfl, hc, _, _, rfl, ⟨rfl, w3⟩, rfl⟩ := h
  obtain ⟨rfl, hok⟩ := condT_iff.1 hc
  exact ⟨⟨k, a, c, i⟩, by simp [wishCells], hok, w2, w3⟩
theorem state_openD {W : World} {F : Fp} {cs : List Value} {x : StTD.Data} (h : StTD.holds W F (Value.agg cs.toArray).cells.toList x) : ∃ (s : St) (v : Value), cs = stc s v ∧ StWf s ∧ Conds W F v s.cs := by
  rw [agg_cellsD] at h
  obtain ⟨ch, rd, mv, tk, cd, u⟩ := x
  obtain ⟨_, _, rfl, ⟨rfl, w1⟩, _, _, rfl, ⟨rfl, w2⟩, _, _, rfl, hm, _, _, rfl, ht, _, _, rfl, hc, rfl⟩ := h
  obtain ⟨a, b, rfl, ha, hb⟩ := two_openD hm
  obtain ⟨c, d, rfl, hc', hd⟩ := two_openD ht
  obtain ⟨A, cap, xs, rfl, hrest⟩ := hc
  exact ⟨⟨ch, rd, a, b, c, d, cd⟩, .slice A (List.length (α := CondT.Data) cd) cap, by simp [stc], ⟨w1, w2, ha, hb, hc', hd⟩, ⟨A, cap, xs, rfl, hrest⟩⟩
end
section
open Go.ChangeShapes Go.WideShapes Go.ChangeAt Go.RowKit

def okZipB (P : Program) (w : World) (t : TypeId) (cs : List Value) : Bool :=
  match P.cellTypes P.depth t with
  | some ts => (ts.length == cs.length && cs.length == P.cellsOf t) && (ts.zip cs).all fun p => Cell.okWideB P w p.1 p.2
  | none => false
theorem zip_at {α β : Type} : ∀ (xs : List α) (ys : List β) (i : Nat) (y : β), xs.length = ys.length → ys[i]? = some y → ∃ x, xs[i]? = some x ∧ (x, y) ∈ xs.zip ys
  | [], [], i, y, _, h => by simp at h
  | x :: xs, z :: ys, 0, y, _, h => by
    have e : z = y := by simpa using h
    subst e
    exact ⟨x, rfl, by simp⟩
  | x :: xs, z :: ys, i + 1, y, hl, h => by
    obtain ⟨u, h1, h2⟩ := zip_at xs ys i y (by simpa using hl) (by simpa using h)
    exact ⟨u, by simpa using h1, by simp [h2]⟩
  | [], _ :: _, _, _, h, _ => by simp at h
  | _ :: _, [], _, _, h, _ => by simp at h
theorem okWide_of_zip {P : Program} {w : World} {base : Nat} {t : TypeId} {fs : Array Field} {cs : List Value} (hu : P.underlying t = some (.struct fs)) (h : okZipB P w t cs = true) : Value.okWide P w .any base t (.agg cs.toArray) := by
  unfold okZipB at h
  split at h
  · rename_i ts hts
    simp only [Bool.and_eq_true, beq_iff_eq, List.all_eq_true] at h
    obtain ⟨⟨h1, h2⟩, h3⟩ := h
    unfold Value.okWide
    simp only [hu]
    refine ⟨_, rfl, by simpa using h2, ts, hts, ⟨1, by simp [h1]⟩, fun i v hv => ?_⟩
    have hv' : cs[i]? = some v := by simpa using hv
    have hi : i < cs.length := (List.getElem?_eq_some_iff.1 hv').1
    obtain ⟨x, hx, hm⟩ := zip_at ts cs i v h1 hv'
    rw [Nat.mod_eq_of_lt (by omega)]
    exact ⟨x, hx, Cell.okWide_of_okWideB (h3 _ hm)⟩
  · cases h
theorem witness6W {H : Type} {enc : TypeId × Value → H} {C : Checked} {os : Os} {f : FuncId} {fn : Func} {s : ChangeSpec} {conds : List PathCond} {apart : Bool} (modest : Bool) (i : Input) (fuel : Nat)
    (hv : (World.plainHolding C.prog os i).variablesB C.prog = true)
    (hr : ((World.plainHolding C.prog os i).heap.toList.drop C.prog.globals.size).take ((begin C.prog (fun _ _ => 0) default).world.heap.size - C.prog.globals.size) =
      (begin C.prog (fun _ _ => 0) default).world.heap.toList.drop C.prog.globals.size)
    (hok : ∀ base, Input.okWide C.prog (World.plainHolding C.prog os i) .any base f ⟨#[], i.args, []⟩)
    (hpre : s.preB enc C.prog fn conds apart (World.plainHolding C.prog os i).memory i.args fuel = true)
    (hsz : s.sizedB enc C.prog fn apart (World.plainHolding C.prog os i).memory i.args fuel = true) :
    ∃ (w : World) (tape : Tape) (i : Input), w.os = os ∧ (w.forCall tape i).Shaped C.prog ∧ i.vars = [] ∧ Input.okWide C.prog (w.forCall tape i) .any w.heap.size f i ∧
      s.pre6 enc C.prog fn conds apart (w.forCall tape i).memory i.args ∧ ({ modest := modest } : Assume).holds C.prog (lone (Frame.enter C.prog f i.args .normal) [] (w.forCall tape i)) :=
  ⟨World.holding C.prog os i, fun _ _ => 0, ⟨#[], i.args, []⟩, rfl, World.shaped_of_B hv hr, rfl, hok _, ⟨ChangeSpec.pre_of_preB hpre, sizedMet_of_sizedB hsz⟩, by
    simp only [Assume.holds]
    exact ⟨by simp, by simp, fun _ => Modest.zero, by simp, by simp⟩⟩
end
end Go.Proofs.Ytmicjaiiinaipaa

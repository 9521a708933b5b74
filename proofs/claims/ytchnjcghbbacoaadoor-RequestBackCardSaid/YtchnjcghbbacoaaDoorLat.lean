/- A drawn region in which slices are made at any time beside a chain of calls that lay bytes: state by state, one end for all orders. No condition but what each names. -/
import Derived.Test.YtchnjcghbbacoaaDoorMono3
import Derived.Test.YtchnjcghbbacoaaDoorOut
set_option linter.unusedVariables false
set_option linter.unusedSimpArgs false
set_option linter.unnecessarySimpa false
namespace Go.Proofs.YtchnjcghbbacoaaDoor
open Go.RowKit

section
variable {P : Program} (w : World)
theorem wp_oneL {o : Oper} {a : Act} {K : Act → World → Prop} {Q : Exit → Act → World → Prop} (t : TypeId) (x : Operand) (ho : o.op = .buildSlice t 1 #[(0, x)])
    (e : TypeId) (u : Value) (cs : List Value) (ht : P.underlying t = some (.slice e)) (hx : a.eval x = u) (hv : u.cells = cs.toArray) (hi : (P.info? e).map (·.size) = some cs.length) (hz : ((P.info? e).bind (·.zero)).isSome = true) (hl : cs.length ≤ 16777216) (hn : 0 < cs.length)
    (h : K (a.put o.dst (.slice (some ⟨w.heap.size, 0, none⟩) 1 1)) (w.alloc (.cells cs.toArray e))) : o.wp P a w K Q := by
    obtain ⟨i, hi', hs⟩ := Option.map_eq_some_iff.1 hi
    rw [hi', Option.bind_some] at hz
    obtain ⟨z, hz⟩ := Option.isSome_iff_exists.1 hz
    have hfill : ∀ (c : Array Value), c.size = cs.length → Instr.fill (fun i => some (i * cs.length, cs.length)) c [(0, u)] = some cs.toArray := by
      intro c hc
      rw [fill_list _ c 0 u cs 0 [] hv (by simp) (by omega)]
      simp only [Instr.fill, List.take_zero, List.nil_append, Nat.zero_add]
      rw [List.drop_eq_nil_of_le (by rw [Array.length_toList]; omega), List.append_nil]
    unfold Oper.wp execOp
    have hrun : (Instr.buildSlice t 1 #[(0, u)]).run P w = .ok (.slice (some ⟨w.heap.size, 0, none⟩) 1 1) (w.alloc (.cells cs.toArray e)) := by
      unfold Instr.buildSlice
      simp only [Sem.run_bind, run_underlying ht, Result.andThen_ok, sizeOf, typeInfo, run_program, hi', Sem.run_pure, hs, Nat.one_mul]
      rw [if_neg (by omega)]
      have h0 : ¬ cs.length = 0 := by omega
      simp only [h0, if_false, Sem.run_bind, Sem.run_pure, Result.andThen_ok, zeroValue, typeInfo, run_program, hi', hz]
      have := hfill ((Array.range cs.length).map fun x => z.cells[x % z.cells.size]!) (by simp)
      simp only [this]
      simp [newRow]
    simp only [ho, List.map_toArray, List.map_cons, List.map_nil, hx, Sem.run_bind, hrun, Result.andThen_ok, Sem.run_pure]
    exact h
theorem wp_twoL {o : Oper} {a : Act} {K : Act → World → Prop} {Q : Exit → Act → World → Prop} (t : TypeId) (x y : Operand) (ho : o.op = .buildSlice t 2 #[(0, x), (1, y)])
    (e : TypeId) (u1 u2 : Value) (ht : P.underlying t = some (.slice e)) (hx : a.eval x = u1) (hy : a.eval y = u2) (h1 : u1.cells = #[u1]) (h2 : u2.cells = #[u2]) (hi : (P.info? e).map (·.size) = some 1) (hz : ((P.info? e).bind (·.zero)).isSome = true)
    (h : K (a.put o.dst (.slice (some ⟨w.heap.size, 0, none⟩) 2 2)) (w.alloc (.cells [u1, u2].toArray e))) : o.wp P a w K Q := by
    obtain ⟨i, hi', hs⟩ := Option.map_eq_some_iff.1 hi
    rw [hi', Option.bind_some] at hz
    obtain ⟨z, hz⟩ := Option.isSome_iff_exists.1 hz
    have hfill : ∀ (c : Array Value), c.size = 2 → Instr.fill (fun i => some (i, 1)) c [(0, u1), (1, u2)] = some [u1, u2].toArray := by
      intro c hc
      have hc' : c.toList.length = 2 := by rw [Array.length_toList]; exact hc
      obtain ⟨x0, x1, hx⟩ : ∃ x0 x1, c.toList = [x0, x1] := by
        match hl : c.toList, hc' with
        | [x0, x1], _ => exact ⟨x0, x1, rfl⟩
      rw [fill_list _ c 0 u1 [u1] 0 _ (by simpa using h1) rfl (by simp; omega), hx]
      simp only [List.take_zero, List.nil_append, List.length_singleton, List.drop_succ_cons, List.drop_zero, List.singleton_append]
      rw [fill_list _ _ 1 u2 [u2] 1 _ (by simpa using h2) rfl (by simp)]
      simp [Instr.fill]
    unfold Oper.wp execOp
    have hrun : (Instr.buildSlice t 2 #[(0, u1), (1, u2)]).run P w = .ok (.slice (some ⟨w.heap.size, 0, none⟩) 2 2) (w.alloc (.cells [u1, u2].toArray e)) := by
      unfold Instr.buildSlice
      simp only [Sem.run_bind, run_underlying ht, Result.andThen_ok, sizeOf, typeInfo, run_program, hi', Sem.run_pure, hs, Nat.mul_one]
      rw [if_neg (by omega)]
      simp only [show ¬ (2 = 0) by omega, if_false, Sem.run_bind, Sem.run_pure, Result.andThen_ok, zeroValue, typeInfo, run_program, hi', hz]
      have := hfill ((Array.range 2).map fun x => z.cells[x % z.cells.size]!) (by simp)
      simp only [this]
      simp [newRow]
    simp only [ho, List.map_toArray, List.map_cons, List.map_nil, hx, hy, Sem.run_bind, hrun, Result.andThen_ok, Sem.run_pure]
    exact h
end
section
variable {P : Program} {md : Region.Mode} {ops : Array Oper} {Q : Exit → Act → World → Prop} {R : World → World → Prop}
/-- Each of some operations may be next. -/
def eachM (P : Program) (md : Region.Mode) (ops : Array Oper) (Q : Exit → Act → World → Prop) (R : World → World → Prop) (fuel : Nat) (listed : Array Bool) (a : Act) (w : World) : List Nat → Prop
  | [] => True
  | i :: l => wpOp P ops Q i (fun a' w' => R w w' ∧ wpAnyM P md ops Q R fuel (listed.setIfInBounds i true) a' w') a w ∧ eachM P md ops Q R fuel listed a w l
theorem eachM_mem {fuel : Nat} {listed : Array Bool} {a : Act} {w : World} : ∀ {l : List Nat}, eachM P md ops Q R fuel listed a w l → ∀ i ∈ l, wpOp P ops Q i (fun a' w' => R w w' ∧ wpAnyM P md ops Q R fuel (listed.setIfInBounds i true) a' w') a w
  | [], _, _, h => by cases h
  | j :: l, h, i, hi => by
    rcases List.mem_cons.1 hi with rfl | hi
    · exact h.1
    · exact eachM_mem h.2 i hi
theorem anyofM (j : Nat) (l : List Nat) {fuel : Nat} {listed : Array Bool} {a : Act} {w : World} (hr : Region.ready md ops listed = j :: l) (h : eachM P md ops Q R fuel listed a w (j :: l)) : wpAnyM P md ops Q R (fuel + 1) listed a w := by
  refine ⟨fun h0 => (by rw [hr] at h0; cases h0), fun i hi => ?_⟩
  rw [hr] at hi
  exact eachM_mem h i hi
theorem oneM {i : Nat} {oi : Oper} {fuel : Nat} {listed : Array Bool} {a : Act} {w : World} (hi : (ops.toList.drop i).head? = some oi) (hw : Region.wanted oi (yielded ops a.tmps) = true)
    (h : ∀ K : Act → World → Prop, (∀ a' w', R w w' → wpAnyM P md ops Q R fuel (listed.setIfInBounds i true) a' w' → K a' w') → oi.wp P a w K Q) : wpOp P ops Q i (fun a' w' => R w w' ∧ wpAnyM P md ops Q R fuel (listed.setIfInBounds i true) a' w') a w := by
  refine wpOp_step (op_at hi) (fun K' hK => ?_)
  rw [if_pos hw]
  exact h K' (fun a' w' h1 h2 => hK _ _ ⟨h1, h2⟩)
end
theorem lat0 {Q : Prop} {A : World → Prop} (J : World → Prop) (h1 : (∀ w, J w → A w) → Q) (h2 : ∀ w, J w → A w) : Q := h1 h2
theorem lat1 {Q : Prop} {A : Value → World → Prop} (J : Value → World → Prop) (h1 : (∀ v0 w, J v0 w → A v0 w) → Q) (h2 : ∀ v0 w, J v0 w → A v0 w) : Q := h1 h2
theorem lat2 {Q : Prop} {A : Value → Value → World → Prop} (J : Value → Value → World → Prop) (h1 : (∀ v0 v1 w, J v0 v1 w → A v0 v1 w) → Q) (h2 : ∀ v0 v1 w, J v0 v1 w → A v0 v1 w) : Q := h1 h2
theorem lat3 {Q : Prop} {A : Value → Value → Value → World → Prop} (J : Value → Value → Value → World → Prop) (h1 : (∀ v0 v1 v2 w, J v0 v1 v2 w → A v0 v1 v2 w) → Q) (h2 : ∀ v0 v1 v2 w, J v0 v1 v2 w → A v0 v1 v2 w) : Q := h1 h2
theorem lat4 {Q : Prop} {A : Value → Value → Value → Value → World → Prop} (J : Value → Value → Value → Value → World → Prop) (h1 : (∀ v0 v1 v2 v3 w, J v0 v1 v2 v3 w → A v0 v1 v2 v3 w) → Q) (h2 : ∀ v0 v1 v2 v3 w, J v0 v1 v2 v3 w → A v0 v1 v2 v3 w) : Q := h1 h2
theorem lat5 {Q : Prop} {A : Value → Value → Value → Value → Value → World → Prop} (J : Value → Value → Value → Value → Value → World → Prop) (h1 : (∀ v0 v1 v2 v3 v4 w, J v0 v1 v2 v3 v4 w → A v0 v1 v2 v3 v4 w) → Q) (h2 : ∀ v0 v1 v2 v3 v4 w, J v0 v1 v2 v3 v4 w → A v0 v1 v2 v3 v4 w) : Q := h1 h2
theorem lat6 {Q : Prop} {A : Value → Value → Value → Value → Value → Value → World → Prop} (J : Value → Value → Value → Value → Value → Value → World → Prop) (h1 : (∀ v0 v1 v2 v3 v4 v5 w, J v0 v1 v2 v3 v4 v5 w → A v0 v1 v2 v3 v4 v5 w) → Q) (h2 : ∀ v0 v1 v2 v3 v4 v5 w, J v0 v1 v2 v3 v4 v5 w → A v0 v1 v2 v3 v4 v5 w) : Q := h1 h2
theorem lat7 {Q : Prop} {A : Value → Value → Value → Value → Value → Value → Value → World → Prop} (J : Value → Value → Value → Value → Value → Value → Value → World → Prop) (h1 : (∀ v0 v1 v2 v3 v4 v5 v6 w, J v0 v1 v2 v3 v4 v5 v6 w → A v0 v1 v2 v3 v4 v5 v6 w) → Q) (h2 : ∀ v0 v1 v2 v3 v4 v5 v6 w, J v0 v1 v2 v3 v4 v5 v6 w → A v0 v1 v2 v3 v4 v5 v6 w) : Q := h1 h2
theorem lat8 {Q : Prop} {A : Value → Value → Value → Value → Value → Value → Value → Value → World → Prop} (J : Value → Value → Value → Value → Value → Value → Value → Value → World → Prop) (h1 : (∀ v0 v1 v2 v3 v4 v5 v6 v7 w, J v0 v1 v2 v3 v4 v5 v6 v7 w → A v0 v1 v2 v3 v4 v5 v6 v7 w) → Q) (h2 : ∀ v0 v1 v2 v3 v4 v5 v6 v7 w, J v0 v1 v2 v3 v4 v5 v6 v7 w → A v0 v1 v2 v3 v4 v5 v6 v7 w) : Q := h1 h2
theorem lat9 {Q : Prop} {A : Value → Value → Value → Value → Value → Value → Value → Value → Value → World → Prop} (J : Value → Value → Value → Value → Value → Value → Value → Value → Value → World → Prop) (h1 : (∀ v0 v1 v2 v3 v4 v5 v6 v7 v8 w, J v0 v1 v2 v3 v4 v5 v6 v7 v8 w → A v0 v1 v2 v3 v4 v5 v6 v7 v8 w) → Q) (h2 : ∀ v0 v1 v2 v3 v4 v5 v6 v7 v8 w, J v0 v1 v2 v3 v4 v5 v6 v7 v8 w → A v0 v1 v2 v3 v4 v5 v6 v7 v8 w) : Q := h1 h2
theorem lat10 {Q : Prop} {A : Value → Value → Value → Value → Value → Value → Value → Value → Value → Value → World → Prop} (J : Value → Value → Value → Value → Value → Value → Value → Value → Value → Value → World → Prop) (h1 : (∀ v0 v1 v2 v3 v4 v5 v6 v7 v8 v9 w, J v0 v1 v2 v3 v4 v5 v6 v7 v8 v9 w → A v0 v1 v2 v3 v4 v5 v6 v7 v8 v9 w) → Q) (h2 : ∀ v0 v1 v2 v3 v4 v5 v6 v7 v8 v9 w, J v0 v1 v2 v3 v4 v5 v6 v7 v8 v9 w → A v0 v1 v2 v3 v4 v5 v6 v7 v8 v9 w) : Q := h1 h2
theorem lat11 {Q : Prop} {A : Value → Value → Value → Value → Value → Value → Value → Value → Value → Value → Value → World → Prop} (J : Value → Value → Value → Value → Value → Value → Value → Value → Value → Value → Value → World → Prop) (h1 : (∀ v0 v1 v2 v3 v4 v5 v6 v7 v8 v9 v10 w, J v0 v1 v2 v3 v4 v5 v6 v7 v8 v9 v10 w → A v0 v1 v2 v3 v4 v5 v6 v7 v8 v9 v10 w) → Q) (h2 : ∀ v0 v1 v2 v3 v4 v5 v6 v7 v8 v9 v10 w, J v0 v1 v2 v3 v4 v5 v6 v7 v8 v9 v10 w → A v0 v1 v2 v3 v4 v5 v6 v7 v8 v9 v10 w) : Q := h1 h2
theorem lat12 {Q : Prop} {A : Value → Value → Value → Value → Value → Value → Value → Value → Value → Value → Value → Value → World → Prop} (J : Value → Value → Value → Value → Value → Value → Value → Value → Value → Value → Value → Value → World → Prop) (h1 : (∀ v0 v1 v2 v3 v4 v5 v6 v7 v8 v9 v10 v11 w, J v0 v1 v2 v3 v4 v5 v6 v7 v8 v9 v10 v11 w → A v0 v1 v2 v3 v4 v5 v6 v7 v8 v9 v10 v11 w) → Q) (h2 : ∀ v0 v1 v2 v3 v4 v5 v6 v7 v8 v9 v10 v11 w, J v0 v1 v2 v3 v4 v5 v6 v7 v8 v9 v10 v11 w → A v0 v1 v2 v3 v4 v5 v6 v7 v8 v9 v10 v11 w) : Q := h1 h2
/-! ### What is carried -/
structure Item where
  t : Ty
  d : List t.Data
  v : Value
def Hold (x : Item) (w : World) : Prop := (Ty.sl x.t).holds w (fun b => x.v.ownBlock = some b) [x.v] x.d ∧ ∀ b, x.v.ownBlock = some b → b < w.heap.size
structure CJ (g : Nat) (w0 : World) (v0 cur : Value) (bs : List UInt8) (xs : List Item) (w : World) : Prop where
  mv : Moved w0 w v0 cur
  lt : g < w0.heap.size
  ne : ∀ b, cur.ownBlock = some b → b ≠ g
  own : OwnB w cur bs
  it : ∀ x ∈ xs, Hold x w ∧ ∀ b, cur.ownBlock = some b → x.v.ownBlock ≠ some b
section
variable {g : Nat} {w0 w w' : World} {v0 cur v' : Value} {bs bs' : List UInt8} {xs ys : List Item} {x : Item}
theorem CJ.start (hg : g < w0.heap.size) (ho : OwnB w0 v0 bs) (hne : ∀ b, v0.ownBlock = some b → b ≠ g) : CJ g w0 v0 v0 bs [] w0 := ⟨Moved.refl _ _, hg, hne, ho, fun _ h => by cases h⟩
theorem CJ.sub (h : CJ g w0 v0 cur bs xs w) (hs : ∀ x ∈ ys, x ∈ xs) : CJ g w0 v0 cur bs ys w := ⟨h.mv, h.lt, h.ne, h.own, fun x hx => h.it x (hs x hx)⟩
theorem CJ.ltw (h : CJ g w0 v0 cur bs xs w) : g < w.heap.size := Nat.lt_of_lt_of_le h.lt h.mv.grown.size
theorem CJ.make (h : CJ g w0 v0 cur bs xs w) (hx : Ext w w') (hh : Hold x w') (hn : ∀ b, x.v.ownBlock = some b → w.heap.size ≤ b) : CJ g w0 v0 cur bs (x :: xs) w' ∧ KeepB (fun b => b = g) w w' := by
  have hlt := OwnB.lt h.own
  refine ⟨⟨h.mv.post hx, h.lt, h.ne, h.own.ext hx, fun y hy => ?_⟩, fun b hb => hx.block b (by subst hb; exact h.ltw) (by simp)⟩
  rcases List.mem_cons.1 hy with rfl | hy
  · refine ⟨hh, fun b hb e => ?_⟩
    have h1 := hn b e
    have h2 := hlt b hb
    omega
  · obtain ⟨⟨h1, h2⟩, h3⟩ := h.it y hy
    exact ⟨⟨hx.holds h2 h1, fun b hb => Nat.lt_of_lt_of_le (h2 b hb) hx.size⟩, h3⟩
theorem CJ.call (h : CJ g w0 v0 cur bs xs w) (ho : OwnB w' v' bs') (hm : Moved w w' cur v') : CJ g w0 v0 v' bs' xs w' ∧ KeepB (fun b => b = g) w w' := by
  have hg := h.ltw
  refine ⟨⟨h.mv.trans hm, h.lt, fun b hb => ?_, ho, fun y hy => ?_⟩, fun b hb => by subst hb; exact hm.grown.block b hg (fun e => h.ne _ e.symm rfl)⟩
  · rcases hm.at_ with e | hn
    · exact h.ne b (e.symm.trans hb)
    · have := hn b hb; omega
  · obtain ⟨⟨h1, h2⟩, h3⟩ := h.it y hy
    have hfar : Far (fun b => y.v.ownBlock = some b) w cur := fun b hb => ⟨h2 b hb, fun e => h3 b e hb⟩
    refine ⟨⟨hm.holds hfar h1, fun b hb => Nat.lt_of_lt_of_le (h2 b hb) hm.grown.size⟩, fun b hb e => ?_⟩
    rcases hm.at_ with e' | hn
    · exact h3 b (e'.symm.trans hb) e
    · have h4 := hn b hb
      have h5 := h2 b e
      omega
theorem CJ.far (h : CJ g w0 v0 cur bs xs w) (hx : x ∈ xs) : Far (fun b => x.v.ownBlock = some b) w cur := fun b hb => ⟨(h.it x hx).1.2 b hb, fun e => (h.it x hx).2 b e hb⟩
theorem CJ.one (h : CJ g w0 v0 cur bs xs w) {l : List UInt8} {vl : Value} (hx : (⟨.u8, l, vl⟩ : Item) ∈ xs) (hb : bs.length + l.length ≤ 140737488355328) :
    Calls Tryd.prog 13 #[cur, vl] w fun e w' => ∃ v', e = .returned v' ∧ CJ g w0 v0 v' (bs ++ l) xs w' ∧ KeepB (fun b => b = g) w w' := by
  refine (Out_One cur vl bs l w _ h.own (h.it _ hx).1.1 hb).mono ?_
  rintro e w' ⟨v', rfl, ho, hm⟩
  exact ⟨v', rfl, h.call ho hm⟩
theorem CJ.four (h : CJ g w0 v0 cur bs xs w) {l : List Nat} {vl : Value} (hx : (⟨.nat .u32, l, vl⟩ : Item) ∈ xs) (hb : bs.length + 4 * l.length ≤ 140737488355328) :
    Calls Tryd.prog 38 #[cur, vl] w fun e w' => ∃ v', e = .returned v' ∧ CJ g w0 v0 v' (bs ++ l.flatMap (be 4)) xs w' ∧ KeepB (fun b => b = g) w w' := by
  refine (Out_Four cur vl bs l w _ h.own (h.it _ hx).1.1 (h.far hx) hb).mono ?_
  rintro e w' ⟨v', rfl, ho, hm⟩
  exact ⟨v', rfl, h.call ho hm⟩
theorem CJ.eight (h : CJ g w0 v0 cur bs xs w) {l : List Nat} {vl : Value} (hx : (⟨.nat .u64, l, vl⟩ : Item) ∈ xs) (hb : bs.length + 8 * l.length ≤ 140737488355328) :
    Calls Tryd.prog 14 #[cur, vl] w fun e w' => ∃ v', e = .returned v' ∧ CJ g w0 v0 v' (bs ++ l.flatMap (be 8)) xs w' ∧ KeepB (fun b => b = g) w w' := by
  refine (Out_Eight cur vl bs l w _ h.own (h.it _ hx).1.1 (h.far hx) hb).mono ?_
  rintro e w' ⟨v', rfl, ho, hm⟩
  exact ⟨v', rfl, h.call ho hm⟩
theorem CJ.sum (h : CJ g w0 v0 cur bs xs w) {l : List (List UInt8)} {vl : Value} (hx : (⟨.arr 32 .u8, l, vl⟩ : Item) ∈ xs) (hb : bs.length + 32 * l.length ≤ 140737488355328) :
    Calls Tryd.prog 15 #[cur, vl] w fun e w' => ∃ v', e = .returned v' ∧ CJ g w0 v0 v' (bs ++ l.flatMap id) xs w' ∧ KeepB (fun b => b = g) w w' := by
  refine (Out_Sum cur vl bs l w _ h.own (h.it _ hx).1.1 (h.far hx) hb).mono ?_
  rintro e w' ⟨v', rfl, ho, hm⟩
  exact ⟨v', rfl, h.call ho hm⟩
/-- A slice of one thing is made. -/
theorem CJ.mk1 (h : CJ g w0 v0 cur bs xs w) {o : Oper} {a : Act} {K : Act → World → Prop} {Q : Exit → Act → World → Prop} (t : TypeId) (p : Operand) (ho : o.op = .buildSlice t 1 #[(0, p)]) (e : TypeId) (ht : Tryd.prog.underlying t = some (.slice e))
    (ty : Ty) (d : ty.Data) (u : Value) (cs : List Value) (hp : a.eval p = u) (hu : u.cells = cs.toArray) (hh : ∀ W F, ty.holds W F cs d) (hi : (Tryd.prog.info? e).map (·.size) = some cs.length) (hz : ((Tryd.prog.info? e).bind (·.zero)).isSome = true) (hl : cs.length ≤ 16777216) (hn : 0 < cs.length)
    (hk : ∀ v W', CJ g w0 v0 cur bs (⟨ty, [d], v⟩ :: xs) W' → KeepB (fun b => b = g) w W' → K (a.put o.dst v) W') : o.wp Tryd.prog a w K Q := by
  refine wp_oneL w t p ho e u cs ht hp hu hi hz hl hn ?_
  have h1 := h.make (x := ⟨ty, [d], .slice (some ⟨w.heap.size, 0, none⟩) 1 1⟩) (w' := w.alloc (.cells cs.toArray e)) ((Ext.refl w).alloc _) ⟨sl_made rfl rfl rfl (by decide) ⟨cs, [], by simp, hh _ _, rfl⟩, by rintro b ⟨⟩; simp⟩ (by rintro b ⟨⟩; exact Nat.le_refl _)
  exact hk _ _ h1.1 h1.2
/-- A slice of two numbers is made. -/
theorem CJ.mk2 (h : CJ g w0 v0 cur bs xs w) {o : Oper} {a : Act} {K : Act → World → Prop} {Q : Exit → Act → World → Prop} (t : TypeId) (p q : Operand) (ho : o.op = .buildSlice t 2 #[(0, p), (1, q)]) (ht : Tryd.prog.underlying t = some (.slice 22))
    (x y : Nat) (hp : a.eval p = .int .u64 (x : Int)) (hq : a.eval q = .int .u64 (y : Int)) (hx : (Lit.int .u64 (x : Int)).wf = true) (hy : (Lit.int .u64 (y : Int)).wf = true) (hi : (Tryd.prog.info? 22).map (·.size) = some 1) (hz : ((Tryd.prog.info? 22).bind (·.zero)).isSome = true)
    (hk : ∀ v W', CJ g w0 v0 cur bs (⟨.nat .u64, [x, y], v⟩ :: xs) W' → KeepB (fun b => b = g) w W' → K (a.put o.dst v) W') : o.wp Tryd.prog a w K Q := by
  refine wp_twoL w t p q ho 22 (.int .u64 (x : Int)) (.int .u64 (y : Int)) ht hp hq rfl rfl hi hz ?_
  have h1 := h.make (x := ⟨.nat .u64, [x, y], .slice (some ⟨w.heap.size, 0, none⟩) 2 2⟩) (w' := w.alloc (.cells [Value.int .u64 (x : Int), Value.int .u64 (y : Int)].toArray 22)) ((Ext.refl w).alloc _) ⟨sl_made rfl rfl rfl (by decide) ⟨[.int .u64 (x : Int)], _, rfl, ⟨rfl, hx⟩, [.int .u64 (y : Int)], [], rfl, ⟨rfl, hy⟩, rfl⟩, by rintro b ⟨⟩; simp⟩ (by rintro b ⟨⟩; exact Nat.le_refl _)
  exact hk _ _ h1.1 h1.2
end
end Go.Proofs.YtchnjcghbbacoaaDoor

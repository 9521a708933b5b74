/- Walks and plain laws, put together in build order. Conditions: what each of them names. -/
import Derived.Laws.Tables
import Derived.Test.YtmicjaiiinaipaaWfcf3669d87
set_option linter.unusedVariables false
set_option linter.unusedSimpArgs false
set_option linter.unnecessarySimpa false
namespace Go.Proofs.Ytmicjaiiinaipaa
section
open Go.RowKit

section
variable {P : Program} (w : World)
theorem wp_oneL {o : Oper} {a : Act} {K : Act → World → Prop} {Q : Exit → Act → World → Prop} (t : TypeId) (x : Operand) (ho : o.op = .buildSlice t 1 #[(0, x)])
    (e : TypeId) (u : Value) (cs : List Value) (ht : P.underlying t = some (.slice e)) (hx : a.eval x = u) (hv : u.cells = cs.toArray) (hi : (P.info? e).map (·.size) = some cs.length) (hz : ((P.info? e).bind (·.zero)).isSome = true) (hl : cs.length ≤ 16777216) (hn : 0 < cs.length)
    (h : K (a.put o.dst (.slice (some ⟨w.heap.size, 0, none⟩) 1 1)) (w.alloc (.cells cs.toArray e))) : o.wp P a w K Q := by
    obtain ⟨i, hi', hs⟩ := Option.map_eq_some_iff.1 hi
    rw [hi', Option.bind_some] at hz
    obtain ⟨z, hz⟩ := Option.isSome_iff_exists.1 hz
    have hfill : ∀ (c : Array Value), c.size = cs.length → Instr.fill (fun i => some (i * cs.length, cs.length)) c [(0, u)] = some cs.toArray := by
      intro c hc
      rw [fill_list _ c 0 u cs 0 [] hv (by simp) (by omega)]
      simp only [Instr.fill, List.take_zero, List.nil_append, Nat.zero_add]
      rw [List.drop_eq_nil_of_le (by rw [Array.length_toList]; omega), List.append_nil]
    unfold Oper.wp execOp
    have hrun : (Instr.buildSlice t 1 #[(0, u)]).run P w = .ok (.slice (some ⟨w.heap.size, 0, none⟩) 1 1) (w.alloc (.cells cs.toArray e)) := by
      unfold Instr.buildSlice
      simp only [Sem.run_bind, run_underlying ht, Result.andThen_ok, sizeOf, typeInfo, run_program, hi', Sem.run_pure, hs, Nat.one_mul]
      rw [if_neg (by omega)]
      have h0 : ¬ cs.length = 0 := by omega
      simp only [h0, if_false, Sem.run_bind, Sem.run_pure, Result.andThen_ok, zeroValue, typeInfo, run_program, hi', hz]
      have := hfill ((Array.range cs.length).map fun x => z.cells[x % z.cells.size]!) (by simp)
      simp only [this]
      simp [newRow]
    simp only [ho, List.map_toArray, List.map_cons, List.map_nil, hx, Sem.run_bind, hrun, Result.andThen_ok, Sem.run_pure]
    exact h
theorem wp_twoL {o : Oper} {a : Act} {K : Act → World → Prop} {Q : Exit → Act → World → Prop} (t : TypeId) (x y : Operand) (ho : o.op = .buildSlice t 2 #[(0, x), (1, y)])
    (e : TypeId) (u1 u2 : Value) (ht : P.underlying t = some (.slice e)) (hx : a.eval x = u1) (hy : a.eval y = u2) (h1 : u1.cells = #[u1]) (h2 : u2.cells = #[u2]) (hi : (P.info? e).map (·.size) = some 1) (hz : ((P.info? e).bind (·.zero)).isSome = true)
    (h : K (a.put o.dst (.slice (some ⟨w.heap.size, 0, none⟩) 2 2)) (w.alloc (.cells [u1, u2].toArray e))) : o.wp P a w K Q := by
    obtain ⟨i, hi', hs⟩ := Option.map_eq_some_iff.1 hi
    rw [hi', Option.bind_some] at hz
    obtain ⟨z, hz⟩ := Option.isSome_iff_exists.1 hz
    have hfill : ∀ (c : Array Value), c.size = 2 → Instr.fill (fun i => some (i, 1)) c [(0, u1), (1, u2)] = some [u1, u2].toArray := by
      intro c hc
      have hc' : c.toList.length = 2 := by rw [Array.length_toList]; exact hc
      obtain ⟨x0, x1, hx⟩ : ∃ x0 x1, c.toList = [x0, x1] := by
        match hl : c.toList, hc' with
        | [x0, x1], _ => exact ⟨x0, x1, rfl⟩
      rw [fill_list _ c 0 u1 [u1] 0 _ (by simpa using h1) rfl (by simp; omega), hx]
      simp only [List.take_zero, List.nil_append, List.length_singleton, List.drop_succ_cons, List.drop_zero, List.singleton_append]
      rw [fill_list _ _ 1 u2 [u2] 1 _ (by simpa using h2) rfl (by simp)]
      simp [Instr.fill]
    unfold Oper.wp execOp
    have hrun : (Instr.buildSlice t 2 #[(0, u1), (1, u2)]).run P w = .ok (.slice (some ⟨w.heap.size, 0, none⟩) 2 2) (w.alloc (.cells [u1, u2].toArray e)) := by
      unfold Instr.buildSlice
      simp only [Sem.run_bind, run_underlying ht, Result.andThen_ok, sizeOf, typeInfo, run_program, hi', Sem.run_pure, hs, Nat.mul_one]
      rw [if_neg (by omega)]
      simp only [show ¬ (2 = 0) by omega, if_false, Sem.run_bind, Sem.run_pure, Result.andThen_ok, zeroValue, typeInfo, run_program, hi', hz]
      have := hfill ((Array.range 2).map fun x => z.cells[x % z.cells.size]!) (by simp)
      simp only [this]
      simp [newRow]
    simp only [ho, List.map_toArray, List.map_cons, List.map_nil, hx, hy, Sem.run_bind, hrun, Result.andThen_ok, Sem.run_pure]
    exact h
end
section
variable {P : Program} {md : Region.Mode} {ops : Array Oper} {Q : Exit → Act → World → Prop} {R : World → World → Prop}
/-- Each of some operations may be next. -/
def eachM (P : Program) (md : Region.Mode) (ops : Array Oper) (Q : Exit → Act → World → Prop) (R : World → World → Prop) (fuel : Nat) (listed : Array Bool) (a : Act) (w : World) : List Nat → Prop
  | [] => True
  | i :: l => wpOp P ops Q i (fun a' w' => R w w' ∧ wpAnyM P md ops Q R fuel (listed.setIfInBounds i true) a' w') a w ∧ eachM P md ops Q R fuel listed a w l
theorem eachM_mem {fuel : Nat} {listed : Array Bool} {a : Act} {w : World} : ∀ {l : List Nat}, eachM P md ops Q R fuel listed a w l → ∀ i ∈ l, wpOp P ops Q i (fun a' w' => R w w' ∧ wpAnyM P md ops Q R fuel (listed.setIfInBounds i true) a' w') a w
  | [], _, _, h => by cases h
  | j :: l, h, i, hi => by
    rcases List.mem_cons.1 hi with rfl | hi
    · exact h.1
    · exact eachM_mem h.2 i hi
theorem anyofM (j : Nat) (l : List Nat) {fuel : Nat} {listed : Array Bool} {a : Act} {w : World} (hr : Region.ready md ops listed = j :: l) (h : eachM P md ops Q R fuel listed a w (j :: l)) : wpAnyM P md ops Q R (fuel + 1) listed a w := by
  refine ⟨fun h0 => (by rw [hr] at h0; cases h0), fun i hi => ?_⟩
  rw [hr] at hi
  exact eachM_mem h i hi
theorem oneM {i : Nat} {oi : Oper} {fuel : Nat} {listed : Array Bool} {a : Act} {w : World} (hi : (ops.toList.drop i).head? = some oi) (hw : Region.wanted oi (yielded ops a.tmps) = true)
    (h : ∀ K : Act → World → Prop, (∀ a' w', R w w' → wpAnyM P md ops Q R fuel (listed.setIfInBounds i true) a' w' → K a' w') → oi.wp P a w K Q) : wpOp P ops Q i (fun a' w' => R w w' ∧ wpAnyM P md ops Q R fuel (listed.setIfInBounds i true) a' w') a w := by
  refine wpOp_step (op_at hi) (fun K' hK => ?_)
  rw [if_pos hw]
  exact h K' (fun a' w' h1 h2 => hK _ _ ⟨h1, h2⟩)
end
theorem lat0 {Q : Prop} {A : World → Prop} (J : World → Prop) (h1 : (∀ w, J w → A w) → Q) (h2 : ∀ w, J w → A w) : Q := h1 h2
theorem lat1 {Q : Prop} {A : Value → World → Prop} (J : Value → World → Prop) (h1 : (∀ v0 w, J v0 w → A v0 w) → Q) (h2 : ∀ v0 w, J v0 w → A v0 w) : Q := h1 h2
theorem lat2 {Q : Prop} {A : Value → Value → World → Prop} (J : Value → Value → World → Prop) (h1 : (∀ v0 v1 w, J v0 v1 w → A v0 v1 w) → Q) (h2 : ∀ v0 v1 w, J v0 v1 w → A v0 v1 w) : Q := h1 h2
theorem lat3 {Q : Prop} {A : Value → Value → Value → World → Prop} (J : Value → Value → Value → World → Prop) (h1 : (∀ v0 v1 v2 w, J v0 v1 v2 w → A v0 v1 v2 w) → Q) (h2 : ∀ v0 v1 v2 w, J v0 v1 v2 w → A v0 v1 v2 w) : Q := h1 h2
theorem lat4 {Q : Prop} {A : Value → Value → Value → Value → World → Prop} (J : Value → Value → Value → Value → World → Prop) (h1 : (∀ v0 v1 v2 v3 w, J v0 v1 v2 v3 w → A v0 v1 v2 v3 w) → Q) (h2 : ∀ v0 v1 v2 v3 w, J v0 v1 v2 v3 w → A v0 v1 v2 v3 w) : Q := h1 h2
theorem lat5 {Q : Prop} {A : Value → Value → Value → Value → Value → World → Prop} (J : Value → Value → Value → Value → Value → World → Prop) (h1 : (∀ v0 v1 v2 v3 v4 w, J v0 v1 v2 v3 v4 w → A v0 v1 v2 v3 v4 w) → Q) (h2 : ∀ v0 v1 v2 v3 v4 w, J v0 v1 v2 v3 v4 w → A v0 v1 v2 v3 v4 w) : Q := h1 h2
theorem lat6 {Q : Prop} {A : Value → Value → Value → Value → Value → Value → World → Prop} (J : Value → Value → Value → Value → Value → Value → World → Prop) (h1 : (∀ v0 v1 v2 v3 v4 v5 w, J v0 v1 v2 v3 v4 v5 w → A v0 v1 v2 v3 v4 v5 w) → Q) (h2 : ∀ v0 v1 v2 v3 v4 v5 w, J v0 v1 v2 v3 v4 v5 w → A v0 v1 v2 v3 v4 v5 w) : Q := h1 h2
theorem lat7 {Q : Prop} {A : Value → Value → Value → Value → Value → Value → Value → World → Prop} (J : Value → Value → Value → Value → Value → Value → Value → World → Prop) (h1 : (∀ v0 v1 v2 v3 v4 v5 v6 w, J v0 v1 v2 v3 v4 v5 v6 w → A v0 v1 v2 v3 v4 v5 v6 w) → Q) (h2 : ∀ v0 v1 v2 v3 v4 v5 v6 w, J v0 v1 v2 v3 v4 v5 v6 w → A v0 v1 v2 v3 v4 v5 v6 w) : Q := h1 h2
theorem lat8 {Q : Prop} {A : Value → Value → Value → Value → Value → Value → Value → Value → World → Prop} (J : Value → Value → Value → Value → Value → Value → Value → Value → World → Prop) (h1 : (∀ v0 v1 v2 v3 v4 v5 v6 v7 w, J v0 v1 v2 v3 v4 v5 v6 v7 w → A v0 v1 v2 v3 v4 v5 v6 v7 w) → Q) (h2 : ∀ v0 v1 v2 v3 v4 v5 v6 v7 w, J v0 v1 v2 v3 v4 v5 v6 v7 w → A v0 v1 v2 v3 v4 v5 v6 v7 w) : Q := h1 h2
theorem lat9 {Q : Prop} {A : Value → Value → Value → Value → Value → Value → Value → Value → Value → World → Prop} (J : Value → Value → Value → Value → Value → Value → Value → Value → Value → World → Prop) (h1 : (∀ v0 v1 v2 v3 v4 v5 v6 v7 v8 w, J v0 v1 v2 v3 v4 v5 v6 v7 v8 w → A v0 v1 v2 v3 v4 v5 v6 v7 v8 w) → Q) (h2 : ∀ v0 v1 v2 v3 v4 v5 v6 v7 v8 w, J v0 v1 v2 v3 v4 v5 v6 v7 v8 w → A v0 v1 v2 v3 v4 v5 v6 v7 v8 w) : Q := h1 h2
theorem lat10 {Q : Prop} {A : Value → Value → Value → Value → Value → Value → Value → Value → Value → Value → World → Prop} (J : Value → Value → Value → Value → Value → Value → Value → Value → Value → Value → World → Prop) (h1 : (∀ v0 v1 v2 v3 v4 v5 v6 v7 v8 v9 w, J v0 v1 v2 v3 v4 v5 v6 v7 v8 v9 w → A v0 v1 v2 v3 v4 v5 v6 v7 v8 v9 w) → Q) (h2 : ∀ v0 v1 v2 v3 v4 v5 v6 v7 v8 v9 w, J v0 v1 v2 v3 v4 v5 v6 v7 v8 v9 w → A v0 v1 v2 v3 v4 v5 v6 v7 v8 v9 w) : Q := h1 h2
theorem lat11 {Q : Prop} {A : Value → Value → Value → Value → Value → Value → Value → Value → Value → Value → Value → World → Prop} (J : Value → Value → Value → Value → Value → Value → Value → Value → Value → Value → Value → World → Prop) (h1 : (∀ v0 v1 v2 v3 v4 v5 v6 v7 v8 v9 v10 w, J v0 v1 v2 v3 v4 v5 v6 v7 v8 v9 v10 w → A v0 v1 v2 v3 v4 v5 v6 v7 v8 v9 v10 w) → Q) (h2 : ∀ v0 v1 v2 v3 v4 v5 v6 v7 v8 v9 v10 w, J v0 v1 v2 v3 v4 v5 v6 v7 v8 v9 v10 w → A v0 v1 v2 v3 v4 v5 v6 v7 v8 v9 v10 w) : Q := h1 h2
theorem lat12 {Q : Prop} {A : Value → Value → Value → Value → Value → Value → Value → Value → Value → Value → Value → Value → World → Prop} (J : Value → Value → Value → Value → Value → Value → Value → Value → Value → Value → Value → Value → World → Prop) (h1 : (∀ v0 v1 v2 v3 v4 v5 v6 v7 v8 v9 v10 v11 w, J v0 v1 v2 v3 v4 v5 v6 v7 v8 v9 v10 v11 w → A v0 v1 v2 v3 v4 v5 v6 v7 v8 v9 v10 v11 w) → Q) (h2 : ∀ v0 v1 v2 v3 v4 v5 v6 v7 v8 v9 v10 v11 w, J v0 v1 v2 v3 v4 v5 v6 v7 v8 v9 v10 v11 w → A v0 v1 v2 v3 v4 v5 v6 v7 v8 v9 v10 v11 w) : Q := h1 h2
/-! ### What is carried -/
structure Item where
  t : Ty
  d : List t.Data
  v : Value
def Hold (x : Item) (w : World) : Prop := (Ty.sl x.t).holds w (fun b => x.v.ownBlock = some b) [x.v] x.d ∧ ∀ b, x.v.ownBlock = some b → b < w.heap.size
structure CJ (g : Nat) (w0 : World) (v0 cur : Value) (bs : List UInt8) (xs : List Item) (w : World) : Prop where
  mv : Moved w0 w v0 cur
  lt : g < w0.heap.size
  ne : ∀ b, cur.ownBlock = some b → b ≠ g
  own : OwnB w cur bs
  it : ∀ x ∈ xs, Hold x w ∧ ∀ b, cur.ownBlock = some b → x.v.ownBlock ≠ some b
section
variable {g : Nat} {w0 w w' : World} {v0 cur v' : Value} {bs bs' : List UInt8} {xs ys : List Item} {x : Item}
theorem CJ.start (hg : g < w0.heap.size) (ho : OwnB w0 v0 bs) (hne : ∀ b, v0.ownBlock = some b → b ≠ g) : CJ g w0 v0 v0 bs [] w0 := ⟨Moved.refl _ _, hg, hne, ho, fun _ h => by cases h⟩
theorem CJ.sub (h : CJ g w0 v0 cur bs xs w) (hs : ∀ x ∈ ys, x ∈ xs) : CJ g w0 v0 cur bs ys w := ⟨h.mv, h.lt, h.ne, h.own, fun x hx => h.it x (hs x hx)⟩
theorem CJ.ltw (h : CJ g w0 v0 cur bs xs w) : g < w.heap.size := Nat.lt_of_lt_of_le h.lt h.mv.grown.size
theorem CJ.make (h : CJ g w0 v0 cur bs xs w) (hx : Ext w w') (hh : Hold x w') (hn : ∀ b, x.v.ownBlock = some b → w.heap.size ≤ b) : CJ g w0 v0 cur bs (x :: xs) w' ∧ KeepB (fun b => b = g) w w' := by
  have hlt := OwnB.lt h.own
  refine ⟨⟨h.mv.post hx, h.lt, h.ne, h.own.ext hx, fun y hy => ?_⟩, fun b hb => hx.block b (by subst hb; exact h.ltw) (by simp)⟩
  rcases List.mem_cons.1 hy with rfl | hy
  · refine ⟨hh, fun b hb e => ?_⟩
    have h1 := hn b e
    have h2 := hlt b hb
    omega
  · obtain ⟨⟨h1, h2⟩, h3⟩ := h.it y hy
    exact ⟨⟨hx.holds h2 h1, fun b hb => Nat.lt_of_lt_of_le (h2 b hb) hx.size⟩, h3⟩
theorem CJ.call (h : CJ g w0 v0 cur bs xs w) (ho : OwnB w' v' bs') (hm : Moved w w' cur v') : CJ g w0 v0 v' bs' xs w' ∧ KeepB (fun b => b = g) w w' := by
  have hg := h.ltw
  refine ⟨⟨h.mv.trans hm, h.lt, fun b hb => ?_, ho, fun y hy => ?_⟩, fun b hb => by subst hb; exact hm.grown.block b hg (fun e => h.ne _ e.symm rfl)⟩
  · rcases hm.at_ with e | hn
    · exact h.ne b (e.symm.trans hb)
    · have := hn b hb; omega
  · obtain ⟨⟨h1, h2⟩, h3⟩ := h.it y hy
    have hfar : Far (fun b => y.v.ownBlock = some b) w cur := fun b hb => ⟨h2 b hb, fun e => h3 b e hb⟩
    refine ⟨⟨hm.holds hfar h1, fun b hb => Nat.lt_of_lt_of_le (h2 b hb) hm.grown.size⟩, fun b hb e => ?_⟩
    rcases hm.at_ with e' | hn
    · exact h3 b (e'.symm.trans hb) e
    · have h4 := hn b hb
      have h5 := h2 b e
      omega
theorem CJ.far (h : CJ g w0 v0 cur bs xs w) (hx : x ∈ xs) : Far (fun b => x.v.ownBlock = some b) w cur := fun b hb => ⟨(h.it x hx).1.2 b hb, fun e => (h.it x hx).2 b e hb⟩
theorem CJ.one (h : CJ g w0 v0 cur bs xs w) {l : List UInt8} {vl : Value} (hx : (⟨.u8, l, vl⟩ : Item) ∈ xs) (hb : bs.length + l.length ≤ 140737488355328) :
    Calls Try.prog 28 #[cur, vl] w fun e w' => ∃ v', e = .returned v' ∧ CJ g w0 v0 v' (bs ++ l) xs w' ∧ KeepB (fun b => b = g) w w' := by
  refine (Out_One cur vl bs l w _ h.own (h.it _ hx).1.1 hb).mono ?_
  rintro e w' ⟨v', rfl, ho, hm⟩
  exact ⟨v', rfl, h.call ho hm⟩
theorem CJ.four (h : CJ g w0 v0 cur bs xs w) {l : List Nat} {vl : Value} (hx : (⟨.nat .u32, l, vl⟩ : Item) ∈ xs) (hb : bs.length + 4 * l.length ≤ 140737488355328) :
    Calls Try.prog 26 #[cur, vl] w fun e w' => ∃ v', e = .returned v' ∧ CJ g w0 v0 v' (bs ++ l.flatMap (be 4)) xs w' ∧ KeepB (fun b => b = g) w w' := by
  refine (Out_Four cur vl bs l w _ h.own (h.it _ hx).1.1 (h.far hx) hb).mono ?_
  rintro e w' ⟨v', rfl, ho, hm⟩
  exact ⟨v', rfl, h.call ho hm⟩
theorem CJ.eight (h : CJ g w0 v0 cur bs xs w) {l : List Nat} {vl : Value} (hx : (⟨.nat .u64, l, vl⟩ : Item) ∈ xs) (hb : bs.length + 8 * l.length ≤ 140737488355328) :
    Calls Try.prog 27 #[cur, vl] w fun e w' => ∃ v', e = .returned v' ∧ CJ g w0 v0 v' (bs ++ l.flatMap (be 8)) xs w' ∧ KeepB (fun b => b = g) w w' := by
  refine (Out_Eight cur vl bs l w _ h.own (h.it _ hx).1.1 (h.far hx) hb).mono ?_
  rintro e w' ⟨v', rfl, ho, hm⟩
  exact ⟨v', rfl, h.call ho hm⟩
theorem CJ.sum (h : CJ g w0 v0 cur bs xs w) {l : List (List UInt8)} {vl : Value} (hx : (⟨.arr 32 .u8, l, vl⟩ : Item) ∈ xs) (hb : bs.length + 32 * l.length ≤ 140737488355328) :
    Calls Try.prog 48 #[cur, vl] w fun e w' => ∃ v', e = .returned v' ∧ CJ g w0 v0 v' (bs ++ l.flatMap id) xs w' ∧ KeepB (fun b => b = g) w w' := by
  refine (Out_Sum cur vl bs l w _ h.own (h.it _ hx).1.1 (h.far hx) hb).mono ?_
  rintro e w' ⟨v', rfl, ho, hm⟩
  exact ⟨v', rfl, h.call ho hm⟩
/-- A slice of one thing is made. -/
theorem CJ.mk1 (h : CJ g w0 v0 cur bs xs w) {o : Oper} {a : Act} {K : Act → World → Prop} {Q : Exit → Act → World → Prop} (t : TypeId) (p : Operand) (ho : o.op = .buildSlice t 1 #[(0, p)]) (e : TypeId) (ht : Try.prog.underlying t = some (.slice e))
    (ty : Ty) (d : ty.Data) (u : Value) (cs : List Value) (hp : a.eval p = u) (hu : u.cells = cs.toArray) (hh : ∀ W F, ty.holds W F cs d) (hi : (Try.prog.info? e).map (·.size) = some cs.length) (hz : ((Try.prog.info? e).bind (·.zero)).isSome = true) (hl : cs.length ≤ 16777216) (hn : 0 < cs.length)
    (hk : ∀ v W', CJ g w0 v0 cur bs (⟨ty, [d], v⟩ :: xs) W' → KeepB (fun b => b = g) w W' → K (a.put o.dst v) W') : o.wp Try.prog a w K Q := by
  refine wp_oneL w t p ho e u cs ht hp hu hi hz hl hn ?_
  have h1 := h.make (x := ⟨ty, [d], .slice (some ⟨w.heap.size, 0, none⟩) 1 1⟩) (w' := w.alloc (.cells cs.toArray e)) ((Ext.refl w).alloc _) ⟨sl_made rfl rfl rfl (by decide) ⟨cs, [], by simp, hh _ _, rfl⟩, by rintro b ⟨⟩; simp⟩ (by rintro b ⟨⟩; exact Nat.le_refl _)
  exact hk _ _ h1.1 h1.2
/-- A slice of two numbers is made. -/
theorem CJ.mk2 (h : CJ g w0 v0 cur bs xs w) {o : Oper} {a : Act} {K : Act → World → Prop} {Q : Exit → Act → World → Prop} (t : TypeId) (p q : Operand) (ho : o.op = .buildSlice t 2 #[(0, p), (1, q)]) (ht : Try.prog.underlying t = some (.slice 23))
    (x y : Nat) (hp : a.eval p = .int .u64 (x : Int)) (hq : a.eval q = .int .u64 (y : Int)) (hx : (Lit.int .u64 (x : Int)).wf = true) (hy : (Lit.int .u64 (y : Int)).wf = true) (hi : (Try.prog.info? 23).map (·.size) = some 1) (hz : ((Try.prog.info? 23).bind (·.zero)).isSome = true)
    (hk : ∀ v W', CJ g w0 v0 cur bs (⟨.nat .u64, [x, y], v⟩ :: xs) W' → KeepB (fun b => b = g) w W' → K (a.put o.dst v) W') : o.wp Try.prog a w K Q := by
  refine wp_twoL w t p q ho 23 (.int .u64 (x : Int)) (.int .u64 (y : Int)) ht hp hq rfl rfl hi hz ?_
  have h1 := h.make (x := ⟨.nat .u64, [x, y], .slice (some ⟨w.heap.size, 0, none⟩) 2 2⟩) (w' := w.alloc (.cells [Value.int .u64 (x : Int), Value.int .u64 (y : Int)].toArray 23)) ((Ext.refl w).alloc _) ⟨sl_made rfl rfl rfl (by decide) ⟨[.int .u64 (x : Int)], _, rfl, ⟨rfl, hx⟩, [.int .u64 (y : Int)], [], rfl, ⟨rfl, hy⟩, rfl⟩, by rintro b ⟨⟩; simp⟩ (by rintro b ⟨⟩; exact Nat.le_refl _)
  exact hk _ _ h1.1 h1.2
end
end
section
open Go.RowKit

/-- The byte that is made of a number. -/
def byteOf (n : Int) : UInt8 := UInt8.ofNat (n % 256).toNat
theorem byteOf_eq (n : Int) : ((byteOf n).toNat : Int) = n % 256 := by
  have h1 : 0 ≤ n % 256 := Int.emod_nonneg _ (by decide)
  have h2 : n % 256 < 256 := Int.emod_lt_of_pos _ (by decide)
  simp only [byteOf, UInt8.toNat_ofNat']
  omega
theorem u8_sizeU : (Try.prog.info? 5).map (·.size) = some 1 := by kernel_rfl
theorem u8_zeroU : ((Try.prog.info? 5).bind (·.zero)).isSome = true := by kernel_rfl
theorem szDg {n : Nat} (h : n = 32) : (Try.prog.info? 52).map (·.size) = some n := by subst h; kernel_rfl
theorem zDg : ((Try.prog.info? 52).bind (·.zero)).isSome = true := by kernel_rfl
end
section

/-- A payment: number, side, amount, hash, expiry. -/
abbrev Cd := Nat × Int × Nat × List UInt8 × Nat × Unit
abbrev Cd.id (c : Cd) : Nat := c.1
abbrev Cd.side (c : Cd) : Int := c.2.1
abbrev Cd.am (c : Cd) : Nat := c.2.2.1
/-- A state. -/
structure St where
  chan : Nat
  round : Nat
  m0 : Nat
  m1 : Nat
  t0 : Nat
  t1 : Nat
  cs : List Cd
def St.zero : St := ⟨0, 0, 0, 0, 0, 0, []⟩
/-- A wish. -/
structure Wish where
  kind : Int
  am : Nat
  c : Cd
  id : Nat

def M64 : Nat := 18446744073709551616
def addM (a b : Nat) : Nat × Int := if a + b < M64 then (a + b, 0) else (0, 11)
def subM (a b : Nat) : Nat × Int := if a < b then (0, 12) else (a - b, 0)
/-- A sum, from a first one on. -/
def sumM : Nat → List Nat → Nat × Int
  | s, [] => (s, 0)
  | s, a :: l => if s + a < M64 then sumM (s + a) l else (0, 11)
def turnM (round : Nat) : Int := if round % 2 = 1 then 0 else 1
def findM (cs : List Cd) (id : Nat) : Int := if cs.any (fun c => c.1 == id) then (cs.findIdx (fun c => c.1 == id) : Nat) else -1
def ams (cs : List Cd) (side : Int) : List Nat := (cs.filter fun c => c.2.1 == side).map fun c => c.2.2.1
def heldM (cs : List Cd) (side : Int) : Nat × Int := sumM 0 (ams cs side)
def pick2 (a b : Nat) (side : Int) : Nat := if side = 0 then a else b
/-- What is left behind some are taken off. -/
def subL : Nat → List Nat → Nat × Int
  | n, [] => (n, 0)
  | n, a :: l => if n < a then (0, 12) else subL (n - a) l
def freeM (s : St) (p0 p1 : Nat) (side : Int) : Nat × Int :=
  if side = 0 ∨ side = 1 then
    if (heldM s.cs side).2 = 0 then
      if (sumM 0 [pick2 p0 p1 side, pick2 s.m1 s.m0 side]).2 = 0 then
        subL (sumM 0 [pick2 p0 p1 side, pick2 s.m1 s.m0 side]).1 [pick2 s.m0 s.m1 side, pick2 s.t0 s.t1 side, (heldM s.cs side).1]
      else (0, 11)
    else (0, 11)
  else (0, 1)
theorem sumM_cases : ∀ (l : List Nat) (n : Nat), n < M64 → (∃ m, m < M64 ∧ sumM n l = (m, 0)) ∨ sumM n l = (0, 11)
  | [], n, h => .inl ⟨n, h, rfl⟩
  | a :: l, n, h => by
    by_cases hov : n + a < M64
    · rw [sumM, if_pos hov]; exact sumM_cases l _ hov
    · rw [sumM, if_neg hov]; exact .inr rfl
theorem subL_cases : ∀ (l : List Nat) (n : Nat), n < M64 → (∃ m, m < M64 ∧ subL n l = (m, 0)) ∨ subL n l = (0, 12)
  | [], n, h => .inl ⟨n, h, rfl⟩
  | a :: l, n, h => by
    by_cases hov : n < a
    · rw [subL, if_pos hov]; exact .inr rfl
    · rw [subL, if_neg hov]; exact subL_cases l _ (by omega)
/-- What is wrong with the payments, from a place on; 0: nothing. -/
def badM (cs : List Cd) : Nat → List Cd → Int
  | _, [] => 0
  | i, c :: l => if (c.2.1 ≠ 0 ∧ c.2.1 ≠ 1) ∨ c.2.2.1 = 0 then 1 else if findM cs c.1 ≠ i then 7 else badM cs (i + 1) l
def soundM (s : St) (p0 p1 : Nat) : Int :=
  if 200 < s.round ∨ 8 < s.cs.length then 8
  else if badM s.cs 0 s.cs ≠ 0 then badM s.cs 0 s.cs
  else if (freeM s p0 p1 0).2 ≠ 0 then (freeM s p0 p1 0).2
  else (freeM s p0 p1 1).2
def spendM (s : St) (p0 p1 : Nat) (side : Int) (am : Nat) : Int :=
  if am = 0 then 1 else if (freeM s p0 p1 side).2 ≠ 0 then (freeM s p0 p1 side).2 else if (freeM s p0 p1 side).1 < am then 28 else 0
def actM (s : St) (p0 p1 : Nat) (side : Int) (o : Wish) : St × Int :=
  if o.kind = 0 then (s, 0)
  else if o.kind = 1 then
    if spendM s p0 p1 side o.am ≠ 0 then (.zero, spendM s p0 p1 side o.am)
    else if (addM (pick2 s.m0 s.m1 side) o.am).2 ≠ 0 then (.zero, 11)
    else (if side = 0 then { s with m0 := s.m0 + o.am } else { s with m1 := s.m1 + o.am }, 0)
  else if o.kind = 5 then
    if spendM s p0 p1 side o.am ≠ 0 then (.zero, spendM s p0 p1 side o.am)
    else if (addM (pick2 s.t0 s.t1 side) o.am).2 ≠ 0 then (.zero, 11)
    else (if side = 0 then { s with t0 := s.t0 + o.am } else { s with t1 := s.t1 + o.am }, 0)
  else if o.kind = 2 then
    if o.c.2.1 ≠ side then (.zero, 1)
    else if 0 ≤ findM s.cs o.c.1 then (.zero, 7)
    else if 8 ≤ s.cs.length then (.zero, 4)
    else if spendM s p0 p1 side o.c.2.2.1 ≠ 0 then (.zero, spendM s p0 p1 side o.c.2.2.1)
    else ({ s with cs := s.cs ++ [o.c] }, 0)
  else if o.kind = 3 ∨ o.kind = 4 then
    if findM s.cs o.id < 0 then (.zero, 6)
    else
      match s.cs[(findM s.cs o.id).toNat]? with
      | none => (.zero, 6)
      | some c =>
        if o.kind = 4 then ({ s with cs := s.cs.eraseIdx (findM s.cs o.id).toNat }, 0)
        else if (addM (pick2 s.m0 s.m1 c.2.1) c.2.2.1).2 ≠ 0 then (.zero, 11)
        else (if c.2.1 = 0 then { s with m0 := s.m0 + c.2.2.1, cs := s.cs.eraseIdx (findM s.cs o.id).toNat } else { s with m1 := s.m1 + c.2.2.1, cs := s.cs.eraseIdx (findM s.cs o.id).toNat }, 0)
  else (.zero, 33)
def nextM (s : St) (p0 p1 : Nat) (side : Int) (o : Wish) : St × Int :=
  if soundM s p0 p1 ≠ 0 then (.zero, soundM s p0 p1)
  else if 200 ≤ s.round then (.zero, 8)
  else if side ≠ turnM (s.round + 1) then (.zero, 26)
  else if (actM s p0 p1 side o).2 ≠ 0 then (.zero, (actM s p0 p1 side o).2)
  else if soundM { (actM s p0 p1 side o).1 with round := s.round + 1 } p0 p1 ≠ 0 then (.zero, soundM { (actM s p0 p1 side o).1 with round := s.round + 1 } p0 p1)
  else ({ (actM s p0 p1 side o).1 with round := s.round + 1 }, 0)
end
section
open Go.RowKit

theorem seg_fold : ∀ (cs : List Value) (off k : Nat) (xs : List Value), off + k + cs.length ≤ xs.length →
    (cs.zipIdx k).foldl (fun (a : Array Value) (p : Value × Nat) => a.setIfInBounds (off + p.2) p.1) xs.toArray = (xs.take (off + k) ++ cs ++ xs.drop (off + k + cs.length)).toArray
  | [], off, k, xs, _ => by simp
  | c :: cs, off, k, xs, h => by
    simp only [List.length_cons] at h
    rw [List.zipIdx_cons, List.foldl_cons, List.setIfInBounds_toArray, seg_fold cs off (k + 1) _ (by simp; omega)]
    congr 1
    rw [List.length_cons, show off + (k + 1) + cs.length = off + k + (cs.length + 1) by omega, List.drop_set_of_lt (by omega), show off + (k + 1) = off + k + 1 by omega,
      List.take_add_one, List.take_set_of_le (by omega), List.getElem?_set_self (by omega)]
    simp
/-- What a build yields, over lists. -/
def fillL (place : Nat → Option (Nat × Nat)) (cells : List Value) : List (Nat × List Value) → Option (List Value)
  | [] => some cells
  | (i, v) :: rest =>
    match place i with
    | none => none
    | some (off, size) => if v.length ≠ size ∨ off + v.length > cells.length then none else fillL place (cells.take off ++ v ++ cells.drop (off + v.length)) rest
theorem fill_segs (place : Nat → Option (Nat × Nat)) : ∀ (parts : List (Nat × Value)) (segs : List (Nat × List Value)) (cells : List Value) (r : List Value), parts.map (fun p => (p.1, p.2.cells)) = segs.map (fun p => (p.1, p.2.toArray)) →
    fillL place cells segs = some r → Instr.fill place cells.toArray parts = some r.toArray
  | [], [], cells, r, _, h => by simp [fillL] at h; subst h; rfl
  | [], _ :: _, _, _, h, _ => by simp at h
  | _ :: _, [], _, _, h, _ => by simp at h
  | (i, v) :: parts, (i', u) :: segs, cells, r, h, hf => by
    simp only [List.map_cons, List.cons.injEq, Prod.mk.injEq] at h
    obtain ⟨⟨rfl, hv⟩, h⟩ := h
    unfold fillL at hf
    unfold Instr.fill
    cases hp : place i with
    | none => rw [hp] at hf; cases hf
    | some p =>
      obtain ⟨off, size⟩ := p
      rw [hp] at hf
      simp only at hf ⊢
      split at hf
      · cases hf
      · rename_i hc
        have h1 : u.length = size := by omega
        have h2 : off + u.length ≤ cells.length := by omega
        rw [hv, if_neg (by simp [h1]; omega)]
        have := seg_fold u off 0 cells (by omega)
        simp only [Nat.add_zero] at this
        have hz : u.toArray.zipIdx.foldl (fun (a : Array Value) (p : Value × Nat) => a.setIfInBounds (off + p.2) p.1) cells.toArray = (cells.take off ++ u ++ cells.drop (off + u.length)).toArray := by
          rw [← this]; simp
        have hz2 : (u.toArray.zipIdx.foldl (fun cs (c, j) => cs.setIfInBounds (off + j) c) cells.toArray) = (cells.take off ++ u ++ cells.drop (off + u.length)).toArray := hz
        rw [hz2]
        exact fill_segs place parts segs _ r h hf
theorem run_build_st {P : Program} (w : World) (t : TypeId) (parts : Array (Nat × Value)) (fields : Array Field) (z r : List Value) (places : List (Nat × Nat)) (segs : List (Nat × List Value)) (hu : P.underlying t = some (.struct fields))
    (hz : (P.info? t).bind (fun i => i.zero.map (·.cells)) = some z.toArray) (hp : fields.toList.mapM (fun f => (P.info? f.type).map fun i => (f.offset, i.size)) = some places)
    (hs : parts.toList.map (fun p => (p.1, p.2.cells)) = segs.map (fun p => (p.1, p.2.toArray))) (hf : fillL (places.toArray[·]?) z segs = some r) : (Instr.build t parts).run P w = .ok (.agg r.toArray) w := by
  obtain ⟨i, hi, hzz⟩ := Option.bind_eq_some_iff.1 hz
  obtain ⟨zv, hzv, hzc⟩ := Option.map_eq_some_iff.1 hzz
  refine run_build w t parts _ ?_
  unfold Program.built
  simp only [hi, hu, hzv, hp, hzc]
  exact fill_segs _ _ _ _ _ hs hf
theorem exec_build_st {P : Program} {o : Oper} {a : Act} (w : World) (t : TypeId) (parts : Array (Nat × Operand)) (ho : o.op = .build t parts) (fields : Array Field) (z r : List Value) (places : List (Nat × Nat)) (segs : List (Nat × List Value)) (hu : P.underlying t = some (.struct fields))
    (hz : (P.info? t).bind (fun i => i.zero.map (·.cells)) = some z.toArray) (hp : fields.toList.mapM (fun f => (P.info? f.type).map fun i => (f.offset, i.size)) = some places)
    (hs : (parts.map fun p => (p.1, a.eval p.2)).toList.map (fun p => (p.1, p.2.cells)) = segs.map (fun p => (p.1, p.2.toArray))) (hf : fillL (places.toArray[·]?) z segs = some r) : (execOp a.eval o).run P w = .ok (.value (.agg r.toArray)) w := by
  unfold execOp
  simp only [ho]
  rw [Sem.run_bind, run_build_st w t _ fields z r places segs hu hz hp hs hf]
  simp
/-- A struct built from parts, some of them lists of cells. -/
theorem wpList_build_st {P : Program} {w : World} {ops : Array Oper} {rest : List Oper} {o : Oper} {a : Act} {Q : Exit → Act → World → Prop} (hgd : o.guard = none ∨ Region.wanted o (yielded ops a.tmps) = true) (t : TypeId) (parts : Array (Nat × Operand)) (ho : o.op = .build t parts) (fields : Array Field) (z r : List Value) (places : List (Nat × Nat)) (segs : List (Nat × List Value)) (hu : P.underlying t = some (.struct fields))
    (hz : (P.info? t).bind (fun i => i.zero.map (·.cells)) = some z.toArray) (hp : fields.toList.mapM (fun f => (P.info? f.type).map fun i => (f.offset, i.size)) = some places)
    (hs : (parts.map fun p => (p.1, a.eval p.2)).toList.map (fun p => (p.1, p.2.cells)) = segs.map (fun p => (p.1, p.2.toArray))) (hf : fillL (places.toArray[·]?) z segs = some r)
    (h : wpList P ops Q rest (a.put o.dst (.agg r.toArray)) w) : wpList P ops Q (o :: rest) a w :=
  wpList_build hgd t parts ho _ (exec_build_st w t parts ho fields z r places segs hu hz hp hs hf) h
theorem quiet_build_st {P : Program} {C : World → Prop} {o : Oper} {a : Act} {K : Act → Prop} (t : TypeId) (parts : Array (Nat × Operand)) (ho : o.op = .build t parts) (fields : Array Field) (z r : List Value) (places : List (Nat × Nat)) (segs : List (Nat × List Value)) (hu : P.underlying t = some (.struct fields))
    (hz : (P.info? t).bind (fun i => i.zero.map (·.cells)) = some z.toArray) (hp : fields.toList.mapM (fun f => (P.info? f.type).map fun i => (f.offset, i.size)) = some places)
    (hs : (parts.map fun p => (p.1, a.eval p.2)).toList.map (fun p => (p.1, p.2.cells)) = segs.map (fun p => (p.1, p.2.toArray))) (hf : fillL (places.toArray[·]?) z segs = some r)
    (h : K (a.put o.dst (.agg r.toArray))) : o.quiet P a C K :=
  quiet_run _ (fun w _ => exec_build_st w t parts ho fields z r places segs hu hz hp hs hf) h
end
section
open Go.RowKit

section
variable {P : Program} {md : Region.Mode} {ops : Array Oper} {Q : Exit → Act → World → Prop} {R : World → World → Prop} {late : Nat}
/-- Whatever order is picked from here on; each step but one leads to a later world. -/
def wpAnyL (P : Program) (md : Region.Mode) (ops : Array Oper) (Q : Exit → Act → World → Prop) (late : Nat) (R : World → World → Prop) : Nat → Array Bool → Act → World → Prop
  | 0, listed, a, w => Region.ready md ops listed = [] ∧ Q .normal a w
  | fuel + 1, listed, a, w =>
    (Region.ready md ops listed = [] → Q .normal a w) ∧
    ∀ i ∈ Region.ready md ops listed, wpOp P ops Q i (fun a' w' => (i ≠ late → R w w') ∧ wpAnyL P md ops Q late R fuel (listed.setIfInBounds i true) a' w') a w
theorem wpAny_of_late : ∀ (fuel : Nat) (listed : Array Bool) (a : Act) (w : World), wpAnyL P md ops Q late R fuel listed a w → wpAny P md ops Q fuel listed a w
  | 0, _, _, _, h => h
  | fuel + 1, _, _, _, h => ⟨h.1, fun i hi => wpOp_mono (fun a' w' h' => wpAny_of_late fuel _ a' w' h'.2) (h.2 i hi)⟩
/-- A chain of operations, each of which waits for the one before it; none has come. -/
def chainB (md : Region.Mode) (ops : Array Oper) (listed : Array Bool) : Nat → List Nat → Bool
  | _, [] => true
  | i, k :: l => (listed.getD k true == false) && (match ops[k]? with | some o => o.after.any (fun e => Region.binds md e && e.on == i) | none => false) && chainB md ops listed k l
theorem chain_ready {listed : Array Bool} : ∀ {path : List Nat} {i : Nat}, chainB md ops listed i path = true → listed.getD i true = false → ∀ k ∈ path, k ∉ Region.ready md ops listed
  | [], _, _, _, k, hk => by cases hk
  | p :: l, i, h, hi, k, hk => by
    simp only [chainB, Bool.and_eq_true, beq_iff_eq] at h
    obtain ⟨⟨h1, h2⟩, h3⟩ := h
    rcases List.mem_cons.1 hk with rfl | hk
    · intro hr
      obtain ⟨_, ok, hok, hall⟩ := Go.mem_ready.1 hr
      rw [hok] at h2
      obtain ⟨e, he, hb⟩ := Array.any_eq_true'.1 h2
      simp only [Bool.and_eq_true, beq_iff_eq] at hb
      have h4 := hall e he hb.1
      rw [hb.2] at h4
      rcases Nat.lt_or_ge i listed.size with h' | h'
      · simp [h'] at hi h4; rw [hi] at h4; cases h4
      · simp [Array.getElem?_eq_none h'] at h4
    · exact chain_ready h3 h1 k hk
theorem chain_step {listed : Array Bool} {j : Nat} : ∀ {path : List Nat} {i : Nat}, chainB md ops listed i path = true → (∀ k ∈ path, k ≠ j) → chainB md ops (listed.setIfInBounds j true) i path = true
  | [], _, _, _ => rfl
  | p :: l, i, h, hj => by
    simp only [chainB, Bool.and_eq_true, beq_iff_eq] at h ⊢
    obtain ⟨⟨h1, h2⟩, h3⟩ := h
    refine ⟨⟨?_, h2⟩, chain_step h3 fun k hk => hj k (List.mem_cons_of_mem _ hk)⟩
    have hne : j ≠ p := fun e => hj p (List.mem_cons_self ..) e.symm
    simpa [Array.getElem?_setIfInBounds_ne hne] using h1
theorem wpAnyL_first (hrf : ∀ a, R a a) {i : Nat} {oi : Oper} {v : Value} (hi : ops[i]? = some oi) (hsel : ∀ (j : Nat) (o : Oper) cs b, ops[j]? = some o → o.op ≠ .select cs b)
    (hQ : ∀ c a w, Q (.panic c) (a.put oi.dst v) w → Q (.panic c) a w) (S : World → Prop) (hS' : ∀ a b, S a → R a b → S b) (path : List Nat) (hlp : late ∈ path ∨ ∀ b, S b) :
    ∀ (fuel : Nat) (listed : Array Bool) (a : Act) (w : World),
      (∀ j oj, ops[j]? = some oj → j ≠ i → listed.getD j true = false → (∀ e ∈ oj.after, Region.binds md e = true → e.on ≠ i) → oi.apart ops oj = true) →
      chainB md ops listed i path = true →
      i ∈ Region.ready md ops listed → YieldsIf P ops S oi v a → S w →
      wpAnyL P md ops Q late R fuel (listed.setIfInBounds i true) (a.put oi.dst v) w → wpAnyL P md ops Q late R (fuel + 1) listed a w := by
  intro fuel
  induction fuel with
  | zero =>
    intro listed a w _ _ hr hy hS H
    refine ⟨fun h => (by rw [h] at hr; cases hr), fun j hj => ?_⟩
    by_cases hji : j = i
    · subst hji; exact hy.wpOp hi hS ⟨fun _ => hrf _, H⟩
    · have := readyM_mono hj hji
      rw [H.1] at this
      cases this
  | succ fuel ih =>
    intro listed a w hfree hch hr hy hS H
    refine ⟨fun h => (by rw [h] at hr; cases hr), fun j hj => ?_⟩
    by_cases hji : j = i
    · subst hji; exact hy.wpOp hi hS ⟨fun _ => hrf _, H⟩
    · have h1 := H.2 j (readyM_mono hj hji)
      obtain ⟨hjun, oj, hoj, hall⟩ := Go.mem_ready.1 hj
      have hiun := (Go.mem_ready.1 hr).1
      have hnp : ∀ k ∈ path, k ≠ j := fun k hk e => chain_ready hch hiun k hk (e ▸ hj)
      have hnot : ∀ e ∈ oj.after, Region.binds md e = true → e.on ≠ i := fun e he hb heq => by
        have h1 := hall e he hb
        have h0 := hiun
        rw [heq] at h1
        rcases Nat.lt_or_ge i listed.size with h' | h'
        · simp [h'] at h0 h1; rw [h0] at h1; cases h1
        · simp [Array.getElem?_eq_none h'] at h1
      have h2 := wpOp_putIf hoj (hfree j oj hoj hji hjun hnot) (fun cs b => hsel i oi cs b hi) (fun cs b => hsel j oj cs b hoj) hQ hy h1
      have hfree' : ∀ k ok, ops[k]? = some ok → k ≠ i → (listed.setIfInBounds j true).getD k true = false →
          (∀ e ∈ ok.after, Region.binds md e = true → e.on ≠ i) → oi.apart ops ok = true := fun k ok hk hki hun hno => by
        refine hfree k ok hk hki ?_ hno
        by_cases hjk : j = k
        · subst hjk; exact hjun
        · rw [getD_set_ne true hjk] at hun; exact hun
      refine wpOp_mono (fun a' w' h3 => ⟨h3.2.1, ih (listed.setIfInBounds j true) a' w' hfree' (chain_step hch hnp) (readyM_mono hr (Ne.symm hji)) h3.1 ?_ ?_⟩) h2
      · rcases hlp with hl | hl
        · exact hS' _ _ hS (h3.2.1 fun e => hnp _ hl e.symm)
        · exact hl _
      · rw [Array.setIfInBounds_comm _ _ hji]
        exact h3.2.2
/-- Number i is taken first; it is bound to come ahead of 'late'. -/
theorem takeL (hrf : ∀ a, R a a) (htr : ∀ a b c, R a b → R b c → R a c) (i : Nat) (path : List Nat) {oi : Oper} {fuel : Nat} {listed : Array Bool} {a : Act} {w : World} (hi : (ops.toList.drop i).head? = some oi)
    (hs : Region.noSelect ops = true) (hf : Region.free md ops listed i = true) (hr : (Region.ready md ops listed).contains i = true) (hch : (chainB md ops listed i path && path.contains late) = true) (hc : valB oi.op = true)
    (hQ : ∀ v c a w, Q (.panic c) (a.put oi.dst v) w → Q (.panic c) a w) (hw : Region.wanted oi (yielded ops a.tmps) = true)
    (h : ∀ K : Act → Prop, (∀ a', wpAnyL P md ops Q late R fuel (listed.setIfInBounds i true) a' w → K a') → oi.quiet P a (R w) K) : wpAnyL P md ops Q late R (fuel + 1) listed a w := by
  rw [Bool.and_eq_true] at hch
  obtain ⟨v, h1, h2⟩ := quiet_val hc (h _ (fun _ h => h))
  exact wpAnyL_first hrf (op_at hi) (Region.noSelect_spec hs) (hQ v) (R w) (fun b c h1 h2 => htr _ _ _ h1 h2) path (.inl (by simpa using hch.2)) fuel listed a w (Region.free_spec (op_at hi) hf) hch.1 (by simpa using hr) (.inl ⟨hw, h1⟩) (hrf w) h2
/-- .. it asks no world. -/
theorem takeN (hrf : ∀ a, R a a) (i : Nat) {oi : Oper} {fuel : Nat} {listed : Array Bool} {a : Act} {w : World} (hi : (ops.toList.drop i).head? = some oi)
    (hs : Region.noSelect ops = true) (hf : Region.free md ops listed i = true) (hr : (Region.ready md ops listed).contains i = true) (hc : valB oi.op = true)
    (hQ : ∀ v c a w, Q (.panic c) (a.put oi.dst v) w → Q (.panic c) a w) (hw : Region.wanted oi (yielded ops a.tmps) = true)
    (h : ∀ K : Act → Prop, (∀ a', wpAnyL P md ops Q late R fuel (listed.setIfInBounds i true) a' w → K a') → oi.quiet P a (Any w) K) : wpAnyL P md ops Q late R (fuel + 1) listed a w := by
  obtain ⟨v, h1, h2⟩ := quiet_val hc (h _ (fun _ h => h))
  exact wpAnyL_first hrf (op_at hi) (Region.noSelect_spec hs) (hQ v) (Any w) (fun _ _ _ _ => trivial) [] (.inr fun _ => trivial) fuel listed a w (Region.free_spec (op_at hi) hf) rfl (by simpa using hr) (.inl ⟨hw, h1⟩) trivial h2
/-- A nil check of an address. -/
theorem nilL (hrf : ∀ a, R a a) (i : Nat) {oi : Oper} {fuel : Nat} {listed : Array Bool} {a : Act} {w : World} (hi : (ops.toList.drop i).head? = some oi)
    (hs : Region.noSelect ops = true) (hf : Region.free md ops listed i = true) (hr : (Region.ready md ops listed).contains i = true) (x : Operand) (ho : oi.op = .nilCheck x) (ad : Addr) (hx : a.eval x = .pointer (some ad))
    (hQ : ∀ v c a w, Q (.panic c) (a.put oi.dst v) w → Q (.panic c) a w) (hw : Region.wanted oi (yielded ops a.tmps) = true)
    (h : wpAnyL P md ops Q late R fuel (listed.setIfInBounds i true) (a.put oi.dst (.pointer (some ad))) w) : wpAnyL P md ops Q late R (fuel + 1) listed a w := by
  have h1 : ∀ w', Any w w' → (execOp a.eval oi).run P w' = .ok (.value (.pointer (some ad))) w' := fun w' _ => by
    unfold execOp
    simp only [ho, hx]
    rfl
  exact wpAnyL_first hrf (op_at hi) (Region.noSelect_spec hs) (hQ _) (Any w) (fun _ _ _ _ => trivial) [] (.inr fun _ => trivial) fuel listed a w (Region.free_spec (op_at hi) hf) rfl (by simpa using hr) (.inl ⟨hw, h1⟩) trivial h
theorem skipL (hrf : ∀ a, R a a) (i : Nat) {oi : Oper} {fuel : Nat} {listed : Array Bool} {a : Act} {w : World} (hi : (ops.toList.drop i).head? = some oi)
    (hs : Region.noSelect ops = true) (hf : Region.free md ops listed i = true) (hr : (Region.ready md ops listed).contains i = true)
    (hQ : ∀ v c a w, Q (.panic c) (a.put oi.dst v) w → Q (.panic c) a w) (hw : Region.wanted oi (yielded ops a.tmps) = false)
    (h : wpAnyL P md ops Q late R fuel (listed.setIfInBounds i true) (a.put oi.dst undef) w) : wpAnyL P md ops Q late R (fuel + 1) listed a w :=
  wpAnyL_first hrf (op_at hi) (Region.noSelect_spec hs) (hQ _) (fun _ => True) (fun _ _ _ _ => trivial) [] (.inr fun _ => trivial) fuel listed a w (Region.free_spec (op_at hi) hf) rfl (by simpa using hr) (.inr ⟨hw, rfl⟩) trivial h
theorem stepL (i : Nat) {oi : Oper} {fuel : Nat} {listed : Array Bool} {a : Act} {w : World} (hi : (ops.toList.drop i).head? = some oi) (hr : Region.ready md ops listed = [i]) (hw : Region.wanted oi (yielded ops a.tmps) = true)
    (h : ∀ K : Act → World → Prop, (∀ a' w', (i ≠ late → R w w') → wpAnyL P md ops Q late R fuel (listed.setIfInBounds i true) a' w' → K a' w') → oi.wp P a w K Q) : wpAnyL P md ops Q late R (fuel + 1) listed a w := by
  refine ⟨fun h0 => (by rw [hr] at h0; cases h0), fun j hj => ?_⟩
  rw [hr] at hj
  obtain rfl : j = i := by simpa using hj
  refine wpOp_step (op_at hi) (fun K' hK => ?_)
  rw [if_pos hw]
  exact h K' (fun a' w' h1 h2 => hK _ _ ⟨h1, h2⟩)
theorem doneL {listed : Array Bool} {a : Act} {w : World} (hr : Region.ready md ops listed = []) (h : Q .normal a w) : ∀ fuel, wpAnyL P md ops Q late R fuel listed a w
  | 0 => ⟨hr, h⟩
  | _ + 1 => ⟨fun _ => h, by rw [hr]; simp⟩
theorem startL {id : Nat} {a : Act} {w : World} (late : Nat) (R : World → World → Prop) (hm : P.follows .mixedOrders = true)
    (h : wpAnyL P .any ops Q late R ops.size (Array.replicate ops.size false) a w.drew) : (Code.region id ops true).wp P Q a w :=
  wp_region_any hm (wpAny_of_late _ _ _ _ h)
end
end
section
open Go.RowKit

theorem Blk.fresh {w : World} {G : Nat} (hG : w.heap.size = G) (t : TypeId) (cs : List Value) : Blk (w.alloc (.cells cs.toArray t)) G t cs := by subst hG; exact Blk.new w t cs
/-- A list with a stretch of it replaced. -/
def putAt (old : List Value) (off : Nat) (cs : List Value) : List Value := old.take off ++ cs ++ old.drop (off + cs.length)
theorem putAt_len {old cs : List Value} {off : Nat} (h : off + cs.length ≤ old.length) : (putAt old off cs).length = old.length := by
  simp only [putAt, List.length_append, List.length_take, List.length_drop]; omega
theorem putAt_get {old cs : List Value} {off : Nat} (h : off + cs.length ≤ old.length) (i : Nat) :
    (putAt old off cs)[i]? = if i < off then old[i]? else if i < off + cs.length then cs[i - off]? else old[i]? := by
  have h1 : (old.take off).length = off := by rw [List.length_take]; omega
  unfold putAt
  rw [List.append_assoc]
  by_cases hi : i < off
  · rw [if_pos hi, List.getElem?_append_left (by omega), List.getElem?_take, if_pos hi]
  · rw [if_neg hi, List.getElem?_append_right (by omega), h1]
    by_cases hj : i < off + cs.length
    · rw [if_pos hj, List.getElem?_append_left (by omega)]
    · rw [if_neg hj, List.getElem?_append_right (by omega), List.getElem?_drop]
      congr 1; omega
theorem putAt_one {old cs : List Value} {off : Nat} (h1 : ∀ u ∈ old, u.oneCell' = true) (h2 : ∀ u ∈ cs, u.oneCell' = true) : ∀ u ∈ putAt old off cs, u.oneCell' = true := by
  intro u hu
  rcases List.mem_append.1 hu with hu | hu
  · rcases List.mem_append.1 hu with hu | hu
    · exact h1 u (List.mem_of_mem_take hu)
    · exact h2 u hu
  · exact h1 u (List.mem_of_mem_drop hu)
section
variable {P : Program} (w : World)
theorem run_store_part (g off : Nat) (t : TypeId) (old cs : List Value) (hg : w.heap[g]? = some (.cells old.toArray t (0, 0))) (hl : off + cs.length ≤ old.length) (h1 : ∀ u ∈ cs, u.oneCell' = true) :
    (storeCells ⟨g, off, none⟩ cs).run P w = .ok () (w.setRow g (putAt old off cs).toArray) := by
  have h := run_storeCells_at P g off t cs 0 old.toArray w hg (by simpa using hl) h1
  simpa [putAt] using h
theorem wpList_store_part {ops : Array Oper} {rest : List Oper} {o : Oper} {a : Act} {Q : Exit → Act → World → Prop} (hgd : o.guard = none) (ty : TypeId) (p x : Operand) (ho : o.op = .store ty p x)
    (g off : Nat) (hp : a.eval p = .pointer (some ⟨g, off, none⟩)) (old cs : List Value) (t : TypeId) (hx : a.eval x = .agg cs.toArray) (hg : w.heap[g]? = some (.cells old.toArray t (0, 0)))
    (hi : (P.info? ty).map (·.size) = some cs.length) (hl : off + cs.length ≤ old.length) (h1 : ∀ u ∈ cs, u.oneCell' = true)
    (h : wpList P ops Q rest (a.put o.dst undef) (w.setRow g (putAt old off cs).toArray)) : wpList P ops Q (o :: rest) a w :=
  wpList_plain hgd fun K hK => by
    obtain ⟨i, hi', hs⟩ := Option.map_eq_some_iff.1 hi
    unfold Oper.wp execOp
    simp only [ho, hp, hx, Instr.storeAt, Instr.sureAddr, storeVar, sizeOf, typeInfo, Sem.run_bind, run_program, Result.andThen_ok, hi', Sem.run_pure, hs, Value.cells, List.size_toArray, ne_eq, not_true, if_false,
      run_store_part w g off t old cs hg hl h1]
    exact hK _ _ h
theorem wp_store_part {o : Oper} {a : Act} {K : Act → World → Prop} {Q : Exit → Act → World → Prop} (ty : TypeId) (p x : Operand) (ho : o.op = .store ty p x)
    (g off : Nat) (hp : a.eval p = .pointer (some ⟨g, off, none⟩)) (old cs : List Value) (t : TypeId) (hx : a.eval x = .agg cs.toArray) (hg : w.heap[g]? = some (.cells old.toArray t (0, 0)))
    (hi : (P.info? ty).map (·.size) = some cs.length) (hl : off + cs.length ≤ old.length) (h1 : ∀ u ∈ cs, u.oneCell' = true)
    (h : K (a.put o.dst undef) (w.setRow g (putAt old off cs).toArray)) : o.wp P a w K Q := by
  obtain ⟨i, hi', hs⟩ := Option.map_eq_some_iff.1 hi
  unfold Oper.wp execOp
  simp only [ho, hp, hx, Instr.storeAt, Instr.sureAddr, storeVar, sizeOf, typeInfo, Sem.run_bind, run_program, Result.andThen_ok, hi', Sem.run_pure, hs, Value.cells, List.size_toArray, ne_eq, not_true, if_false,
    run_store_part w g off t old cs hg hl h1]
  exact h
end

theorem addr_at (g n : Nat) : (⟨g, 0, none⟩ : Addr).add n = ⟨g, n, none⟩ := by unfold Addr.add; split <;> simp_all
/-- Of a signature's pieces the first k pairs are there. -/
def mixAt (C Z : List Value) (k : Nat) : List Value := (List.range 1024).map fun i => if i % 512 < k * 16 then C.getD i undef else Z.getD i undef
theorem mixAt_len (C Z : List Value) (k : Nat) : (mixAt C Z k).length = 1024 := by simp [mixAt]
theorem mixAt_get (C Z : List Value) (hC : C.length = 1024) (hZ : Z.length = 1024) (k i : Nat) : (mixAt C Z k)[i]? = if i % 512 < k * 16 then C[i]? else Z[i]? := by
  unfold mixAt
  rw [List.getElem?_map]
  by_cases hi : i < 1024
  · rw [List.getElem?_range hi]
    show some (if i % 512 < k * 16 then C.getD i undef else Z.getD i undef) = _
    by_cases hk : i % 512 < k * 16
    · rw [if_pos hk, if_pos hk, List.getElem?_eq_getElem (by omega), List.getD_eq_getElem?_getD, List.getElem?_eq_getElem (by omega)]; rfl
    · rw [if_neg hk, if_neg hk, List.getElem?_eq_getElem (by omega), List.getD_eq_getElem?_getD, List.getElem?_eq_getElem (by omega)]; rfl
  · rw [List.getElem?_eq_none (by simpa using hi)]
    show none = _
    split
    · rw [List.getElem?_eq_none (by omega)]
    · rw [List.getElem?_eq_none (by omega)]
theorem mixAt_zero (C Z : List Value) (hC : C.length = 1024) (hZ : Z.length = 1024) : mixAt C Z 0 = Z := by
  apply List.ext_getElem?
  intro i
  rw [mixAt_get C Z hC hZ, if_neg (by omega)]
theorem mixAt_all (C Z : List Value) (hC : C.length = 1024) (hZ : Z.length = 1024) : mixAt C Z 32 = C := by
  apply List.ext_getElem?
  intro i
  rw [mixAt_get C Z hC hZ, if_pos (by omega)]
theorem piece_len {C : List Value} (hC : C.length = 1024) {o : Nat} (ho : o ≤ 1008) : ((C.drop o).take 16).length = 16 := by
  rw [List.length_take, List.length_drop]; omega
theorem piece_get {C : List Value} {o i : Nat} (h : i < 16) : ((C.drop o).take 16)[i]? = C[o + i]? := by
  rw [List.getElem?_take, if_pos h, List.getElem?_drop]
set_option maxRecDepth 100000 in
theorem mixAt_step (C Z : List Value) (hC : C.length = 1024) (hZ : Z.length = 1024) (k : Nat) (hk : k < 32) :
    putAt (putAt (mixAt C Z k) (k * 16) ((C.drop (k * 16)).take 16)) (512 + k * 16) ((C.drop (512 + k * 16)).take 16) = mixAt C Z (k + 1) := by
  have l1 := piece_len hC (o := k * 16) (by omega)
  have l2 := piece_len hC (o := 512 + k * 16) (by omega)
  have m := mixAt_len C Z k
  apply List.ext_getElem?
  intro i
  by_cases hi : i < 1024
  case neg => rw [List.getElem?_eq_none (by rw [putAt_len (by rw [putAt_len (by omega)]; omega), putAt_len (by omega)]; omega), List.getElem?_eq_none (by rw [mixAt_len]; omega)]
  rw [putAt_get (by rw [putAt_len (by omega)]; omega), putAt_get (by omega), mixAt_get C Z hC hZ, mixAt_get C Z hC hZ, l1, l2]
  by_cases a : i < k * 16 <;> by_cases b : i < k * 16 + 16 <;> by_cases c : i < 512 + k * 16 <;> by_cases d : i < 512 + k * 16 + 16 <;> by_cases e : i % 512 < k * 16 <;> by_cases f : i % 512 < (k + 1) * 16 <;> first | (exfalso; omega) | (simp only [a, b, c, d, e, f, if_true, if_false]; done) | (simp only [a, b, c, d, e, f, if_true, if_false]; rw [piece_get (by omega)]; congr 1; omega)
set_option maxRecDepth 100000 in
theorem mixAt_comm (C Z : List Value) (hC : C.length = 1024) (k : Nat) (hk : k < 32) :
    putAt (putAt (mixAt C Z k) (512 + k * 16) ((C.drop (512 + k * 16)).take 16)) (k * 16) ((C.drop (k * 16)).take 16) = putAt (putAt (mixAt C Z k) (k * 16) ((C.drop (k * 16)).take 16)) (512 + k * 16) ((C.drop (512 + k * 16)).take 16) := by
  have l1 := piece_len hC (o := k * 16) (by omega)
  have l2 := piece_len hC (o := 512 + k * 16) (by omega)
  have m := mixAt_len C Z k
  apply List.ext_getElem?
  intro i
  rw [putAt_get (by rw [putAt_len (by omega)]; omega), putAt_get (by omega), putAt_get (by rw [putAt_len (by omega)]; omega), putAt_get (by omega), l1, l2]
  by_cases a : i < k * 16 <;> by_cases b : i < k * 16 + 16 <;> by_cases c : i < 512 + k * 16 <;> by_cases d : i < 512 + k * 16 + 16 <;> first | (exfalso; omega) | simp only [a, b, c, d, if_true, if_false]
theorem mixAt_one (C Z : List Value) (h1 : ∀ u ∈ C, u.oneCell' = true) (h2 : ∀ u ∈ Z, u.oneCell' = true) (hC : C.length = 1024) (hZ : Z.length = 1024) (k : Nat) : ∀ u ∈ mixAt C Z k, u.oneCell' = true := by
  intro u hu
  obtain ⟨i, hi⟩ := List.getElem?_of_mem hu
  rw [mixAt_get C Z hC hZ] at hi
  split at hi
  · exact h1 u (List.mem_of_getElem? hi)
  · exact h2 u (List.mem_of_getElem? hi)
end
section
open Go.RowKit

def CondT : Ty := .st (.pair (.nat .u64) (.pair (.int .i64) (.pair (.nat .u64) (.pair (.arr 32 .u8) (.pair (.nat .u64) .unit)))))
/-- A payment's cells. -/
def condCells (c : Cd) : List Value := .int .u64 (c.1 : Int) :: .int .i64 c.2.1 :: .int .u64 (c.2.2.1 : Int) :: (bv c.2.2.2.1 ++ [.int .u64 (c.2.2.2.2.1 : Int)])
structure CondOk (c : Cd) : Prop where
  id : (Lit.int .u64 (c.1 : Int)).wf = true
  side : (Lit.int .i64 c.2.1).wf = true
  am : (Lit.int .u64 (c.2.2.1 : Int)).wf = true
  hash : c.2.2.2.1.length = 32
  exp : (Lit.int .u64 (c.2.2.2.2.1 : Int)).wf = true
theorem condT_iff {w : World} {F : Fp} {cs : List Value} {c : Cd} : CondT.holds w F cs c ↔ cs = condCells c ∧ CondOk c := by
  obtain ⟨i, b, a, h, e, u⟩ := c
  constructor
  · rintro ⟨_, _, rfl, ⟨rfl, w1⟩, _, _, rfl, ⟨rfl, w2⟩, _, _, rfl, ⟨rfl, w3⟩, _, _, rfl, ⟨hl, hb⟩, _, _, rfl, ⟨rfl, w5⟩, rfl⟩
    rw [AllH.bytes.1 hb]
    exact ⟨by simp [condCells], w1, w2, w3, hl, w5⟩
  · rintro ⟨rfl, w1, w2, w3, hl, w5⟩
    exact ⟨[_], _, rfl, ⟨rfl, w1⟩, [_], _, rfl, ⟨rfl, w2⟩, [_], _, rfl, ⟨rfl, w3⟩, bv h, _, rfl, ⟨hl, AllH.bytes.2 rfl⟩, [_], [], rfl, ⟨rfl, w5⟩, rfl⟩
theorem condCells_len {c : Cd} (h : CondOk c) : (condCells c).length = 36 := by simp [condCells, h.hash]
theorem condCells_one (c : Cd) : ∀ u ∈ condCells c, u.oneCell' = true := by
  intro u hu
  simp only [condCells, List.mem_cons, List.mem_append] at hu
  rcases hu with rfl | rfl | rfl | hu | rfl | hu
  · rfl
  · rfl
  · rfl
  · exact bv_one _ u hu
  · rfl
  · cases hu
theorem conds_iff {w : World} {F : Fp} : ∀ {l : List Cd} {xs : List Value}, AllH (CondT.holds w F) xs l ↔ xs = l.flatMap condCells ∧ ∀ c ∈ l, CondOk c
  | [], xs => by simp [AllH]
  | c :: l, xs => by
    constructor
    · rintro ⟨c1, c2, rfl, h1, h2⟩
      obtain ⟨rfl, ok⟩ := condT_iff.1 h1
      obtain ⟨rfl, oks⟩ := conds_iff.1 h2
      refine ⟨rfl, fun x hx => ?_⟩
      rcases List.mem_cons.1 hx with rfl | hx
      · exact ok
      · exact oks x hx
    · rintro ⟨rfl, ok⟩
      exact ⟨_, _, rfl, condT_iff.2 ⟨rfl, ok c (by simp)⟩, conds_iff.2 ⟨rfl, fun x hx => ok x (by simp [hx])⟩⟩
/-- Bounds of a state's numbers. -/
structure StOk (s : St) : Prop where
  chan : s.chan < 4294967296
  round : s.round < M64
  m0 : s.m0 < M64
  m1 : s.m1 < M64
  t0 : s.t0 < M64
  t1 : s.t1 < M64
/-- A state's value: its slice is v. -/
abbrev stv (s : St) (v : Value) : Value := .agg #[.int .u32 (s.chan : Int), .int .u64 (s.round : Int), .int .u64 (s.m0 : Int), .int .u64 (s.m1 : Int), .int .u64 (s.t0 : Int), .int .u64 (s.t1 : Int), v]
/-- The payments of a slice. -/
abbrev Conds (w : World) (F : Fp) (v : Value) (cs : List Cd) : Prop := (Ty.sl CondT).holds w F [v] cs
theorem conds_open {w : World} {F : Fp} {v : Value} {cs : List Cd} (h : Conds w F v cs) : ∃ (A : Option Addr) (c : Nat) (xs : List Value), v = .slice A (List.length (α := Cd) cs) c ∧ List.length (α := Cd) cs ≤ c ∧ c ≤ maxLen ∧ (A = none → c = 0) ∧ (0 < List.length (α := Cd) cs → ∃ ad, A = some ad ∧ F ad.block ∧ Cells w ad xs) ∧ AllH (CondT.holds w F) xs cs := by
  obtain ⟨A, c, xs, hv, h1, h2, h3, h4, h5⟩ := h
  cases hv
  exact ⟨A, c, xs, rfl, h1, h2, h3, fun h => h4 (by intro e; rw [e] at h; exact absurd h (Nat.lt_irrefl _)), h5⟩
/-- What is read of the payments: one, by its place. -/
theorem conds_at {w w' : World} {F : Fp} {xs : List Value} {l : List Cd} {ad : Addr} {k : Nat} (hall : AllH (CondT.holds w F) xs l) (hc : Cells w' ad xs) (hk : k < l.length) : Cells w' (ad.add (k * 36)) (condCells l[k]) ∧ CondOk l[k] := by
  have h := AllH.elem hall hk
  obtain ⟨h1, h2⟩ := condT_iff.1 h
  have e : CondT.size = 36 := rfl
  rw [e] at h1
  have h3 := (hc.drop (k * 36)).take 36
  rw [h1] at h3
  exact ⟨h3, h2⟩
theorem cond_size {n : Nat} (h : n = 36) : (Try.prog.info? 47).map (·.size) = some n := by subst h; kernel_rfl
theorem cond_zero : (Try.prog.info? 47).bind (fun i => i.zero.map (·.cells)) = some (condCells (0, 0, 0, List.replicate 32 0, 0, ())).toArray := by kernel_rfl
/-- The cells of one payment that lies in a block of its own. -/
theorem cond_block {w : World} {g : Nat} {c : Cd} (h : Blk w g 47 (condCells c)) : w.cell? ⟨g, 0, none⟩ = some (.int .u64 (c.1 : Int)) ∧ w.cell? ⟨g, 1, none⟩ = some (.int .i64 c.2.1) ∧ w.cell? ⟨g, 2, none⟩ = some (.int .u64 (c.2.2.1 : Int)) :=
  ⟨h.cell 0, h.cell 1, h.cell 2⟩
theorem src_new_at {w : World} {g : Nat} (hg : w.heap.size = g) (cs : List Value) (t : TypeId) (m : Nat) : Src (w.alloc (.cells cs.toArray t)) (some ⟨g, 0, none⟩) m cs := by
  subst hg; exact src_new w cs t m
theorem Blk.new_at {w : World} {G : Nat} (hG : w.heap.size = G) (t : TypeId) (cs : List Value) : Blk (w.alloc (.cells cs.toArray t)) G t cs := by subst hG; exact Blk.new w t cs
def wishCells (o : Wish) : List Value := .int .i64 o.kind :: .int .u64 (o.am : Int) :: (condCells o.c ++ [.int .u64 (o.id : Int)])
theorem wishCells_len {o : Wish} (h : CondOk o.c) : (wishCells o).length = 39 := by simp [wishCells, condCells_len h]
theorem op_size {n : Nat} (h : n = 39) : (Try.prog.info? 49).map (·.size) = some n := by subst h; kernel_rfl

def zcl : List Value := condCells (0, 0, 0, List.replicate 32 0, 0, ())
theorem cond_fields : ∃ fields, Try.prog.underlying 47 = some (.struct fields) ∧ fields.toList.mapM (fun f => (Try.prog.info? f.type).map fun i => (f.offset, i.size)) = some [(0, 1), (1, 1), (2, 1), (3, 32), (35, 1)] :=
  ⟨_, Try.underlying47, by kernel_rfl⟩
set_option maxRecDepth 100000 in
set_option maxHeartbeats 1000000 in
theorem To10 (ck : Cd) (w : World) (hok : CondOk ck) : Calls Try.prog 30 #[.agg (condCells ck).toArray] w fun e w' => e = .returned (.agg (condCells ck).toArray) ∧ Ext w w' := by
  obtain ⟨fields, hfu, hfp⟩ := cond_fields
  have hz : (Try.prog.info? 47).bind (fun i => i.zero.map (·.cells)) = some zcl.toArray := cond_zero
  have hzl : zcl.length = 36 := rfl
  generalize zcl = Z at hz hzl
  have hcl := condCells_len hok
  have hone := condCells_one ck
  have hdef : condCells ck = .int .u64 (ck.1 : Int) :: .int .i64 ck.2.1 :: .int .u64 (ck.2.2.1 : Int) :: (bv ck.2.2.2.1 ++ [.int .u64 (ck.2.2.2.2.1 : Int)]) := rfl
  have hhl : (bv ck.2.2.2.1).length = 32 := by simp [hok.hash]
  generalize hB : bv ck.2.2.2.1 = B at *
  have c35 : (condCells ck)[35]? = some (.int .u64 (ck.2.2.2.2.1 : Int)) := by
    rw [hdef]
    rw [List.getElem?_cons_succ, List.getElem?_cons_succ, List.getElem?_cons_succ, List.getElem?_append_right (by omega), hhl]
    rfl
  have hx0 : Ext w ((w.alloc (.cells (condCells ck).toArray 30)).alloc (.cells Z.toArray 47)) := ((Ext.refl w).alloc _).alloc _
  have hb0 : Blk ((w.alloc (.cells (condCells ck).toArray 30)).alloc (.cells Z.toArray 47)) w.heap.size 30 (condCells ck) := (Blk.new _ _ _).keep ((Ext.refl _).alloc _) (by simp)
  have hr8 : ((w.alloc (.cells (condCells ck).toArray 30)).alloc (.cells Z.toArray 47)).heap[w.heap.size + 1]? = some (.cells Z.toArray 47 (0, 0)) := Blk.new_at (by simp) _ _
  have c0 : ((w.alloc (.cells (condCells ck).toArray 30)).alloc (.cells Z.toArray 47)).cell? ⟨w.heap.size, 0, none⟩ = some (.int .u64 (ck.1 : Int)) := (hb0.cell 0).trans (by rw [hdef]; rfl)
  have c1 : ((w.alloc (.cells (condCells ck).toArray 30)).alloc (.cells Z.toArray 47)).cell? ⟨w.heap.size, 1, none⟩ = some (.int .i64 ck.2.1) := (hb0.cell 1).trans (by rw [hdef]; rfl)
  have c2 : ((w.alloc (.cells (condCells ck).toArray 30)).alloc (.cells Z.toArray 47)).cell? ⟨w.heap.size, 2, none⟩ = some (.int .u64 (ck.2.2.1 : Int)) := (hb0.cell 2).trans (by rw [hdef]; rfl)
  have c5 : ((w.alloc (.cells (condCells ck).toArray 30)).alloc (.cells Z.toArray 47)).cell? ⟨w.heap.size, 35, none⟩ = some (.int .u64 (ck.2.2.2.2.1 : Int)) := (hb0.cell 35).trans c35
  have hb3 : Cells ((w.alloc (.cells (condCells ck).toArray 30)).alloc (.cells Z.toArray 47)) ⟨w.heap.size, 3, none⟩ B := by
    have h := hb0.cells.drop 3
    have e3 : (condCells ck).drop 3 = B ++ [.int .u64 (ck.2.2.2.2.1 : Int)] := by rw [hdef]; rfl
    rw [e3] at h
    have h2 := h.left
    simpa [Addr.add] using h2
  have hfl : fillL ([(0, 1), (1, 1), (2, 1), (3, 32), (35, 1)].toArray[·]?) Z [(0, [.int .u64 (ck.1 : Int)]), (1, [.int .i64 ck.2.1]), (2, [.int .u64 (ck.2.2.1 : Int)]), (3, B), (4, [.int .u64 (ck.2.2.2.2.1 : Int)])] = some (condCells ck) := by
    rw [hdef]
    obtain ⟨z0, z1, z2, T, rfl, hT⟩ : ∃ z0 z1 z2 T, Z = z0 :: z1 :: z2 :: T ∧ T.length = 33 := by
      match Z, hzl with
      | z0 :: z1 :: z2 :: T, h => exact ⟨z0, z1, z2, T, rfl, by simpa using h⟩
    simp [fillL, hhl, hT]
  have HFL := Lib.hid hfl
  have HDEF := Lib.hid hdef
  have HHL := Lib.hid hhl
  have HCL := Lib.hid hcl
  have HX0 := Lib.hid hx0
  have HZL := Lib.hid hzl
  clear hfl hdef hhl hcl hb0 hx0 c35 hzl
  generalize condCells ck = C at *
  go_enter Try.func30, Try.ntmps30
  go_wp2_with (first
    | (refine wpList_alloc _ rfl 47 rfl _ hz ?_)
    | (refine wpList_load_agg _ rfl 28 (.tmp 9) rfl _ rfl B _ Try.underlying28 rfl (by rw [HHL.out]; kernel_rfl) hb3 ?_)
    | (refine wpList_build_st (.inl rfl) 47 #[(0, .tmp 4), (1, .tmp 6), (2, .tmp 8), (3, .tmp 10), (4, .tmp 12)] rfl fields Z C _ _ hfu hz hfp (by simp [Value.cells, Act.eval]) HFL.out ?_)
    | (refine wpList_store_row _ rfl 47 (.tmp 2) (.tmp 13) rfl (w.heap.size + 1) rfl Z C _ rfl hr8 (cond_size HCL.out) (by rw [HCL.out, HZL.out]) hone ?_)
    | fail)
  have hc9 := Blk.cells (t := 47) (setRow_at (cs' := C.toArray) hr8)
  (try simp only [Exit.inBlock, Exit.then])
  refine bodyPost_ret (results_agg rfl _ _ _ _ _ rfl Try.underlying47 rfl (cond_size HCL.out) hc9) rfl ?_
  exact ⟨rfl, grown_then HX0.out (setRow_only _) (.inr (by rintro b ⟨⟩; omega))⟩
-- OP
theorem rcond_size {n : Nat} (h : n = 36) : (Try.prog.info? 30).map (·.size) = some n := by subst h; kernel_rfl
theorem op_fields : ∃ fields, Try.prog.underlying 49 = some (.struct fields) ∧ fields.toList.mapM (fun f => (Try.prog.info? f.type).map fun i => (f.offset, i.size)) = some [(0, 1), (1, 1), (2, 36), (38, 1)] :=
  ⟨_, Try.underlying49, by kernel_rfl⟩
def zop : List Value := wishCells ⟨0, 0, (0, 0, 0, List.replicate 32 0, 0, ()), 0⟩
theorem op_zero : (Try.prog.info? 49).bind (fun i => i.zero.map (·.cells)) = some zop.toArray := by kernel_rfl
theorem wish_one (o : Wish) : ∀ u ∈ wishCells o, u.oneCell' = true := by
  intro u hu
  simp only [wishCells, List.mem_cons, List.mem_append, List.not_mem_nil, or_false] at hu
  rcases hu with rfl | rfl | hu | rfl
  · rfl
  · rfl
  · exact condCells_one _ u hu
  · rfl
theorem wish_38 {o : Wish} (hok : CondOk o.c) : (wishCells o)[38]? = some (.int .u64 (o.id : Int)) := by
  have h36 := condCells_len hok
  unfold wishCells
  rw [List.getElem?_cons_succ, List.getElem?_cons_succ, List.getElem?_append_right (by omega), h36]
  rfl
set_option maxRecDepth 100000 in
set_option maxHeartbeats 1000000 in
theorem Op12 (o : Wish) (w : World) (hok : CondOk o.c) : Calls Try.prog 11 #[.agg (wishCells o).toArray] w fun e w' => e = .returned (.agg (wishCells o).toArray) ∧ Ext w w' := by
  obtain ⟨fields, hfu, hfp⟩ := op_fields
  have hz := op_zero
  have hzl : zop.length = 39 := rfl
  generalize zop = Z at hz hzl
  have hol := wishCells_len hok
  have hone := wish_one o
  have o0 : (wishCells o)[0]? = some (.int .i64 o.kind) := rfl
  have o1 : (wishCells o)[1]? = some (.int .u64 (o.am : Int)) := rfl
  have o38 := wish_38 hok
  have hto := fun W => To10 o.c W hok
  have hcl := condCells_len hok
  have hdef : wishCells o = .int .i64 o.kind :: .int .u64 (o.am : Int) :: (condCells o.c ++ [.int .u64 (o.id : Int)]) := rfl
  generalize condCells o.c = C at hto hcl hdef
  have hfl : fillL ([(0, 1), (1, 1), (2, 36), (38, 1)].toArray[·]?) Z [(0, [.int .i64 o.kind]), (1, [.int .u64 (o.am : Int)]), (2, C), (3, [.int .u64 (o.id : Int)])] = some (wishCells o) := by
    rw [hdef]
    obtain ⟨z0, z1, T, rfl, hT⟩ : ∃ z0 z1 T, Z = z0 :: z1 :: T ∧ T.length = 37 := by
      match Z, hzl with
      | z0 :: z1 :: T, h => exact ⟨z0, z1, T, rfl, by simpa using h⟩
    simp [fillL, hcl, hT]
  generalize wishCells o = OC at *
  have hx0 : Ext w ((w.alloc (.cells OC.toArray 32)).alloc (.cells Z.toArray 49)) := ((Ext.refl w).alloc _).alloc _
  have hb0 : Blk ((w.alloc (.cells OC.toArray 32)).alloc (.cells Z.toArray 49)) w.heap.size 32 OC := (Blk.new _ _ _).keep ((Ext.refl _).alloc _) (by simp)
  have hb1 : Blk ((w.alloc (.cells OC.toArray 32)).alloc (.cells Z.toArray 49)) (w.heap.size + 1) 49 Z := Blk.new_at (by simp) _ _
  have hcc : Cells ((w.alloc (.cells OC.toArray 32)).alloc (.cells Z.toArray 49)) ⟨w.heap.size, 2, none⟩ C := by
    have h := hb0.cells.drop 2
    have e3 : OC.drop 2 = C ++ [.int .u64 (o.id : Int)] := by rw [hdef]; rfl
    rw [e3] at h
    have h2 := h.left
    simpa [Addr.add] using h2
  have hlt : w.heap.size < ((w.alloc (.cells OC.toArray 32)).alloc (.cells Z.toArray 49)).heap.size := by simp; omega
  have HFL := Lib.hid hfl
  have HOL := Lib.hid hol
  have HCL := Lib.hid hcl
  have HZL := Lib.hid hzl
  have HTO := Lib.hid hto
  clear hfl hol hcl hzl hto hdef
  go_enter Try.func11, Try.ntmps11
  go_wp2_with (first
    | (refine wpList_alloc _ rfl 49 rfl _ hz ?_)
    | fail)
  have hx0 : Ext w ((w.alloc (.cells OC.toArray 32)).alloc (.cells Z.toArray 49)).drew := hx0.trans (Ext.refl _).drew
  have hb0 : Blk ((w.alloc (.cells OC.toArray 32)).alloc (.cells Z.toArray 49)).drew w.heap.size 32 OC := hb0
  have hb1 : Blk ((w.alloc (.cells OC.toArray 32)).alloc (.cells Z.toArray 49)).drew (w.heap.size + 1) 49 Z := hb1
  have hcc : Cells ((w.alloc (.cells OC.toArray 32)).alloc (.cells Z.toArray 49)).drew ⟨w.heap.size, 2, none⟩ C := hcc
  have hlt : w.heap.size < ((w.alloc (.cells OC.toArray 32)).alloc (.cells Z.toArray 49)).drew.heap.size := hlt
  have HX0 := Lib.hid hx0
  have HB0 := Lib.hid hb0
  have HB1 := Lib.hid hb1
  have HCC := Lib.hid hcc
  have HLT := Lib.hid hlt
  clear hx0 hb0 hb1 hcc hlt
  refine startL 10 Since (by kernel_rfl) ?_
  (try simp only [Act.put, List.setIfInBounds_toArray, List.set_cons_succ, List.set_cons_zero])
  generalize ((w.alloc (.cells OC.toArray 32)).alloc (.cells Z.toArray 49)).drew = w0 at *
  refine takeN (fun a => Ext.refl a) 0 rfl (by kernel_rfl) (by kernel_rfl) (by kernel_rfl) rfl (fun _ _ _ _ h => h) rfl (fun K hK => ?_)
  go_big_quiet_op
  first | refine hK _ ?_ | refine ⟨_, fun _ _ => rfl, hK _ ?_⟩
  clear hK K
  refine takeL (fun a => Ext.refl a) (fun a b c h1 h2 => Ext.trans h1 h2) 1 [10] rfl (by kernel_rfl) (by kernel_rfl) (by kernel_rfl) (by kernel_rfl) rfl (fun _ _ _ _ h => h) rfl (fun K hK => ?_)
  refine quiet_cell _ _ rfl _ rfl _ _ Try.underlying3 rfl (fun W' h => World.grownBy.cell h ((HB0.out.cell 0).trans o0) (by simp)) ?_
  refine hK _ ?_
  simp only [Act.put, List.setIfInBounds_toArray, List.set_cons_succ, List.set_cons_zero]
  clear hK K
  refine takeN (fun a => Ext.refl a) 2 rfl (by kernel_rfl) (by kernel_rfl) (by kernel_rfl) rfl (fun _ _ _ _ h => h) rfl (fun K hK => ?_)
  go_big_quiet_op
  first | refine hK _ ?_ | refine ⟨_, fun _ _ => rfl, hK _ ?_⟩
  clear hK K
  refine takeL (fun a => Ext.refl a) (fun a b c h1 h2 => Ext.trans h1 h2) 3 [10] rfl (by kernel_rfl) (by kernel_rfl) (by kernel_rfl) (by kernel_rfl) rfl (fun _ _ _ _ h => h) rfl (fun K hK => ?_)
  refine quiet_cell _ _ rfl _ rfl _ _ Try.underlying23 rfl (fun W' h => World.grownBy.cell h ((HB0.out.cell 1).trans o1) (by simp)) ?_
  refine hK _ ?_
  simp only [Act.put, List.setIfInBounds_toArray, List.set_cons_succ, List.set_cons_zero]
  clear hK K
  refine takeN (fun a => Ext.refl a) 4 rfl (by kernel_rfl) (by kernel_rfl) (by kernel_rfl) rfl (fun _ _ _ _ h => h) rfl (fun K hK => ?_)
  go_big_quiet_op
  first | refine hK _ ?_ | refine ⟨_, fun _ _ => rfl, hK _ ?_⟩
  clear hK K
  refine takeL (fun a => Ext.refl a) (fun a b c h1 h2 => Ext.trans h1 h2) 5 [10] rfl (by kernel_rfl) (by kernel_rfl) (by kernel_rfl) (by kernel_rfl) rfl (fun _ _ _ _ h => h) rfl (fun K hK => ?_)
  refine quiet_agg 30 (.tmp 7) rfl _ rfl C _ Try.underlying30 rfl (rcond_size HCL.out) (fun W' h => HCC.out.keep (h.block _ HLT.out (by simp))) ?_
  refine hK _ ?_
  simp only [Act.put, List.setIfInBounds_toArray, List.set_cons_succ, List.set_cons_zero]
  clear hK K
  refine takeN (fun a => Ext.refl a) 7 rfl (by kernel_rfl) (by kernel_rfl) (by kernel_rfl) rfl (fun _ _ _ _ h => h) rfl (fun K hK => ?_)
  go_big_quiet_op
  first | refine hK _ ?_ | refine ⟨_, fun _ _ => rfl, hK _ ?_⟩
  clear hK K
  refine takeL (fun a => Ext.refl a) (fun a b c h1 h2 => Ext.trans h1 h2) 8 [10] rfl (by kernel_rfl) (by kernel_rfl) (by kernel_rfl) (by kernel_rfl) rfl (fun _ _ _ _ h => h) rfl (fun K hK => ?_)
  refine quiet_cell _ _ rfl _ rfl _ _ Try.underlying23 rfl (fun W' h => World.grownBy.cell h ((HB0.out.cell 38).trans o38) (by simp)) ?_
  refine hK _ ?_
  simp only [Act.put, List.setIfInBounds_toArray, List.set_cons_succ, List.set_cons_zero]
  clear hK K
  refine stepL 6 rfl (by kernel_rfl) rfl (fun K hK => ?_)
  go_simp
  refine (HTO.out _).mono ?_
  rintro e w5 ⟨rfl, hx5⟩
  refine hK _ _ (fun _ => hx5) ?_
  clear hK K
  refine takeN (fun a => Ext.refl a) 9 rfl (by kernel_rfl) (by kernel_rfl) (by kernel_rfl) rfl (fun _ _ _ _ h => h) rfl (fun K hK => ?_)
  refine quiet_build_st 49 #[(0, .tmp 4), (1, .tmp 6), (2, .tmp 9), (3, .tmp 11)] rfl fields Z OC _ _ hfu hz hfp (by simp [Value.cells, Act.eval]) HFL.out ?_
  refine hK _ ?_
  simp only [Act.put, List.setIfInBounds_toArray, List.set_cons_succ, List.set_cons_zero]
  clear hK K
  refine stepL 10 rfl (by kernel_rfl) rfl (fun K hK => ?_)
  have HB9 : (w5.heap[w.heap.size + 1]? = some (.cells Z.toArray 49 (0, 0))) := HB1.out.keep hx5 (by simp)
  refine wp_store_row 49 (.tmp 2) (.tmp 12) rfl (w.heap.size + 1) rfl Z OC _ rfl HB9 (op_size HOL.out) (by rw [HOL.out, HZL.out]) hone ?_
  refine hK _ _ (fun h => absurd rfl h) ?_
  clear hK K
  (try simp only [Act.put, List.setIfInBounds_toArray, List.set_cons_succ, List.set_cons_zero])
  refine doneL (by kernel_rfl) ?_ _
  have hr9 : w5.heap[w.heap.size + 1]? = some (.cells Z.toArray 49 (0, 0)) := HB1.out.keep hx5 (by simp)
  have hx9 : Ext w (w5.setRow (w.heap.size + 1) OC.toArray) := grown_then (HX0.out.trans hx5) (setRow_only _) (.inr (by rintro b ⟨⟩; omega))
  have HX9 := Lib.hid hx9
  have hc9 := Blk.cells (t := 49) (setRow_at (cs' := OC.toArray) hr9)
  clear hx9
  go_wp2
  (try simp only [Exit.inBlock, Exit.then])
  refine bodyPost_ret (results_agg rfl _ _ _ _ _ rfl Try.underlying49 rfl (op_size HOL.out) hc9) rfl ?_
  exact ⟨rfl, HX9.out⟩
end
end Go.Proofs.Ytmicjaiiinaipaa

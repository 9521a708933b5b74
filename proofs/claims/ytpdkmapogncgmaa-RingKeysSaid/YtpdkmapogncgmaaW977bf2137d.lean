/- Walks and plain laws, put together in build order. Conditions: what each of them names. -/
import Derived.OrdersHeld
import Derived.Deep.RegionHeld
import Derived.Test.YtpdkmapogncgmaaWeb3c3822fe
set_option linter.unusedVariables false
set_option linter.unusedSimpArgs false
set_option linter.unnecessarySimpa false
namespace Go.Proofs.Ytpdkmapogncgmaa
section
open Go.RowKit

section
variable {P : Program} {md : Region.Mode} {ops : Array Oper} {Q : Exit → Act → World → Prop} {R : World → World → Prop}
/-- Whatever order is picked from here on; each step leads to a later world. -/
def wpAnyM (P : Program) (md : Region.Mode) (ops : Array Oper) (Q : Exit → Act → World → Prop) (R : World → World → Prop) : Nat → Array Bool → Act → World → Prop
  | 0, listed, a, w => Region.ready md ops listed = [] ∧ Q .normal a w
  | fuel + 1, listed, a, w =>
    (Region.ready md ops listed = [] → Q .normal a w) ∧
    ∀ i ∈ Region.ready md ops listed, wpOp P ops Q i (fun a' w' => R w w' ∧ wpAnyM P md ops Q R fuel (listed.setIfInBounds i true) a' w') a w
theorem wpAny_of_mono : ∀ (fuel : Nat) (listed : Array Bool) (a : Act) (w : World), wpAnyM P md ops Q R fuel listed a w → wpAny P md ops Q fuel listed a w
  | 0, _, _, _, h => h
  | fuel + 1, _, _, _, h => ⟨h.1, fun i hi => wpOp_mono (fun a' w' h' => wpAny_of_mono fuel _ a' w' h'.2) (h.2 i hi)⟩
theorem readyM_mono {listed : Array Bool} {i j : Nat} (hj : j ∈ Region.ready md ops listed) (hji : j ≠ i) : j ∈ Region.ready md ops (listed.setIfInBounds i true) := ready_mono hj hji
/-- The later worlds. -/
theorem wpAnyM_first (hrf : ∀ a, R a a) (htr : ∀ a b c, R a b → R b c → R a c) {i : Nat} {oi : Oper} {v : Value} (hi : ops[i]? = some oi) (hsel : ∀ (j : Nat) (o : Oper) cs b, ops[j]? = some o → o.op ≠ .select cs b)
    (hQ : ∀ c a w, Q (.panic c) (a.put oi.dst v) w → Q (.panic c) a w) (S : World → Prop) (hS' : ∀ a b, S a → R a b → S b) :
    ∀ (fuel : Nat) (listed : Array Bool) (a : Act) (w : World),
      (∀ j oj, ops[j]? = some oj → j ≠ i → listed.getD j true = false → (∀ e ∈ oj.after, Region.binds md e = true → e.on ≠ i) → oi.apart ops oj = true) →
      i ∈ Region.ready md ops listed → YieldsIf P ops S oi v a → S w →
      wpAnyM P md ops Q R fuel (listed.setIfInBounds i true) (a.put oi.dst v) w → wpAnyM P md ops Q R (fuel + 1) listed a w := by
  intro fuel
  induction fuel with
  | zero =>
    intro listed a w _ hr hy hS H
    refine ⟨fun h => (by rw [h] at hr; cases hr), fun j hj => ?_⟩
    by_cases hji : j = i
    · subst hji; exact hy.wpOp hi hS ⟨hrf _, H⟩
    · have := readyM_mono hj hji
      rw [H.1] at this
      cases this
  | succ fuel ih =>
    intro listed a w hfree hr hy hS H
    refine ⟨fun h => (by rw [h] at hr; cases hr), fun j hj => ?_⟩
    by_cases hji : j = i
    · subst hji; exact hy.wpOp hi hS ⟨hrf _, H⟩
    · have h1 := H.2 j (readyM_mono hj hji)
      obtain ⟨hjun, oj, hoj, hall⟩ := Go.mem_ready.1 hj
      have hnot : ∀ e ∈ oj.after, Region.binds md e = true → e.on ≠ i := fun e he hb heq => by
        have h1 := hall e he hb
        have h0 := (Go.mem_ready.1 hr).1
        rw [heq] at h1
        rcases Nat.lt_or_ge i listed.size with h' | h'
        · simp [h'] at h0 h1; rw [h0] at h1; cases h1
        · simp [Array.getElem?_eq_none h'] at h1
      have h2 := wpOp_putIf hoj (hfree j oj hoj hji hjun hnot) (fun cs b => hsel i oi cs b hi) (fun cs b => hsel j oj cs b hoj) hQ hy h1
      have hfree' : ∀ k ok, ops[k]? = some ok → k ≠ i → (listed.setIfInBounds j true).getD k true = false →
          (∀ e ∈ ok.after, Region.binds md e = true → e.on ≠ i) → oi.apart ops ok = true := fun k ok hk hki hun hno => by
        refine hfree k ok hk hki ?_ hno
        by_cases hjk : j = k
        · subst hjk; exact hjun
        · rw [getD_set_ne true hjk] at hun; exact hun
      refine wpOp_mono (fun a' w' h3 => ⟨h3.2.1, ih (listed.setIfInBounds j true) a' w' hfree' (readyM_mono hr (Ne.symm hji)) h3.1 (hS' _ _ hS h3.2.1) ?_⟩) h2
      rw [Array.setIfInBounds_comm _ _ hji]
      exact h3.2.2
/-- Number i is taken first: it may come up, and yields one value in every later world. -/
theorem takeM (hrf : ∀ a, R a a) (htr : ∀ a b c, R a b → R b c → R a c) (i : Nat) {oi : Oper} {fuel : Nat} {listed : Array Bool} {a : Act} {w : World} (hi : ops[i]? = some oi)
    (hs : Region.noSelect ops = true) (hf : Region.free md ops listed i = true) (hr : (Region.ready md ops listed).contains i = true)
    (hQ : ∀ v c a w, Q (.panic c) (a.put oi.dst v) w → Q (.panic c) a w) (hw : Region.wanted oi (yielded ops a.tmps) = true)
    (h : ∀ K : Act → Prop, (∀ a', wpAnyM P md ops Q R fuel (listed.setIfInBounds i true) a' w → K a') → ∃ v, (∀ w', R w w' → (execOp a.eval oi).run P w' = .ok (.value v) w') ∧ K (a.put oi.dst v)) : wpAnyM P md ops Q R (fuel + 1) listed a w := by
  obtain ⟨v, h1, h2⟩ := h _ (fun _ h => h)
  exact wpAnyM_first hrf htr hi (Region.noSelect_spec hs) (hQ v) (R w) (fun b c h1 h2 => htr _ _ _ h1 h2) fuel listed a w (Region.free_spec hi hf) (by simpa using hr) (.inl ⟨hw, h1⟩) (hrf w) h2
/-- .. it is passed over: its guard says no. -/
theorem skipM (hrf : ∀ a, R a a) (htr : ∀ a b c, R a b → R b c → R a c) (i : Nat) {oi : Oper} {fuel : Nat} {listed : Array Bool} {a : Act} {w : World} (hi : ops[i]? = some oi)
    (hs : Region.noSelect ops = true) (hf : Region.free md ops listed i = true) (hr : (Region.ready md ops listed).contains i = true)
    (hQ : ∀ v c a w, Q (.panic c) (a.put oi.dst v) w → Q (.panic c) a w) (hw : Region.wanted oi (yielded ops a.tmps) = false)
    (h : wpAnyM P md ops Q R fuel (listed.setIfInBounds i true) (a.put oi.dst undef) w) : wpAnyM P md ops Q R (fuel + 1) listed a w :=
  wpAnyM_first hrf htr hi (Region.noSelect_spec hs) (hQ _) (R w) (fun b c h1 h2 => htr _ _ _ h1 h2) fuel listed a w (Region.free_spec hi hf) (by simpa using hr) (.inr ⟨hw, rfl⟩) (hrf w) h
/-- One comes up alone. -/
theorem op_at {i : Nat} {oi : Oper} (h : (ops.toList.drop i).head? = some oi) : ops[i]? = some oi := by
  rw [List.head?_drop] at h
  simpa using h
theorem stepM (i : Nat) {oi : Oper} {fuel : Nat} {listed : Array Bool} {a : Act} {w : World} (hi : (ops.toList.drop i).head? = some oi) (hr : Region.ready md ops listed = [i]) (hw : Region.wanted oi (yielded ops a.tmps) = true)
    (h : ∀ K : Act → World → Prop, (∀ a' w', R w w' → wpAnyM P md ops Q R fuel (listed.setIfInBounds i true) a' w' → K a' w') → oi.wp P a w K Q) : wpAnyM P md ops Q R (fuel + 1) listed a w := by
  refine ⟨fun h0 => (by rw [hr] at h0; cases h0), fun j hj => ?_⟩
  rw [hr] at hj
  obtain rfl : j = i := by simpa using hj
  refine wpOp_step (op_at hi) (fun K' hK => ?_)
  rw [if_pos hw]
  exact h K' (fun a' w' h1 h2 => hK _ _ ⟨h1, h2⟩)
theorem doneM {listed : Array Bool} {a : Act} {w : World} (hr : Region.ready md ops listed = []) (h : Q .normal a w) : ∀ fuel, wpAnyM P md ops Q R fuel listed a w
  | 0 => ⟨hr, h⟩
  | _ + 1 => ⟨fun _ => h, by rw [hr]; simp⟩
theorem startM {id : Nat} {a : Act} {w : World} (R : World → World → Prop) (hm : P.follows .mixedOrders = true)
    (h : wpAnyM P .any ops Q R ops.size (Array.replicate ops.size false) a w.drew) : (Code.region id ops true).wp P Q a w :=
  wp_region_any hm (wpAny_of_mono _ _ _ _ h)
end
/-! ### Operations that yield a value, and are no call -/
def valB : Op → Bool
  | .move _ | .assign _ | .pick .. | .load .. | .binOp .. | .unOp .. | .convert .. | .slice .. | .fieldAddr .. | .field .. | .indexAddr .. | .index .. | .extract .. | .build .. | .alloc .. | .buildSlice .. => true
  | .call c => match c.callee with
    | .builtin b => match b with
      | .len | .cap | .append => true
      | _ => false
    | _ => false
  | _ => false
theorem val_ok {P : Program} {s : Sem Value} {w w' : World} {n : Next} (h : (do pure (Next.value (← s)) : Sem Next).run P w = .ok n w') : ∃ u, n = .value u := by
  rw [Sem.run_bind] at h
  cases hs : s.run P w with
  | ok u w1 => rw [hs] at h; simp at h; exact ⟨u, h.1.symm⟩
  | halt x w1 => rw [hs] at h; simp [Result.andThen] at h
theorem val_ok2 {P : Program} {α : Type} {s : Sem α} {f : α → Value} {w w' : World} {n : Next} (h : (s >>= fun u => (pure (Next.value (f u)) : Sem Next)).run P w = .ok n w') : ∃ u, n = .value u := by
  rw [Sem.run_bind] at h
  cases hs : s.run P w with
  | ok u w1 => rw [hs] at h; simp at h; exact ⟨_, h.1.symm⟩
  | halt x w1 => rw [hs] at h; simp [Result.andThen] at h
theorem valB_ok {P : Program} {o : Oper} (ho : valB o.op = true) {ρ : Operand → Value} {w w' : World} {n : Next} (h : (execOp ρ o).run P w = .ok n w') : ∃ u, n = .value u := by
  unfold execOp at h
  cases hop : o.op <;> simp only [hop, valB, Bool.false_eq_true] at h ho
  case move x => simp at h; exact ⟨_, h.1.symm⟩
  case assign x => simp at h; exact ⟨_, h.1.symm⟩
  case call c =>
    cases hc : c.callee with
    | value f => rw [hc] at ho; simp at ho
    | invoke r nm => rw [hc] at ho; simp at ho
    | builtin b =>
      rw [hc] at ho
      simp only [resolve, hc, invoke, Sem.run_bind, Sem.run_pure, Result.andThen_ok] at h
      cases b <;> simp only [Bool.false_eq_true] at ho
      all_goals (unfold builtin at h; exact val_ok h)
  case pick c x y => exact val_ok2 (f := fun b => if b = true then ρ x else ρ y) h
  all_goals exact val_ok h
theorem quiet_val {P : Program} {o : Oper} {a : Act} {C : World → Prop} {K : Act → Prop} (ho : valB o.op = true) (h : o.quiet P a C K) : ∃ v, (∀ w', C w' → (execOp a.eval o).run P w' = .ok (.value v) w') ∧ K (a.put o.dst v) := by
  obtain ⟨v, h1, h2⟩ := h
  refine ⟨v, fun w' hw => ?_, h2⟩
  have h3 := h1 w' hw
  unfold Oper.quietAt at h3
  cases hr : (execOp a.eval o).run P w' with
  | ok n w2 =>
    obtain ⟨u, rfl⟩ := valB_ok ho hr
    rw [hr] at h3
    simp only [Oper.quietUpon] at h3
    rw [h3.1, h3.2]
  | halt x w2 => rw [hr] at h3; simp [Oper.quietUpon] at h3
/-! ### At 'nothing that was there has changed' -/
section
variable {P : Program} {md : Region.Mode} {ops : Array Oper} {Q : Exit → Act → World → Prop}
theorem takeE (i : Nat) {oi : Oper} {fuel : Nat} {listed : Array Bool} {a : Act} {w : World} (hi : (ops.toList.drop i).head? = some oi)
    (hs : Region.noSelect ops = true) (hf : Region.free md ops listed i = true) (hr : (Region.ready md ops listed).contains i = true) (hc : valB oi.op = true)
    (hQ : ∀ v c a w, Q (.panic c) (a.put oi.dst v) w → Q (.panic c) a w) (hw : Region.wanted oi (yielded ops a.tmps) = true)
    (h : ∀ K : Act → Prop, (∀ a', wpAnyM P md ops Q Since fuel (listed.setIfInBounds i true) a' w → K a') → oi.quiet P a (Since w) K) : wpAnyM P md ops Q Since (fuel + 1) listed a w :=
  takeM (fun a => Ext.refl a) (fun a b c h1 h2 => Ext.trans h1 h2) i (op_at hi) hs hf hr hQ hw fun K hK => quiet_val hc (h K hK)
theorem skipE (i : Nat) {oi : Oper} {fuel : Nat} {listed : Array Bool} {a : Act} {w : World} (hi : (ops.toList.drop i).head? = some oi)
    (hs : Region.noSelect ops = true) (hf : Region.free md ops listed i = true) (hr : (Region.ready md ops listed).contains i = true)
    (hQ : ∀ v c a w, Q (.panic c) (a.put oi.dst v) w → Q (.panic c) a w) (hw : Region.wanted oi (yielded ops a.tmps) = false)
    (h : wpAnyM P md ops Q Since fuel (listed.setIfInBounds i true) (a.put oi.dst undef) w) : wpAnyM P md ops Q Since (fuel + 1) listed a w :=
  skipM (fun a => Ext.refl a) (fun a b c h1 h2 => Ext.trans h1 h2) i (op_at hi) hs hf hr hQ hw h
end
/-! ### At worlds in which some blocks are as they were -/
def KeepB (B : Nat → Prop) (w w' : World) : Prop := ∀ b, B b → w'.heap[b]? = w.heap[b]?
theorem KeepB.cells {B : Nat → Prop} {w w' : World} (h : KeepB B w w') {ad : Addr} {cs : List Value} (hc : Cells w ad cs) (hb : B ad.block) : Cells w' ad cs := hc.keep (h _ hb)
theorem KeepB.cell {B : Nat → Prop} {w w' : World} (h : KeepB B w w') {ad : Addr} {v : Value} (hc : w.cell? ad = some v) (hb : B ad.block) : w'.cell? ad = some v := (World.cell?_of_block (h _ hb)).trans hc
section
variable {P : Program} {md : Region.Mode} {ops : Array Oper} {Q : Exit → Act → World → Prop} {B : Nat → Prop}
theorem takeK (i : Nat) {oi : Oper} {fuel : Nat} {listed : Array Bool} {a : Act} {w : World} (hi : (ops.toList.drop i).head? = some oi)
    (hs : Region.noSelect ops = true) (hf : Region.free md ops listed i = true) (hr : (Region.ready md ops listed).contains i = true) (hc : valB oi.op = true)
    (hQ : ∀ v c a w, Q (.panic c) (a.put oi.dst v) w → Q (.panic c) a w) (hw : Region.wanted oi (yielded ops a.tmps) = true)
    (h : ∀ K : Act → Prop, (∀ a', wpAnyM P md ops Q (KeepB B) fuel (listed.setIfInBounds i true) a' w → K a') → oi.quiet P a (KeepB B w) K) : wpAnyM P md ops Q (KeepB B) (fuel + 1) listed a w :=
  takeM (fun _ _ _ => rfl) (fun _ _ _ h1 h2 b hb => (h2 b hb).trans (h1 b hb)) i (op_at hi) hs hf hr hQ hw fun K hK => quiet_val hc (h K hK)
theorem skipK (i : Nat) {oi : Oper} {fuel : Nat} {listed : Array Bool} {a : Act} {w : World} (hi : (ops.toList.drop i).head? = some oi)
    (hs : Region.noSelect ops = true) (hf : Region.free md ops listed i = true) (hr : (Region.ready md ops listed).contains i = true)
    (hQ : ∀ v c a w, Q (.panic c) (a.put oi.dst v) w → Q (.panic c) a w) (hw : Region.wanted oi (yielded ops a.tmps) = false)
    (h : wpAnyM P md ops Q (KeepB B) fuel (listed.setIfInBounds i true) (a.put oi.dst undef) w) : wpAnyM P md ops Q (KeepB B) (fuel + 1) listed a w :=
  skipM (fun _ _ _ => rfl) (fun _ _ _ h1 h2 b hb => (h2 b hb).trans (h1 b hb)) i (op_at hi) hs hf hr hQ hw h
theorem wp_store_row {P : Program} {w : World} {o : Oper} {a : Act} {K : Act → World → Prop} {Q : Exit → Act → World → Prop} (ty : TypeId) (p x : Operand) (ho : o.op = .store ty p x)
    (g : Nat) (hp : a.eval p = .pointer (some ⟨g, 0, none⟩)) (old cs : List Value) (t : TypeId) (hx : a.eval x = .agg cs.toArray) (hg : w.heap[g]? = some (.cells old.toArray t (0, 0)))
    (hi : (P.info? ty).map (·.size) = some cs.length) (hl : cs.length = old.length) (h1 : ∀ u ∈ cs, u.oneCell' = true)
    (h : K (a.put o.dst undef) (w.setRow g cs.toArray)) : o.wp P a w K Q := by
  obtain ⟨i, hi', hs⟩ := Option.map_eq_some_iff.1 hi
  unfold Oper.wp execOp
  simp only [ho, hp, hx, Instr.storeAt, Instr.sureAddr, storeVar, sizeOf, typeInfo, Sem.run_bind, run_program, Result.andThen_ok, hi', Sem.run_pure, hs, Value.cells, List.size_toArray, ne_eq, not_true, if_false,
    run_store_row w g t old cs hg hl h1]
  exact h
end
/-! ### At any worlds -/
def Any (_ _ : World) : Prop := True
section
variable {P : Program} {md : Region.Mode} {ops : Array Oper} {Q : Exit → Act → World → Prop}
theorem takeA (i : Nat) {oi : Oper} {fuel : Nat} {listed : Array Bool} {a : Act} {w : World} (hi : (ops.toList.drop i).head? = some oi)
    (hs : Region.noSelect ops = true) (hf : Region.free md ops listed i = true) (hr : (Region.ready md ops listed).contains i = true) (hc : valB oi.op = true)
    (hQ : ∀ v c a w, Q (.panic c) (a.put oi.dst v) w → Q (.panic c) a w) (hw : Region.wanted oi (yielded ops a.tmps) = true)
    (h : ∀ K : Act → Prop, (∀ a', wpAnyM P md ops Q Any fuel (listed.setIfInBounds i true) a' w → K a') → oi.quiet P a (Any w) K) : wpAnyM P md ops Q Any (fuel + 1) listed a w :=
  takeM (fun _ => trivial) (fun _ _ _ _ _ => trivial) i (op_at hi) hs hf hr hQ hw fun K hK => quiet_val hc (h K hK)
theorem skipA (i : Nat) {oi : Oper} {fuel : Nat} {listed : Array Bool} {a : Act} {w : World} (hi : (ops.toList.drop i).head? = some oi)
    (hs : Region.noSelect ops = true) (hf : Region.free md ops listed i = true) (hr : (Region.ready md ops listed).contains i = true)
    (hQ : ∀ v c a w, Q (.panic c) (a.put oi.dst v) w → Q (.panic c) a w) (hw : Region.wanted oi (yielded ops a.tmps) = false)
    (h : wpAnyM P md ops Q Any fuel (listed.setIfInBounds i true) (a.put oi.dst undef) w) : wpAnyM P md ops Q Any (fuel + 1) listed a w :=
  skipM (fun _ => trivial) (fun _ _ _ _ _ => trivial) i (op_at hi) hs hf hr hQ hw h
end
end
section
open Go.RowKit

theorem count_lt {p q : Nat → Bool} {i : Nat} (hpi : p i = true) (hqi : q i = false) (hle : ∀ j, q j = true → p j = true) : ∀ {l : List Nat}, i ∈ l → (l.filter q).length < (l.filter p).length
  | [], h => by cases h
  | a :: l, h => by
    have mono : ∀ l : List Nat, (l.filter q).length ≤ (l.filter p).length := by
      intro l
      induction l with
      | nil => simp
      | cons b l ih =>
        by_cases hb : q b = true
        · simp [List.filter_cons, hb, hle b hb, ih]
        · have hb' : q b = false := by simpa using hb
          by_cases hp : p b = true
          · simp [List.filter_cons, hb', hp]; omega
          · simp [List.filter_cons, hb', hp, ih]
    rcases List.mem_cons.1 h with rfl | h'
    · have := mono l
      simp [List.filter_cons, hpi, hqi]; omega
    · have ih := count_lt hpi hqi hle h'
      by_cases hb : q a = true
      · simp [List.filter_cons, hb, hle a hb, ih]
      · have hb' : q a = false := by simpa using hb
        by_cases hp : p a = true
        · simp [List.filter_cons, hb', hp]; omega
        · simp [List.filter_cons, hb', hp, ih]
/-- A value more. -/
def upd (s : Nat → Value) (i : Nat) (v : Value) : Nat → Value := fun k => if k = i then v else s k
theorem upd_self (s : Nat → Value) (i : Nat) (v : Value) : upd s i v i = v := if_pos rfl
theorem upd_ne (s : Nat → Value) {i k : Nat} (v : Value) (h : k ≠ i) : upd s i v k = s k := if_neg h
/-- What is asked of the region's text. -/
def stabB (md : Region.Mode) (ops : Array Oper) (rem : List Nat) (D : Nat → List Nat) : Bool :=
  rem.all fun i => decide (i < ops.size) && (D i).contains i &&
    match ops[i]? with
    | none => false
    | some o => (D i).all (fun k => rem.contains k && (k == i || o.after.any fun e => Region.binds md e && rem.contains e.on && (D e.on).contains k)) && o.after.all fun e => !(Region.binds md e) || decide (e.on < i)
structure Stab (R : World → World → Prop) (P : Program) (md : Region.Mode) (ops : Array Oper) (Q : Exit → Act → World → Prop) (w0 : World) (rem : List Nat) (L : Nat) (mk : (Nat → Value) → Act) (D : Nat → List Nat) (Post : Nat → (Nat → Value) → World → Prop) : Prop where
  text : stabB md ops rem D = true
  put : ∀ i ∈ rem, ∀ o, ops[i]? = some o → ∀ s v, (mk s).put o.dst v = mk (upd s i v)
  st : ∀ i s w w', Post i s w → R w w' → Post i s w'
  loc : ∀ i ∈ rem, ∀ s s' w, (∀ k ∈ D i, s k = s' k) → Post i s w → Post i s' w
  op : ∀ i ∈ rem, i ≠ L → ∀ o, ops[i]? = some o → ∀ s w, R w0 w → (∀ k ∈ D i, k ≠ i → Post k s w) → ∀ K : Act → World → Prop, (∀ v w', R w w' → Post i (upd s i v) w' → K ((mk s).put o.dst v) w') →
    if Region.wanted o (yielded ops (mk s).tmps) = true then o.wp P (mk s) w K Q else K ((mk s).put o.dst undef) w
  last : L ∈ rem → (∀ k ∈ rem, k ∈ D L) ∧ ∀ o, ops[L]? = some o → ∀ s w, R w0 w → (∀ k ∈ rem, k ≠ L → Post k s w) → ∀ K : Act → World → Prop, (∀ a' w', Q .normal a' w' → K a' w') →
    if Region.wanted o (yielded ops (mk s).tmps) = true then o.wp P (mk s) w K Q else K ((mk s).put o.dst undef) w
  fin : L ∉ rem → ∀ s w, R w0 w → (∀ k ∈ rem, Post k s w) → Q .normal (mk s) w
section
variable {R : World → World → Prop} {P : Program} {md : Region.Mode} {ops : Array Oper} {Q : Exit → Act → World → Prop} {w0 : World} {rem : List Nat} {L : Nat} {mk : (Nat → Value) → Act} {D : Nat → List Nat} {Post : Nat → (Nat → Value) → World → Prop}
theorem stabB_spec (h : stabB md ops rem D = true) {i : Nat} (hi : i ∈ rem) : i < ops.size ∧ i ∈ D i ∧ ∀ o, ops[i]? = some o → (∀ k ∈ D i, k ∈ rem ∧ (k = i ∨ ∃ e ∈ o.after, Region.binds md e = true ∧ e.on ∈ rem ∧ k ∈ D e.on)) ∧ ∀ e ∈ o.after, Region.binds md e = true → e.on < i := by
  have h1 := (List.all_eq_true.1 h) i hi
  simp only [Bool.and_eq_true, decide_eq_true_eq] at h1
  obtain ⟨⟨h2, h3⟩, h4⟩ := h1
  refine ⟨h2, by simpa using h3, fun o ho => ?_⟩
  rw [ho] at h4
  simp only [Bool.and_eq_true] at h4
  obtain ⟨h5, h6⟩ := h4
  refine ⟨fun k hk => ?_, fun e he hb => ?_⟩
  · have h7 := (List.all_eq_true.1 h5) k hk
    simp only [Bool.and_eq_true, Bool.or_eq_true] at h7
    obtain ⟨h8, h9⟩ := h7
    refine ⟨by simpa using h8, ?_⟩
    rcases h9 with h9 | h9
    · exact .inl (by simpa using h9)
    · obtain ⟨j, hj, h10⟩ := Array.any_eq_true.1 h9
      simp only [Bool.and_eq_true] at h10
      exact .inr ⟨_, Array.getElem_mem _, h10.1.1, by simpa using h10.1.2, by simpa using h10.2⟩
  · obtain ⟨j, hj, rfl⟩ := Array.getElem_of_mem he
    have h7 := (Array.all_eq_true.1 h6) j hj
    rw [hb] at h7
    simpa using h7
theorem stab_all {fuel : Nat} {listed : Array Bool} {a : Act} {w : World} (h : ∀ i, i < ops.size → listed.getD i true = true) (hq : Q .normal a w) : wpAny P md ops Q fuel listed a w := by
  have hr : Region.ready md ops listed = [] := by
    refine List.eq_nil_iff_forall_not_mem.2 fun j hj => ?_
    obtain ⟨h1, o, h2, _⟩ := Go.mem_ready.1 hj
    have := h j (Array.getElem?_eq_some_iff.1 h2).1
    rw [h1] at this; cases this
  cases fuel with
  | zero => exact ⟨hr, hq⟩
  | succ n => exact ⟨fun _ => hq, by rw [hr]; simp⟩
theorem set_listed {listed : Array Bool} {i j : Nat} (h : listed.getD j true = true) : (listed.setIfInBounds i true).getD j true = true := by
  by_cases e : i = j
  · subst e
    rcases Nat.lt_or_ge i listed.size with h' | h'
    · simp [h']
    · simp [h']
  · rw [getD_set_ne true e]; exact h
theorem set_listed_self {listed : Array Bool} {i : Nat} : (listed.setIfInBounds i true).getD i true = true := by
  rcases Nat.lt_or_ge i listed.size with h' | h'
  · simp [h']
  · simp [h']
theorem getD_both {listed : Array Bool} {j : Nat} (h : listed.getD j false = true) : listed.getD j true = true := by
  rcases Nat.lt_or_ge j listed.size with h' | h'
  · simp [h'] at h ⊢; exact h
  · simp [h'] at h
theorem getD_both' {listed : Array Bool} {j : Nat} (hj : j < listed.size) (h : listed.getD j true = true) : listed.getD j false = true := by
  simp [hj] at h ⊢; exact h
theorem Stab.run (htr : ∀ a b c, R a b → R b c → R a c) (h : Stab R P md ops Q w0 rem L mk D Post) : ∀ (fuel : Nat) (listed : Array Bool) (s : Nat → Value) (w : World), R w0 w → listed.size = ops.size → (∀ i, i < ops.size → listed.getD i true = false → i ∈ rem) →
    (∀ i ∈ rem, listed.getD i true = true → i ≠ L ∧ Post i s w ∧ ∀ k ∈ D i, listed.getD k true = true) → (rem.filter (fun i => !(listed.getD i true))).length ≤ fuel → wpAny P md ops Q fuel listed (mk s) w := by
  intro fuel
  induction fuel with
  | zero =>
    intro listed s w hx hsz hrem hinv hct
    have hall : ∀ i ∈ rem, listed.getD i true = true := by
      intro i hi
      have := List.eq_nil_of_length_eq_zero (Nat.le_zero.1 hct)
      have := (List.filter_eq_nil_iff.1 this) i hi
      simpa using this
    refine stab_all (fun i hi => ?_) (h.fin (fun hL => (hinv L hL (hall L hL)).1 rfl) s w hx fun k hk => (hinv k hk (hall k hk)).2.1)
    cases hb : listed.getD i true with
    | true => rfl
    | false => rw [← hb]; exact hall i (hrem i hi hb)
  | succ fuel ih =>
    intro listed s w hx hsz hrem hinv hct
    refine ⟨fun hr => ?_, fun i hi => ?_⟩
    · have hno : ∀ n i, i < n → i < ops.size → listed.getD i true = true := by
        intro n
        induction n with
        | zero => intro i hi; omega
        | succ n ihn =>
          intro i hi hio
          cases hb : listed.getD i true with
          | true => rfl
          | false =>
            exfalso
            have him := hrem i hio hb
            obtain ⟨_, _, h3⟩ := stabB_spec h.text him
            obtain ⟨o, ho⟩ : ∃ o, ops[i]? = some o := ⟨_, Array.getElem?_eq_getElem hio⟩
            have hin : i ∈ Region.ready md ops listed := Go.mem_ready.2 ⟨hb, o, ho, fun e he hbd => getD_both' (by have := (h3 o ho).2 e he hbd; omega) (ihn _ (by have := (h3 o ho).2 e he hbd; omega) (by have := (h3 o ho).2 e he hbd; omega))⟩
            rw [hr] at hin; cases hin
      have hall : ∀ i ∈ rem, listed.getD i true = true := fun i hi => hno (i + 1) i (Nat.lt_succ_self i) (stabB_spec h.text hi).1
      exact h.fin (fun hL => (hinv L hL (hall L hL)).1 rfl) s w hx fun k hk => (hinv k hk (hall k hk)).2.1
    · obtain ⟨hun, o, ho, hall⟩ := Go.mem_ready.1 hi
      have hio : i < ops.size := (Array.getElem?_eq_some_iff.1 ho).1
      have him := hrem i hio hun
      obtain ⟨_, hself, h3⟩ := stabB_spec h.text him
      have hdep : ∀ k ∈ D i, k ≠ i → k ∈ rem ∧ listed.getD k true = true := by
        intro k hk hne
        obtain ⟨hkr, hk2⟩ := (h3 o ho).1 k hk
        rcases hk2 with rfl | ⟨e, he, hb, her, hke⟩
        · exact absurd rfl hne
        · exact ⟨hkr, (hinv e.on her (getD_both (hall e he hb))).2.2 k hke⟩
      refine wpOp_step ho fun K' hK => ?_
      by_cases hL : i = L
      · subst hL
        obtain ⟨hcov, hlast⟩ := h.last him
        refine hlast o ho s w hx (fun k hk hne => (hinv k hk (hdep k (hcov k hk) hne).2).2.1) K' fun a' w' hq => hK _ _ (stab_all (fun j hj => ?_) hq)
        by_cases e : i = j
        · subst e; exact set_listed_self
        · rw [getD_set_ne true e]
          cases hb : listed.getD j true with
          | true => rfl
          | false => rw [← hb]; exact (hdep j (hcov j (hrem j hj hb)) (Ne.symm e)).2
      · refine h.op i him hL o ho s w hx (fun k hk hne => (hinv k (hdep k hk hne).1 (hdep k hk hne).2).2.1) K' fun v w' hx' hp => hK _ _ ?_
        rw [h.put i him o ho s v]
        refine ih _ _ w' (htr _ _ _ hx hx') (by simpa using hsz) (fun j hj hb => ?_) (fun j hj hb => ?_) ?_
        · refine hrem j hj ?_
          cases hb2 : listed.getD j true with
          | false => rfl
          | true => rw [set_listed hb2] at hb; cases hb
        · by_cases e : i = j
          · subst e
            refine ⟨hL, hp, fun k hk => ?_⟩
            by_cases e2 : k = i
            · subst e2; exact set_listed_self
            · exact set_listed (hdep k hk e2).2
          · rw [getD_set_ne true e] at hb
            obtain ⟨g1, g2, g3⟩ := hinv j hj hb
            refine ⟨g1, h.loc j hj s _ w' (fun k hk => ?_) (h.st j s w w' g2 hx'), fun k hk => set_listed (g3 k hk)⟩
            rw [upd_ne]
            rintro rfl
            have := g3 k hk
            rw [hun] at this; cases this
        · have := count_lt (p := fun i => !(listed.getD i true)) (q := fun j => !((listed.setIfInBounds i true).getD j true)) (i := i) (by simp only [hun, Bool.not_false]) (by simp only [set_listed_self, Bool.not_true])
            (fun j hj => by
              cases hb2 : listed.getD j true with
              | false => rfl
              | true => simp only [set_listed hb2, Bool.not_true] at hj; cases hj) him
          omega
/-- From the start of the walk: what the quiet walk has taken is listed already. -/
theorem Stab.start {id : Nat} {a : Act} {w : World} (hrf : ∀ a, R a a) (htr : ∀ a b c, R a b → R b c → R a c) (s : Nat → Value) (hm : P.follows .mixedOrders = true) (h : Stab R P .any ops Q w.drew rem L mk D Post) (hs : a = mk s) (hrem : ∀ i, i < ops.size → i ∈ rem) (hct : rem.length ≤ ops.size) : (Code.region id ops true).wp P Q a w := by
  subst hs
  refine wp_region_any hm (h.run htr ops.size _ s w.drew (hrf _) (by simp) (fun i hi _ => hrem i hi) (fun i hi hb => ?_) ?_)
  · have := (stabB_spec h.text hi).1
    simp [this] at hb
  · exact Nat.le_trans (List.length_filter_le _ _) hct
theorem ext_refl (a : World) : Ext a a := Ext.refl a
theorem ext_trans (a b c : World) (h : Ext a b) (k : Ext b c) : Ext a c := h.trans k
/-- Later: what was there ahead of 'b0' stands; what came since stands, but where there was nothing. -/
structure Grew (b0 : Nat) (w w' : World) : Prop where
  os : w'.os = w.os
  tape : w'.tape = w.tape
  output : w'.output = w.output
  size : w.heap.size ≤ w'.heap.size
  block : ∀ b, b < w.heap.size → w'.heap[b]? = w.heap[b]? ∨ (b0 ≤ b ∧ ∃ t fr, w.heap[b]? = some (.cells #[] t fr))
theorem Grew.refl (b0 : Nat) (w : World) : Grew b0 w w := ⟨rfl, rfl, rfl, Nat.le_refl _, fun _ _ => .inl rfl⟩
theorem Grew.trans {b0 : Nat} {a b c : World} (h : Grew b0 a b) (k : Grew b0 b c) : Grew b0 a c :=
  ⟨k.os.trans h.os, k.tape.trans h.tape, k.output.trans h.output, Nat.le_trans h.size k.size, fun x hx => by
    rcases h.block x hx with h1 | h1
    · rcases k.block x (Nat.lt_of_lt_of_le hx h.size) with k1 | k1
      · exact .inl (k1.trans h1)
      · rw [h1] at k1; exact .inr k1
    · exact .inr h1⟩
theorem Grew.tr (b0 : Nat) (a b c : World) (h : Grew b0 a b) (k : Grew b0 b c) : Grew b0 a c := h.trans k
theorem Grew.of_ext {b0 : Nat} {w w' : World} (h : Ext w w') : Grew b0 w w' := ⟨h.os, h.tape, h.output, h.size, fun b hb => .inl (h.block b hb (by simp))⟩
theorem Grew.of_one {b0 g : Nat} {w w' : World} (h : w.grownBy w' (some g)) (hg : b0 ≤ g) {t : TypeId} {fr : Nat × Nat} (he : w.heap[g]? = some (.cells #[] t fr)) : Grew b0 w w' :=
  ⟨h.os, h.tape, h.output, h.size, fun b hb => by
    by_cases e : b = g
    · subst e; exact .inr ⟨hg, t, fr, he⟩
    · exact .inl (h.block b hb (by simpa using e))⟩
/-- .. as seen from ahead. -/
theorem Grew.ext {b0 : Nat} {a w w' : World} (h : Ext a w) (hb : a.heap.size ≤ b0) (k : Grew b0 w w') : Ext a w' :=
  ⟨k.os.trans h.os, k.tape.trans h.tape, k.output.trans h.output, Nat.le_trans h.size k.size, fun b hb2 hn => by
    rcases k.block b (Nat.lt_of_lt_of_le hb2 h.size) with h1 | h1
    · exact h1.trans (h.block b hb2 hn)
    · exact absurd h1.1 (by omega)⟩
theorem Grew.blk {b0 g : Nat} {w w' : World} {t : TypeId} {cs : List Value} (h : Blk w g t cs) (hn : cs ≠ []) (k : Grew b0 w w') : Blk w' g t cs := by
  have hg : g < w.heap.size := h.lt
  rcases k.block g hg with h1 | ⟨_, t', fr, h1⟩
  · exact h1.trans h
  · rw [show w.heap[g]? = _ from h] at h1
    simp at h1
    exact absurd h1.1 hn
theorem wanted_plain {o : Oper} {y : Nat → Option Bool} (h : o.guard = none) : Region.wanted o y = true := by simp [Region.wanted, h]
end
/-! ### The frame with the values in their slots -/
def mkOf (a : Act) : List (Option Nat) → Nat → (Nat → Value) → Act
  | [], _, _ => a
  | d :: ds, i, s => mkOf (a.put d (s i)) ds (i + 1) s
theorem mkOf_congr (s s' : Nat → Value) : ∀ (ds : List (Option Nat)) (i : Nat) (a : Act), (∀ j d, ds[j]? = some (some d) → s (i + j) = s' (i + j)) → mkOf a ds i s = mkOf a ds i s'
  | [], _, _, _ => rfl
  | d :: ds, i, a, h => by
    have e : a.put d (s i) = a.put d (s' i) := by
      cases d with
      | none => rfl
      | some x => rw [show s i = s' i from h 0 x rfl]
    unfold mkOf
    rw [e]
    exact mkOf_congr s s' ds (i + 1) _ fun j d hj => by have := h (j + 1) d hj; rwa [show i + (j + 1) = i + 1 + j by omega] at this
theorem put_comm {a : Act} {d e : Option Nat} {u v : Value} (h : ∀ x, d = some x → e ≠ some x) : (a.put d u).put e v = (a.put e v).put d u := by
  cases d with
  | none => rfl
  | some x =>
    cases e with
    | none => rfl
    | some y =>
      have hne : x ≠ y := fun e => h x rfl (by rw [e])
      simp only [Act.put]
      congr 1
      exact Array.setIfInBounds_comm _ _ hne
theorem put_same {a : Act} {d : Option Nat} {u v : Value} : (a.put d u).put d v = a.put d v := by
  cases d with
  | none => rfl
  | some x =>
    simp only [Act.put]
    congr 1
    apply Array.ext_getElem?
    intro k
    simp only [Array.getElem?_setIfInBounds, Array.size_setIfInBounds]
    by_cases hk : x = k <;> simp [hk]
theorem mkOf_comm (s : Nat → Value) (d : Nat) (v : Value) : ∀ (ds : List (Option Nat)) (i : Nat) (a : Act), some d ∉ ds → (mkOf a ds i s).put (some d) v = mkOf (a.put (some d) v) ds i s
  | [], _, _, _ => rfl
  | e :: ds, i, a, h => by
    unfold mkOf
    rw [mkOf_comm s d v ds (i + 1) _ (fun hm => h (List.mem_cons_of_mem _ hm)), put_comm]
    rintro x rfl he
    exact h (by rw [he]; simp)
def noTwice : List (Option Nat) → Bool
  | [] => true
  | none :: ds => noTwice ds
  | some d :: ds => !(ds.contains (some d)) && noTwice ds
theorem mkOf_put (s : Nat → Value) (v : Value) : ∀ (ds : List (Option Nat)) (i j : Nat) (a : Act) (d : Option Nat), noTwice ds = true → ds[j]? = some d → (mkOf a ds i s).put d v = mkOf a ds i (upd s (i + j) v)
  | [], _, _, _, _, _, h => by simp at h
  | e :: ds, i, 0, a, d, hn, h => by
    obtain rfl : e = d := by simpa using h
    cases e with
    | none =>
      refine (mkOf_congr _ _ _ _ _ fun j d hj => ?_)
      rw [upd_ne]
      rintro hij
      obtain rfl : j = 0 := by omega
      simp at hj
    | some x =>
      simp only [noTwice, Bool.and_eq_true] at hn
      unfold mkOf
      rw [mkOf_comm s x v ds (i + 1) _ (by simpa using hn.1), put_same, show i + 0 = i from rfl, upd_self]
      exact mkOf_congr _ _ _ _ _ fun j d _ => by rw [upd_ne]; omega
  | e :: ds, i, j + 1, a, d, hn, h => by
    have hn2 : noTwice ds = true := by
      cases e with
      | none => exact hn
      | some x => simp only [noTwice, Bool.and_eq_true] at hn; exact hn.2
    unfold mkOf
    rw [mkOf_put s v ds (i + 1) j _ d hn2 (by simpa using h), show i + 1 + j = i + (j + 1) by omega, upd_ne _ _ (by omega)]
/-- The frame as it is. -/
def nowOf (a : Act) (ds : List (Option Nat)) (i : Nat) : Value := match ds[i]? with
  | some (some d) => a.tmps.getD d undef
  | _ => undef
theorem put_now (a : Act) (d : Nat) : a.put (some d) (a.tmps.getD d undef) = a := by
  have h : a.tmps.setIfInBounds d (a.tmps.getD d undef) = a.tmps := by
    apply Array.ext_getElem?
    intro k
    simp only [Array.getElem?_setIfInBounds]
    by_cases hk : d = k
    · subst hk
      by_cases hd : d < a.tmps.size <;> simp [hd]
    · simp [hk]
  simp only [Act.put, h]
theorem mkOf_now : ∀ (ds : List (Option Nat)) (i : Nat) (a : Act) (s : Nat → Value), (∀ j d, ds[j]? = some (some d) → s (i + j) = a.tmps.getD d undef) → mkOf a ds i s = a
  | [], _, _, _, _ => rfl
  | d :: ds, i, a, s, h => by
    have e : a.put d (s i) = a := by
      cases d with
      | none => rfl
      | some x => rw [show s i = _ from h 0 x rfl, put_now]
    unfold mkOf
    rw [e]
    exact mkOf_now ds (i + 1) a s fun j d hj => by have := h (j + 1) d hj; rwa [show i + (j + 1) = i + 1 + j by omega] at this
theorem mkOf_start (a : Act) (ds : List (Option Nat)) : a = mkOf a ds 0 (nowOf a ds) := (mkOf_now ds 0 a _ fun j d hj => by simp [nowOf, hj]).symm
/-- What is asked of one operation. -/
def StabOp (R : World → World → Prop) (P : Program) (ops : Array Oper) (Q : Exit → Act → World → Prop) (w0 : World) (mk : (Nat → Value) → Act) (Pi : Nat → Value → World → Prop) (D : List Nat) (i : Nat) (o : Oper) : Prop :=
  ∀ s w, R w0 w → (∀ k ∈ D, k ≠ i → Pi k (s k) w) → ∀ K : Act → World → Prop, (∀ v w', R w w' → Pi i v w' → K ((mk s).put o.dst v) w') →
    if Region.wanted o (yielded ops (mk s).tmps) = true then o.wp P (mk s) w K Q else K ((mk s).put o.dst undef) w
def StabLast (R : World → World → Prop) (P : Program) (ops : Array Oper) (Q : Exit → Act → World → Prop) (w0 : World) (mk : (Nat → Value) → Act) (Pi : Nat → Value → World → Prop) (L : Nat) (o : Oper) : Prop :=
  ∀ s w, R w0 w → (∀ k, k < L → Pi k (s k) w) → ∀ K : Act → World → Prop, (∀ a' w', Q .normal a' w' → K a' w') →
    if Region.wanted o (yielded ops (mk s).tmps) = true then o.wp P (mk s) w K Q else K ((mk s).put o.dst undef) w
section
variable {P : Program} {Q : Exit → Act → World → Prop}
theorem op_of {l : List Oper} {i : Nat} {o : Oper} (h : l.toArray[i]? = some o) : (l.drop i).head? = some o := by rw [List.head?_drop]; simpa using h
/-- THE WALK, the last operation a store: 'ops' the obligations, one for each but the last. -/
theorem stab_store {id : Nat} {l : List Oper} {a : Act} {w : World} (R : World → World → Prop) (hrf : ∀ a, R a a) (htr : ∀ a b c, R a b → R b c → R a c) (Ds : List (List Nat)) (Pi : Nat → Value → World → Prop) (hm : P.follows .mixedOrders = true)
    (ht : stabB .any l.toArray (List.range l.length) (fun i => Ds.getD i []) = true) (hn : noTwice (l.map (·.dst)) = true) (hc : (List.range l.length).all (fun k => (Ds.getD (l.length - 1) []).contains k) = true) (hl0 : l ≠ [])
    (hst : ∀ i v w w', Pi i v w → R w w' → Pi i v w')
    (hop : ∀ i, i < l.length - 1 → ∀ o, (l.drop i).head? = some o → StabOp R P l.toArray Q w.drew (mkOf a (l.map (·.dst)) 0) Pi (Ds.getD i []) i o)
    (hlast : ∀ o, (l.drop (l.length - 1)).head? = some o → StabLast R P l.toArray Q w.drew (mkOf a (l.map (·.dst)) 0) Pi (l.length - 1) o) : (Code.region id l.toArray true).wp P Q a w := by
  have hpos : 0 < l.length := List.length_pos_iff.2 hl0
  refine Stab.start (R := R) hrf htr (rem := List.range l.length) (L := l.length - 1) (mk := mkOf a (l.map (·.dst)) 0) (D := fun i => Ds.getD i []) (Post := fun i s w => Pi i (s i) w) (nowOf a (l.map (·.dst))) hm
    ⟨ht, fun i hi o ho s v => ?_, fun i s w w' => hst i (s i) w w', fun i hi s s' w hk h => ?_, fun i hi hL o ho s w hx hd K hK => ?_, fun _ => ⟨fun k hk => ?_, fun o ho s w hx hd K hK => ?_⟩, fun hL => ?_⟩ (mkOf_start a _) (fun i hi => by simpa using hi) (by simp)
  · have := mkOf_put s v (l.map (·.dst)) 0 i a o.dst hn (by rw [List.getElem?_map, show l[i]? = some o by simpa using ho]; rfl)
    rw [Nat.zero_add] at this
    exact this
  · rw [← hk i (stabB_spec ht hi).2.1]; exact h
  · refine hop i (by have := List.mem_range.1 hi; omega) o (op_of ho) s w hx hd K fun v w' h1 h2 => hK v w' h1 (by rw [upd_self]; exact h2)
  · have := (List.all_eq_true.1 hc) k hk
    simpa using this
  · exact hlast o (op_of ho) s w hx (fun k hk => hd k (List.mem_range.2 (by omega)) (by omega)) K hK
  · exact absurd (List.mem_range.2 (by omega)) hL
/-- THE WALK, no store. -/
theorem stab_plain {id : Nat} {l : List Oper} {a : Act} {w : World} (R : World → World → Prop) (hrf : ∀ a, R a a) (htr : ∀ a b c, R a b → R b c → R a c) (Ds : List (List Nat)) (Pi : Nat → Value → World → Prop) (hm : P.follows .mixedOrders = true)
    (ht : stabB .any l.toArray (List.range l.length) (fun i => Ds.getD i []) = true) (hn : noTwice (l.map (·.dst)) = true)
    (hst : ∀ i v w w', Pi i v w → R w w' → Pi i v w')
    (hop : ∀ i, i < l.length → ∀ o, (l.drop i).head? = some o → StabOp R P l.toArray Q w.drew (mkOf a (l.map (·.dst)) 0) Pi (Ds.getD i []) i o)
    (hfin : ∀ s w1, R w.drew w1 → (∀ k, k < l.length → Pi k (s k) w1) → Q .normal (mkOf a (l.map (·.dst)) 0 s) w1) : (Code.region id l.toArray true).wp P Q a w := by
  refine Stab.start (R := R) hrf htr (rem := List.range l.length) (L := l.length) (mk := mkOf a (l.map (·.dst)) 0) (D := fun i => Ds.getD i []) (Post := fun i s w => Pi i (s i) w) (nowOf a (l.map (·.dst))) hm
    ⟨ht, fun i hi o ho s v => ?_, fun i s w w' => hst i (s i) w w', fun i hi s s' w hk h => ?_, fun i hi hL o ho s w hx hd K hK => ?_, fun hL => absurd hL (by simp), fun hL s w hx hd => ?_⟩ (mkOf_start a _) (fun i hi => by simpa using hi) (by simp)
  · have := mkOf_put s v (l.map (·.dst)) 0 i a o.dst hn (by rw [List.getElem?_map, show l[i]? = some o by simpa using ho]; rfl)
    rw [Nat.zero_add] at this
    exact this
  · rw [← hk i (stabB_spec ht hi).2.1]; exact h
  · refine hop i (List.mem_range.1 hi) o (op_of ho) s w hx hd K fun v w' h1 h2 => hK v w' h1 (by rw [upd_self]; exact h2)
  · exact hfin s w hx fun k hk => hd k (List.mem_range.2 hk)
end
end
section
open Go.RowKit

section
variable {P : Program} {md : Region.Mode} {ops : Array Oper} {Q : Exit → Act → World → Prop} {R : World → World → Prop}
/-- Two may come up. -/
theorem bothM (i k : Nat) {oi ok : Oper} {fuel : Nat} {listed : Array Bool} {a : Act} {w : World} (hi : (ops.toList.drop i).head? = some oi) (hk : (ops.toList.drop k).head? = some ok)
    (hr : Region.ready md ops listed = [i, k]) (hw : Region.wanted oi (yielded ops a.tmps) = true) (hw2 : Region.wanted ok (yielded ops a.tmps) = true)
    (h1 : ∀ K : Act → World → Prop, (∀ a' w', R w w' → wpAnyM P md ops Q R fuel (listed.setIfInBounds i true) a' w' → K a' w') → oi.wp P a w K Q)
    (h2 : ∀ K : Act → World → Prop, (∀ a' w', R w w' → wpAnyM P md ops Q R fuel (listed.setIfInBounds k true) a' w' → K a' w') → ok.wp P a w K Q) : wpAnyM P md ops Q R (fuel + 1) listed a w := by
  refine ⟨fun h0 => (by rw [hr] at h0; cases h0), fun j hj => ?_⟩
  rw [hr] at hj
  rcases List.mem_cons.1 hj with rfl | hj
  · refine wpOp_step (op_at hi) (fun K' hK => ?_)
    rw [if_pos hw]
    exact h1 K' (fun a' w' h1 h2 => hK _ _ ⟨h1, h2⟩)
  · obtain rfl : j = k := by simpa using hj
    refine wpOp_step (op_at hk) (fun K' hK => ?_)
    rw [if_pos hw2]
    exact h2 K' (fun a' w' h1 h2 => hK _ _ ⟨h1, h2⟩)
theorem relist {fuel : Nat} {L L' : Array Bool} {a : Act} {w : World} (h : L = L') (hw : wpAnyM P md ops Q R fuel L' a w) : wpAnyM P md ops Q R fuel L a w := h ▸ hw
theorem wp_alloc_agg {w : World} {o : Oper} {a : Act} {K : Act → World → Prop} (ty : TypeId) (ho : o.op = .alloc ty) (z : List Value)
    (hz : (P.info? ty).bind (fun i => i.zero.map (·.cells)) = some z.toArray)
    (h : K (a.put o.dst (.pointer (some ⟨w.heap.size, 0, none⟩))) (w.alloc (.cells z.toArray ty))) : o.wp P a w K Q := by
  obtain ⟨i, hi, hzz⟩ := Option.bind_eq_some_iff.1 hz
  obtain ⟨zv, hzv, hzc⟩ := Option.map_eq_some_iff.1 hzz
  unfold Oper.wp execOp
  simp only [ho, Instr.alloc, zeroValue, typeInfo, Sem.run_bind, run_program, Result.andThen_ok, hi, Sem.run_pure, hzv, newVar, newRow, hzc, run_newObj, World.alloc_eq]
  exact h
end
/-- One end for several ways. -/
theorem shared2 {Q : Prop} {A : Nat → Value → World → Prop} (J : Nat → Value → World → Prop) (h1 : (∀ g u w, J g u w → A g u w) → Q) (h2 : ∀ g u w, J g u w → A g u w) : Q := h1 h2
theorem shared3 {Q : Prop} {A : Nat → Value → Value → World → Prop} (J : Nat → Value → Value → World → Prop) (h1 : (∀ g u v w, J g u v w → A g u v w) → Q) (h2 : ∀ g u v w, J g u v w → A g u v w) : Q := h1 h2
theorem shared4 {Q : Prop} {A : Nat → Value → Value → Value → World → Prop} (J : Nat → Value → Value → Value → World → Prop) (h1 : (∀ g u v x w, J g u v x w → A g u v x w) → Q) (h2 : ∀ g u v x w, J g u v x w → A g u v x w) : Q := h1 h2
end
section
open Go.RowKit

theorem u8_size1 : (Try.prog.info? 5).map (·.size) = some 1 := by kernel_rfl
theorem u8_zero1 : ((Try.prog.info? 5).bind (·.zero)).isSome = true := by kernel_rfl
theorem wp_bs0 {P : Program} {w : World} {o : Oper} {a : Act} {K : Act → World → Prop} {Q : Exit → Act → World → Prop} (t : TypeId) (ho : o.op = .buildSlice t 0 #[])
    (e : TypeId) (ht : P.underlying t = some (.slice e)) (hi : (P.info? e).map (·.size) = some 1) (hz : ((P.info? e).bind (·.zero)).isSome = true)
    (h : K (a.put o.dst (.slice (some ⟨w.heap.size, 0, none⟩) 0 0)) (w.alloc (.cells #[] e))) : o.wp P a w K Q := by
    obtain ⟨i, hi', hs⟩ := Option.map_eq_some_iff.1 hi
    rw [hi', Option.bind_some] at hz
    obtain ⟨z, hz⟩ := Option.isSome_iff_exists.1 hz
    unfold Oper.wp execOp
    have hrun : (Instr.buildSlice t 0 #[]).run P w = .ok (.slice (some ⟨w.heap.size, 0, none⟩) 0 0) (w.alloc (.cells #[] e)) := by
      unfold Instr.buildSlice
      simp [Sem.run_bind, run_underlying ht, Result.andThen_ok, sizeOf, typeInfo, run_program, hi', Sem.run_pure, hs, zeroValue, hz, newRow, Instr.fill]
      have e : ∀ f : Nat → Value, Array.map f (Array.range 0) = #[] := fun f => Array.eq_empty_of_size_eq_zero (by simp)
      rw [e]
    simp only [ho, List.map_toArray, List.map_nil, Sem.run_bind, hrun, Result.andThen_ok, Sem.run_pure]
    exact h
theorem byteN_val {k : Nat} (h : k < 256) : (((byteN k).toNat : Nat) : Int) = (k : Int) := by
  have : (byteN k).toNat = k := by unfold byteN; simp; omega
  rw [this]
theorem two_bytes {k b : Nat} (hk : k < 32) (hb : b < 2) : [Value.int .u8 (k : Int), Value.int .u8 (b : Int)] = bv [byteN k, byteN b] := by
  simp [bv, byteN_val (show k < 256 by omega), byteN_val (show b < 256 by omega)]
theorem sl_form {w : World} {F : Fp} {v : Value} {l : List UInt8} (h : (Ty.sl .u8).holds w F [v] l) : ∃ A c, v = .slice A l.length c := by
  obtain ⟨A, c, xs, hv, _⟩ := h
  exact ⟨A, c, by simpa using hv⟩
theorem three_parts {w : World} {a b c : Value} {p q r : List UInt8} {F : Fp} {T : TypeId} (ha : (Ty.sl .u8).holds w F [a] p) (hF : ∀ x, F x → x < w.heap.size) (hb : (Ty.sl .u8).holds w (fun x => b.ownBlock = some x) [b] q) (hG : ∀ x, b.ownBlock = some x → x < w.heap.size)
    (hc : (Ty.sl .u8).holds w (fun x => c.ownBlock = some x) [c] r) (hH : ∀ x, c.ownBlock = some x → x < w.heap.size) :
    ∃ F', (Ty.sl (.sl .u8)).holds (w.alloc (.cells #[a, b, c] T)) F' [.slice (some ⟨w.heap.size, 0, none⟩) 3 3] [p, q, r] ∧ ∀ x, F' x → x < (w.alloc (.cells #[a, b, c] T)).heap.size := by
  refine ⟨_, parts_new (w := w) (vs := [a, b, c]) (F := fun x => F x ∨ b.ownBlock = some x ∨ c.ownBlock = some x) rfl rfl (by simp [maxLen]) ?_ ?_, ?_⟩
  · exact ⟨[a], [b, c], rfl, Ty.keep (fun _ _ => rfl) (fun _ h => .inl h) _ ha, [b], [c], rfl, Ty.keep (fun _ _ => rfl) (fun _ h => .inr (.inl h)) _ hb, [c], [], rfl, Ty.keep (fun _ _ => rfl) (fun _ h => .inr (.inr h)) _ hc, rfl⟩
  · rintro x (h | h | h)
    · exact hF x h
    · exact hG x h
    · exact hH x h
  · rintro x ((h | h | h) | rfl)
    · have := hF x h; simp; omega
    · have := hG x h; simp; omega
    · have := hH x h; simp; omega
    · simp
set_option maxRecDepth 100000 in
set_option maxHeartbeats 4000000 in
theorem Secret (seed : List UInt8) (hs : seed.length = 32) (n : Nat) (hn : (Lit.int .u32 (n : Int)).wf = true) (k : Nat) (hk : k < 32) (bt : Nat) (hbt : bt < 2) (w : World) :
    Calls Try.prog 71 #[.agg (keyC seed n).toArray, .int .i64 (k : Int), .int .u8 (bt : Int)] w fun e w' => e = .returned (.agg (bv (secretM seed n k bt)).toArray) ∧ Ext w w' := by
  have hz := piece_zero
  have hzd := digest_zero
  have hzl : (bv (List.replicate 16 0)).length = 16 := by simp
  have hdl : (bv (List.replicate 32 0)).length = 32 := by simp
  generalize bv (List.replicate 16 0) = Z at hz hzl
  generalize bv (List.replicate 32 0) = D at hzd hdl
  have hx0 : Ext w ((w.alloc (.cells (keyC seed n).toArray 96)).alloc (.cells Z.toArray 33)).drew := ((((Ext.refl w).alloc _).alloc _)).trans (Ext.refl _).drew
  have hb0 : Blk ((w.alloc (.cells (keyC seed n).toArray 96)).alloc (.cells Z.toArray 33)).drew w.heap.size 96 (keyC seed n) := ((Blk.new _ _ _).keep ((Ext.refl _).alloc _) (by simp)).keep (Ext.refl _).drew (by simp)
  have hb1 : Blk ((w.alloc (.cells (keyC seed n).toArray 96)).alloc (.cells Z.toArray 33)).drew (w.heap.size + 1) 33 Z := (blk_new_at (w := w.alloc (.cells (keyC seed n).toArray 96)) (by simp) _ _).keep (Ext.refl _).drew (by simp)
  have hseed : ∀ W, Ext ((w.alloc (.cells (keyC seed n).toArray 96)).alloc (.cells Z.toArray 33)).drew W → (Ty.sl .u8).holds W (fun b => b = w.heap.size) [.slice (some ⟨w.heap.size, 0, none⟩) 32 32] seed ∧ ∀ b, b = w.heap.size → b < W.heap.size := by
    intro W hX
    have hb := hb0.keep hX (by simp)
    refine ⟨⟨_, _, bv seed, by rw [hs], by rw [hs]; exact Nat.le_refl _, by simp [maxLen], by simp, fun _ => ⟨_, rfl, rfl, ?_⟩, AllH.bytes.2 rfl⟩, ?_⟩
    · have h := hb.cells.take 32
      have e : (keyC seed n).take 32 = bv seed := by simp [keyC, hs]
      rw [e] at h
      exact h
    · rintro b rfl; exact hb.lt
  have hkn : (keyC seed n)[32]? = some (.int .u32 (n : Int)) := by simp [keyC, hs]
  have hrl : (bv (sha (textM 1 [seed, be 4 n, [byteN k, byteN bt]]))).length = 32 := by rw [bv_length, sha_length]
  have hro := bv_one (sha (textM 1 [seed, be 4 n, [byteN k, byteN bt]]))
  have hcl : (bv (secretM seed n k bt)).length = 16 := by rw [bv_length, secretM_length]
  have hco := bv_one (secretM seed n k bt)
  have htk : (bv (sha (textM 1 [seed, be 4 n, [byteN k, byteN bt]]))).take 16 = bv (secretM seed n k bt) := by simp [secretM, bv, List.map_take]
  generalize hR : bv (sha (textM 1 [seed, be 4 n, [byteN k, byteN bt]])) = R at hrl hro htk
  generalize hC : bv (secretM seed n k bt) = C at hcl hco htk ⊢
  generalize hKC : keyC seed n = KC at hx0 hb0 hb1 hseed hkn ⊢
  have HKEY := Lib.hid hb0
  have HKN := Lib.hid hkn
  have HN := Lib.hid hn
  have HK := Lib.hid hk
  have HWK : Hid (IntKind.u8.wrap (k : Int) = (k : Int)) := Lib.hid (by simp [IntKind.wrap, IntKind.bits, IntKind.signed]; omega)
  have HBT := Lib.hid hbt
  have HSEED := Lib.hid hseed
  have HSL := Lib.hid hs
  have HR := Lib.hid hR
  have HRL := Lib.hid hrl
  have HDL := Lib.hid hdl
  have HZL := Lib.hid hzl
  have HCL := Lib.hid hcl
  have HTK := Lib.hid htk
  have HB1 := Lib.hid hb1
  have HX0 := Lib.hid hx0
  clear hb0 hkn hn hk hbt hseed hs hR hrl hdl hzl hcl htk hb1 hx0 hC hKC
  go_enter Try.func71, Try.ntmps71
  go_wp2_with (first
    | (refine wpList_alloc _ rfl 33 rfl _ hz ?_)
    | fail)
  simp only [World.size_alloc]
  refine stab_store Ext ext_refl ext_trans [[0], [0, 1], [2], [3], [3, 4], [3, 4, 5], [2, 3, 4, 5, 6], [7], [7, 8], [9], [7, 8, 9, 10], [0, 1, 2, 3, 4, 5, 6, 7, 8, 9, 10, 11], [0, 1, 2, 3, 4, 5, 6, 7, 8, 9, 10, 11, 12], [13], [0, 1, 2, 3, 4, 5, 6, 7, 8, 9, 10, 11, 12, 13, 14]] (fun i v wv => match i with | 0 => v = .pointer (some ⟨w.heap.size, 0, none⟩) | 1 => v = .slice (some ⟨w.heap.size, 0, none⟩) 32 32 | 2 => OwnB wv v [] ∧ ∃ b, v = .slice (some b) 0 0 | 3 => v = .pointer (some ⟨w.heap.size, 32, none⟩) | 4 => v = .int .u32 (n : Int) | 5 => (Ty.sl (.nat .u32)).holds wv (fun b => v.ownBlock = some b) [v] [n] ∧ ∀ b, v.ownBlock = some b → b < wv.heap.size | 6 => (Ty.sl .u8).holds wv (fun b => v.ownBlock = some b) [v] (be 4 n) ∧ ∀ b, v.ownBlock = some b → b < wv.heap.size | 7 => v = .int .i64 (k : Int) | 8 => v = .int .u8 (k : Int) | 9 => v = .int .u8 (bt : Int) | 10 => (Ty.sl .u8).holds wv (fun b => v.ownBlock = some b) [v] [byteN k, byteN bt] ∧ ∀ b, v.ownBlock = some b → b < wv.heap.size | 11 => ∃ F, (Ty.sl (.sl .u8)).holds wv F [v] [seed, be 4 n, [byteN k, byteN bt]] ∧ ∀ b, F b → b < wv.heap.size | 12 => v = .agg R.toArray | 13 => ∃ g, v = .pointer (some ⟨g, 0, none⟩) ∧ w.heap.size + 2 ≤ g ∧ Blk wv g 55 D | _ => True) (by kernel_rfl) (by kernel_rfl) (by kernel_rfl) (by kernel_rfl) (by simp) ?_ ?_ ?_
  · intro i v w1 w2 h hx
    match i, h with
    | 0, h => exact h
    | 1, h => exact h
    | 2, h =>
      replace h : OwnB w1 v [] ∧ ∃ b, v = .slice (some b) 0 0 := h
      show OwnB w2 v [] ∧ ∃ b, v = .slice (some b) 0 0
      obtain ⟨h1, h2⟩ := h
      exact ⟨h1.ext hx, h2⟩
    | 3, h => exact h
    | 4, h => exact h
    | 5, h =>
      replace h : (Ty.sl (.nat .u32)).holds w1 (fun b => v.ownBlock = some b) [v] [n] ∧ ∀ b, v.ownBlock = some b → b < w1.heap.size := h
      show (Ty.sl (.nat .u32)).holds w2 (fun b => v.ownBlock = some b) [v] [n] ∧ ∀ b, v.ownBlock = some b → b < w2.heap.size
      obtain ⟨h1, h2⟩ := h
      exact ⟨hx.holds h2 h1, fun b hb => Nat.lt_of_lt_of_le (h2 b hb) hx.size⟩
    | 6, h =>
      replace h : (Ty.sl .u8).holds w1 (fun b => v.ownBlock = some b) [v] (be 4 n) ∧ ∀ b, v.ownBlock = some b → b < w1.heap.size := h
      show (Ty.sl .u8).holds w2 (fun b => v.ownBlock = some b) [v] (be 4 n) ∧ ∀ b, v.ownBlock = some b → b < w2.heap.size
      obtain ⟨h1, h2⟩ := h
      exact ⟨hx.holds h2 h1, fun b hb => Nat.lt_of_lt_of_le (h2 b hb) hx.size⟩
    | 7, h => exact h
    | 8, h => exact h
    | 9, h => exact h
    | 10, h =>
      replace h : (Ty.sl .u8).holds w1 (fun b => v.ownBlock = some b) [v] [byteN k, byteN bt] ∧ ∀ b, v.ownBlock = some b → b < w1.heap.size := h
      show (Ty.sl .u8).holds w2 (fun b => v.ownBlock = some b) [v] [byteN k, byteN bt] ∧ ∀ b, v.ownBlock = some b → b < w2.heap.size
      obtain ⟨h1, h2⟩ := h
      exact ⟨hx.holds h2 h1, fun b hb => Nat.lt_of_lt_of_le (h2 b hb) hx.size⟩
    | 11, h =>
      replace h : ∃ F, (Ty.sl (.sl .u8)).holds w1 F [v] [seed, be 4 n, [byteN k, byteN bt]] ∧ ∀ b, F b → b < w1.heap.size := h
      show ∃ F, (Ty.sl (.sl .u8)).holds w2 F [v] [seed, be 4 n, [byteN k, byteN bt]] ∧ ∀ b, F b → b < w2.heap.size
      obtain ⟨F, h1, h2⟩ := h
      exact ⟨F, hx.holds h2 h1, fun b hb => Nat.lt_of_lt_of_le (h2 b hb) hx.size⟩
    | 12, h => exact h
    | 13, h =>
      replace h : ∃ g, v = .pointer (some ⟨g, 0, none⟩) ∧ w.heap.size + 2 ≤ g ∧ Blk w1 g 55 D := h
      show ∃ g, v = .pointer (some ⟨g, 0, none⟩) ∧ w.heap.size + 2 ≤ g ∧ Blk w2 g 55 D
      obtain ⟨g, h1, h2, h3⟩ := h
      exact ⟨g, h1, h2, h3.keep hx (by simp)⟩
    | i + 14, h => trivial
  · intro i hi o ho
    match i, hi, ho with
    | 0, _, ho =>
      obtain rfl := Option.some.inj ho
      intro s W hX hd K hK
      rw [if_pos (wanted_plain rfl)]
      clear hd
      replace hK : ∀ (v : Value) (W' : World), Ext W W' → (v = .pointer (some ⟨w.heap.size, 0, none⟩)) → _ := hK
      simp only [mkOf, List.map_cons, List.map_nil, Act.put, List.setIfInBounds_toArray, List.set_cons_succ, List.set_cons_zero, Nat.reduceAdd, Nat.zero_add] at hK ⊢
      go_simp
      exact hK _ _ (Ext.refl _) rfl
    | 1, _, ho =>
      obtain rfl := Option.some.inj ho
      intro s W hX hd K hK
      rw [if_pos (wanted_plain rfl)]
      have d8 : (s 0) = .pointer (some ⟨w.heap.size, 0, none⟩) := hd 0 (by decide) (by decide)
      clear hd
      replace hK : ∀ (v : Value) (W' : World), Ext W W' → (v = .slice (some ⟨w.heap.size, 0, none⟩) 32 32) → _ := hK
      simp only [mkOf, List.map_cons, List.map_nil, Act.put, List.setIfInBounds_toArray, List.set_cons_succ, List.set_cons_zero, Nat.reduceAdd, Nat.zero_add] at hK ⊢
      simp only [d8] at hK ⊢
      go_simp
      exact hK _ _ (Ext.refl _) rfl
    | 2, _, ho =>
      obtain rfl := Option.some.inj ho
      intro s W hX hd K hK
      rw [if_pos (wanted_plain rfl)]
      clear hd
      replace hK : ∀ (v : Value) (W' : World), Ext W W' → (OwnB W' v [] ∧ ∃ b, v = .slice (some b) 0 0) → _ := hK
      simp only [mkOf, List.map_cons, List.map_nil, Act.put, List.setIfInBounds_toArray, List.set_cons_succ, List.set_cons_zero, Nat.reduceAdd, Nat.zero_add] at hK ⊢
      refine wp_bs0 80 rfl 5 Try.underlying80 u8_size1 u8_zero1 ?_
      exact hK _ _ ((Ext.refl _).alloc _) ⟨own_empty rfl, ⟨_, rfl⟩⟩
    | 3, _, ho =>
      obtain rfl := Option.some.inj ho
      intro s W hX hd K hK
      rw [if_pos (wanted_plain rfl)]
      clear hd
      replace hK : ∀ (v : Value) (W' : World), Ext W W' → (v = .pointer (some ⟨w.heap.size, 32, none⟩)) → _ := hK
      simp only [mkOf, List.map_cons, List.map_nil, Act.put, List.setIfInBounds_toArray, List.set_cons_succ, List.set_cons_zero, Nat.reduceAdd, Nat.zero_add] at hK ⊢
      go_simp
      exact hK _ _ (Ext.refl _) rfl
    | 4, _, ho =>
      obtain rfl := Option.some.inj ho
      intro s W hX hd K hK
      rw [if_pos (wanted_plain rfl)]
      have d11 : (s 3) = .pointer (some ⟨w.heap.size, 32, none⟩) := hd 3 (by decide) (by decide)
      clear hd
      replace hK : ∀ (v : Value) (W' : World), Ext W W' → (v = .int .u32 (n : Int)) → _ := hK
      simp only [mkOf, List.map_cons, List.map_nil, Act.put, List.setIfInBounds_toArray, List.set_cons_succ, List.set_cons_zero, Nat.reduceAdd, Nat.zero_add] at hK ⊢
      simp only [d11] at hK ⊢
      have c32 := (HKEY.out.keep hX (by simp)).cell 32
      rw [HKN.out] at c32
      go_simp
      exact hK _ _ (Ext.refl _) rfl
    | 5, _, ho =>
      obtain rfl := Option.some.inj ho
      intro s W hX hd K hK
      rw [if_pos (wanted_plain rfl)]
      have d12 : (s 4) = .int .u32 (n : Int) := hd 4 (by decide) (by decide)
      clear hd
      replace hK : ∀ (v : Value) (W' : World), Ext W W' → ((Ty.sl (.nat .u32)).holds W' (fun b => v.ownBlock = some b) [v] [n] ∧ ∀ b, v.ownBlock = some b → b < W'.heap.size) → _ := hK
      simp only [mkOf, List.map_cons, List.map_nil, Act.put, List.setIfInBounds_toArray, List.set_cons_succ, List.set_cons_zero, Nat.reduceAdd, Nat.zero_add] at hK ⊢
      simp only [d12] at hK ⊢
      go_simp
      exact hK _ _ ((Ext.refl _).alloc _) ⟨sl_made (t := .nat .u32) rfl rfl rfl (by simp [maxLen]) (one_nat HN.out), by rintro b ⟨⟩; simp⟩
    | 6, _, ho =>
      obtain rfl := Option.some.inj ho
      intro s W hX hd K hK
      rw [if_pos (wanted_plain rfl)]
      have d10 : OwnB W (s 2) [] ∧ ∃ b, (s 2) = .slice (some b) 0 0 := hd 2 (by decide) (by decide)
      have d13 : (Ty.sl (.nat .u32)).holds W (fun b => (s 5).ownBlock = some b) [(s 5)] [n] ∧ ∀ b, (s 5).ownBlock = some b → b < W.heap.size := hd 5 (by decide) (by decide)
      clear hd
      replace hK : ∀ (v : Value) (W' : World), Ext W W' → ((Ty.sl .u8).holds W' (fun b => v.ownBlock = some b) [v] (be 4 n) ∧ ∀ b, v.ownBlock = some b → b < W'.heap.size) → _ := hK
      simp only [mkOf, List.map_cons, List.map_nil, Act.put, List.setIfInBounds_toArray, List.set_cons_succ, List.set_cons_zero, Nat.reduceAdd, Nat.zero_add] at hK ⊢
      obtain ⟨ho, b, hb⟩ := d10
      rw [hb] at ho
      simp only [hb] at hK ⊢
      go_simp
      refine (four0 b _ n W _ ho d13.1 d13.2).mono ?_
      rintro e w' ⟨v, rfl, hov, hx, _⟩
      exact hK _ _ hx ⟨hov.holds, hov.lt⟩
    | 7, _, ho =>
      obtain rfl := Option.some.inj ho
      intro s W hX hd K hK
      rw [if_pos (wanted_plain rfl)]
      clear hd
      replace hK : ∀ (v : Value) (W' : World), Ext W W' → (v = .int .i64 (k : Int)) → _ := hK
      simp only [mkOf, List.map_cons, List.map_nil, Act.put, List.setIfInBounds_toArray, List.set_cons_succ, List.set_cons_zero, Nat.reduceAdd, Nat.zero_add] at hK ⊢
      go_simp
      exact hK _ _ (Ext.refl _) rfl
    | 8, _, ho =>
      obtain rfl := Option.some.inj ho
      intro s W hX hd K hK
      rw [if_pos (wanted_plain rfl)]
      have d15 : (s 7) = .int .i64 (k : Int) := hd 7 (by decide) (by decide)
      clear hd
      replace hK : ∀ (v : Value) (W' : World), Ext W W' → (v = .int .u8 (k : Int)) → _ := hK
      simp only [mkOf, List.map_cons, List.map_nil, Act.put, List.setIfInBounds_toArray, List.set_cons_succ, List.set_cons_zero, Nat.reduceAdd, Nat.zero_add] at hK ⊢
      simp only [d15] at hK ⊢
      go_simp
      exact hK _ _ (Ext.refl _) (by rw [HWK.out])
    | 9, _, ho =>
      obtain rfl := Option.some.inj ho
      intro s W hX hd K hK
      rw [if_pos (wanted_plain rfl)]
      clear hd
      replace hK : ∀ (v : Value) (W' : World), Ext W W' → (v = .int .u8 (bt : Int)) → _ := hK
      simp only [mkOf, List.map_cons, List.map_nil, Act.put, List.setIfInBounds_toArray, List.set_cons_succ, List.set_cons_zero, Nat.reduceAdd, Nat.zero_add] at hK ⊢
      go_simp
      exact hK _ _ (Ext.refl _) rfl
    | 10, _, ho =>
      obtain rfl := Option.some.inj ho
      intro s W hX hd K hK
      rw [if_pos (wanted_plain rfl)]
      have d16 : (s 8) = .int .u8 (k : Int) := hd 8 (by decide) (by decide)
      have d17 : (s 9) = .int .u8 (bt : Int) := hd 9 (by decide) (by decide)
      clear hd
      replace hK : ∀ (v : Value) (W' : World), Ext W W' → ((Ty.sl .u8).holds W' (fun b => v.ownBlock = some b) [v] [byteN k, byteN bt] ∧ ∀ b, v.ownBlock = some b → b < W'.heap.size) → _ := hK
      simp only [mkOf, List.map_cons, List.map_nil, Act.put, List.setIfInBounds_toArray, List.set_cons_succ, List.set_cons_zero, Nat.reduceAdd, Nat.zero_add] at hK ⊢
      simp only [d16, d17] at hK ⊢
      go_simp
      exact hK _ _ ((Ext.refl _).alloc _) ⟨sl_made (t := .u8) rfl rfl rfl (by simp [maxLen]) (AllH.bytes.2 (two_bytes HK.out HBT.out)), by rintro b ⟨⟩; simp⟩
    | 11, _, ho =>
      obtain rfl := Option.some.inj ho
      intro s W hX hd K hK
      rw [if_pos (wanted_plain rfl)]
      have d9 : (s 1) = .slice (some ⟨w.heap.size, 0, none⟩) 32 32 := hd 1 (by decide) (by decide)
      have d14 : (Ty.sl .u8).holds W (fun b => (s 6).ownBlock = some b) [(s 6)] (be 4 n) ∧ ∀ b, (s 6).ownBlock = some b → b < W.heap.size := hd 6 (by decide) (by decide)
      have d18 : (Ty.sl .u8).holds W (fun b => (s 10).ownBlock = some b) [(s 10)] [byteN k, byteN bt] ∧ ∀ b, (s 10).ownBlock = some b → b < W.heap.size := hd 10 (by decide) (by decide)
      clear hd
      replace hK : ∀ (v : Value) (W' : World), Ext W W' → (∃ F, (Ty.sl (.sl .u8)).holds W' F [v] [seed, be 4 n, [byteN k, byteN bt]] ∧ ∀ b, F b → b < W'.heap.size) → _ := hK
      simp only [mkOf, List.map_cons, List.map_nil, Act.put, List.setIfInBounds_toArray, List.set_cons_succ, List.set_cons_zero, Nat.reduceAdd, Nat.zero_add] at hK ⊢
      simp only [d9] at hK ⊢
      have hsd := HSEED.out W hX
      obtain ⟨A1, c1, e1⟩ := sl_form d14.1
      obtain ⟨A2, c2, e2⟩ := sl_form d18.1
      rw [e1] at d14
      rw [e2] at d18
      simp only [e1, e2] at hK ⊢
      go_simp
      exact hK _ _ ((Ext.refl _).alloc _) (three_parts hsd.1 hsd.2 d14.1 d14.2 d18.1 d18.2)
    | 12, _, ho =>
      obtain rfl := Option.some.inj ho
      intro s W hX hd K hK
      rw [if_pos (wanted_plain rfl)]
      have d19 : ∃ F, (Ty.sl (.sl .u8)).holds W F [(s 11)] [seed, be 4 n, [byteN k, byteN bt]] ∧ ∀ b, F b → b < W.heap.size := hd 11 (by decide) (by decide)
      clear hd
      replace hK : ∀ (v : Value) (W' : World), Ext W W' → (v = .agg R.toArray) → _ := hK
      simp only [mkOf, List.map_cons, List.map_nil, Act.put, List.setIfInBounds_toArray, List.set_cons_succ, List.set_cons_zero, Nat.reduceAdd, Nat.zero_add] at hK ⊢
      obtain ⟨F, h1, h2⟩ := d19
      go_simp
      refine (For_i 1 1 rfl _ _ W F h1 h2 (by simp [blob, be_length, HSL.out])).mono ?_
      rintro e w' ⟨rfl, hx⟩
      exact hK _ _ hx (by rw [HR.out])
    | 13, _, ho =>
      obtain rfl := Option.some.inj ho
      intro s W hX hd K hK
      rw [if_pos (wanted_plain rfl)]
      clear hd
      replace hK : ∀ (v : Value) (W' : World), Ext W W' → (∃ g, v = .pointer (some ⟨g, 0, none⟩) ∧ w.heap.size + 2 ≤ g ∧ Blk W' g 55 D) → _ := hK
      simp only [mkOf, List.map_cons, List.map_nil, Act.put, List.setIfInBounds_toArray, List.set_cons_succ, List.set_cons_zero, Nat.reduceAdd, Nat.zero_add] at hK ⊢
      refine wp_alloc_agg 55 rfl D hzd ?_
      exact hK _ _ ((Ext.refl _).alloc _) ⟨_, rfl, by have := hX.size; simp at this; omega, Blk.new _ _ _⟩
    | i + 14, hi, _ => exact absurd hi (by simp)
  · intro o ho
    obtain rfl := Option.some.inj ho
    intro s W hX hd K hK
    rw [if_pos (wanted_plain rfl)]
    have d8 : (s 0) = .pointer (some ⟨w.heap.size, 0, none⟩) := hd 0 (by decide)
    have d9 : (s 1) = .slice (some ⟨w.heap.size, 0, none⟩) 32 32 := hd 1 (by decide)
    have d10 : OwnB W (s 2) [] ∧ ∃ b, (s 2) = .slice (some b) 0 0 := hd 2 (by decide)
    have d11 : (s 3) = .pointer (some ⟨w.heap.size, 32, none⟩) := hd 3 (by decide)
    have d12 : (s 4) = .int .u32 (n : Int) := hd 4 (by decide)
    have d13 : (Ty.sl (.nat .u32)).holds W (fun b => (s 5).ownBlock = some b) [(s 5)] [n] ∧ ∀ b, (s 5).ownBlock = some b → b < W.heap.size := hd 5 (by decide)
    have d14 : (Ty.sl .u8).holds W (fun b => (s 6).ownBlock = some b) [(s 6)] (be 4 n) ∧ ∀ b, (s 6).ownBlock = some b → b < W.heap.size := hd 6 (by decide)
    have d15 : (s 7) = .int .i64 (k : Int) := hd 7 (by decide)
    have d16 : (s 8) = .int .u8 (k : Int) := hd 8 (by decide)
    have d17 : (s 9) = .int .u8 (bt : Int) := hd 9 (by decide)
    have d18 : (Ty.sl .u8).holds W (fun b => (s 10).ownBlock = some b) [(s 10)] [byteN k, byteN bt] ∧ ∀ b, (s 10).ownBlock = some b → b < W.heap.size := hd 10 (by decide)
    have d19 : ∃ F, (Ty.sl (.sl .u8)).holds W F [(s 11)] [seed, be 4 n, [byteN k, byteN bt]] ∧ ∀ b, F b → b < W.heap.size := hd 11 (by decide)
    have d20 : (s 12) = .agg R.toArray := hd 12 (by decide)
    have d7 : ∃ g, (s 13) = .pointer (some ⟨g, 0, none⟩) ∧ w.heap.size + 2 ≤ g ∧ Blk W g 55 D := hd 13 (by decide)
    clear hd
    simp only [mkOf, List.map_cons, List.map_nil, Act.put, List.setIfInBounds_toArray, List.set_cons_succ, List.set_cons_zero, Nat.reduceAdd, Nat.zero_add]
    obtain ⟨g, hg, hgb, hB⟩ := d7
    refine wp_store_row 55 (.tmp 7) (.tmp 20) rfl g (by simpa [Act.eval] using hg) D R _ (by simpa [Act.eval] using d20) hB (digest_size HRL.out) (by rw [HRL.out, HDL.out]) hro ?_
    refine hK _ _ ?_
    have hcs : Cells (W.setRow g R.toArray) ⟨g, 0, none⟩ C := by rw [← HTK.out]; exact (Blk.cells (t := 55) (setRow_at hB)).take 16
    have hb1 : Blk (W.setRow g R.toArray) (w.heap.size + 1) 33 Z := (HB1.out.keep hX (by simp)).keep (setRow_only _) (by simp; omega)
    have hxw : Ext w (W.setRow g R.toArray) := setRow_grown (HX0.out.trans hX) _ _ (by omega)
    have hat := at_any (P := Try.prog) 33 5 16 (some ⟨g, 0, none⟩) 16 32 Try.underlying33 (Nat.le_refl 16)
    have HB2 := Lib.hid hb1
    have HXW := Lib.hid hxw
    clear hb1 hxw hK hX hB
    generalize W.setRow g R.toArray = V at *
    (try simp only [Exit.then])
    go_wp2_with (first
      | (refine wpList_load_agg _ rfl 33 (.tmp 22) rfl _ rfl C _ Try.underlying33 rfl (piece_size HCL.out) hcs ?_)
      | (refine wpList_store_row _ rfl 33 (.tmp 6) (.tmp 23) rfl (w.heap.size + 1) rfl Z C _ rfl HB2.out (piece_size HCL.out) (by rw [HCL.out, HZL.out]) hco ?_)
      | fail)
    have hc : Cells (V.setRow (w.heap.size + 1) C.toArray) ⟨w.heap.size + 1, 0, none⟩ C := Blk.cells (t := 33) (setRow_at HB2.out)
    (try simp only [Exit.inBlock, Exit.then])
    refine bodyPost_ret (results_agg rfl _ _ _ _ _ rfl Try.underlying33 rfl (piece_size HCL.out) hc) rfl ?_
    exact ⟨rfl, setRow_grown HXW.out _ _ (by omega)⟩
end
section
open Go.RowKit

theorem Blk.fresh {w : World} {G : Nat} (hG : w.heap.size = G) (t : TypeId) (cs : List Value) : Blk (w.alloc (.cells cs.toArray t)) G t cs := by subst hG; exact Blk.new w t cs
/-- A list with a stretch of it replaced. -/
def putAt (old : List Value) (off : Nat) (cs : List Value) : List Value := old.take off ++ cs ++ old.drop (off + cs.length)
theorem putAt_len {old cs : List Value} {off : Nat} (h : off + cs.length ≤ old.length) : (putAt old off cs).length = old.length := by
  simp only [putAt, List.length_append, List.length_take, List.length_drop]; omega
theorem putAt_get {old cs : List Value} {off : Nat} (h : off + cs.length ≤ old.length) (i : Nat) :
    (putAt old off cs)[i]? = if i < off then old[i]? else if i < off + cs.length then cs[i - off]? else old[i]? := by
  have h1 : (old.take off).length = off := by rw [List.length_take]; omega
  unfold putAt
  rw [List.append_assoc]
  by_cases hi : i < off
  · rw [if_pos hi, List.getElem?_append_left (by omega), List.getElem?_take, if_pos hi]
  · rw [if_neg hi, List.getElem?_append_right (by omega), h1]
    by_cases hj : i < off + cs.length
    · rw [if_pos hj, List.getElem?_append_left (by omega)]
    · rw [if_neg hj, List.getElem?_append_right (by omega), List.getElem?_drop]
      congr 1; omega
theorem putAt_one {old cs : List Value} {off : Nat} (h1 : ∀ u ∈ old, u.oneCell' = true) (h2 : ∀ u ∈ cs, u.oneCell' = true) : ∀ u ∈ putAt old off cs, u.oneCell' = true := by
  intro u hu
  rcases List.mem_append.1 hu with hu | hu
  · rcases List.mem_append.1 hu with hu | hu
    · exact h1 u (List.mem_of_mem_take hu)
    · exact h2 u hu
  · exact h1 u (List.mem_of_mem_drop hu)
section
variable {P : Program} (w : World)
theorem run_store_part (g off : Nat) (t : TypeId) (old cs : List Value) (hg : w.heap[g]? = some (.cells old.toArray t (0, 0))) (hl : off + cs.length ≤ old.length) (h1 : ∀ u ∈ cs, u.oneCell' = true) :
    (storeCells ⟨g, off, none⟩ cs).run P w = .ok () (w.setRow g (putAt old off cs).toArray) := by
  have h := run_storeCells_at P g off t cs 0 old.toArray w hg (by simpa using hl) h1
  simpa [putAt] using h
theorem wpList_store_part {ops : Array Oper} {rest : List Oper} {o : Oper} {a : Act} {Q : Exit → Act → World → Prop} (hgd : o.guard = none) (ty : TypeId) (p x : Operand) (ho : o.op = .store ty p x)
    (g off : Nat) (hp : a.eval p = .pointer (some ⟨g, off, none⟩)) (old cs : List Value) (t : TypeId) (hx : a.eval x = .agg cs.toArray) (hg : w.heap[g]? = some (.cells old.toArray t (0, 0)))
    (hi : (P.info? ty).map (·.size) = some cs.length) (hl : off + cs.length ≤ old.length) (h1 : ∀ u ∈ cs, u.oneCell' = true)
    (h : wpList P ops Q rest (a.put o.dst undef) (w.setRow g (putAt old off cs).toArray)) : wpList P ops Q (o :: rest) a w :=
  wpList_plain hgd fun K hK => by
    obtain ⟨i, hi', hs⟩ := Option.map_eq_some_iff.1 hi
    unfold Oper.wp execOp
    simp only [ho, hp, hx, Instr.storeAt, Instr.sureAddr, storeVar, sizeOf, typeInfo, Sem.run_bind, run_program, Result.andThen_ok, hi', Sem.run_pure, hs, Value.cells, List.size_toArray, ne_eq, not_true, if_false,
      run_store_part w g off t old cs hg hl h1]
    exact hK _ _ h
theorem wp_store_part {o : Oper} {a : Act} {K : Act → World → Prop} {Q : Exit → Act → World → Prop} (ty : TypeId) (p x : Operand) (ho : o.op = .store ty p x)
    (g off : Nat) (hp : a.eval p = .pointer (some ⟨g, off, none⟩)) (old cs : List Value) (t : TypeId) (hx : a.eval x = .agg cs.toArray) (hg : w.heap[g]? = some (.cells old.toArray t (0, 0)))
    (hi : (P.info? ty).map (·.size) = some cs.length) (hl : off + cs.length ≤ old.length) (h1 : ∀ u ∈ cs, u.oneCell' = true)
    (h : K (a.put o.dst undef) (w.setRow g (putAt old off cs).toArray)) : o.wp P a w K Q := by
  obtain ⟨i, hi', hs⟩ := Option.map_eq_some_iff.1 hi
  unfold Oper.wp execOp
  simp only [ho, hp, hx, Instr.storeAt, Instr.sureAddr, storeVar, sizeOf, typeInfo, Sem.run_bind, run_program, Result.andThen_ok, hi', Sem.run_pure, hs, Value.cells, List.size_toArray, ne_eq, not_true, if_false,
    run_store_part w g off t old cs hg hl h1]
  exact h
end

theorem addr_at (g n : Nat) : (⟨g, 0, none⟩ : Addr).add n = ⟨g, n, none⟩ := by unfold Addr.add; split <;> simp_all
/-- Of a signature's pieces the first k pairs are there. -/
def mixAt (C Z : List Value) (k : Nat) : List Value := (List.range 1024).map fun i => if i % 512 < k * 16 then C.getD i undef else Z.getD i undef
theorem mixAt_len (C Z : List Value) (k : Nat) : (mixAt C Z k).length = 1024 := by simp [mixAt]
theorem mixAt_get (C Z : List Value) (hC : C.length = 1024) (hZ : Z.length = 1024) (k i : Nat) : (mixAt C Z k)[i]? = if i % 512 < k * 16 then C[i]? else Z[i]? := by
  unfold mixAt
  rw [List.getElem?_map]
  by_cases hi : i < 1024
  · rw [List.getElem?_range hi]
    show some (if i % 512 < k * 16 then C.getD i undef else Z.getD i undef) = _
    by_cases hk : i % 512 < k * 16
    · rw [if_pos hk, if_pos hk, List.getElem?_eq_getElem (by omega), List.getD_eq_getElem?_getD, List.getElem?_eq_getElem (by omega)]; rfl
    · rw [if_neg hk, if_neg hk, List.getElem?_eq_getElem (by omega), List.getD_eq_getElem?_getD, List.getElem?_eq_getElem (by omega)]; rfl
  · rw [List.getElem?_eq_none (by simpa using hi)]
    show none = _
    split
    · rw [List.getElem?_eq_none (by omega)]
    · rw [List.getElem?_eq_none (by omega)]
theorem mixAt_zero (C Z : List Value) (hC : C.length = 1024) (hZ : Z.length = 1024) : mixAt C Z 0 = Z := by
  apply List.ext_getElem?
  intro i
  rw [mixAt_get C Z hC hZ, if_neg (by omega)]
theorem mixAt_all (C Z : List Value) (hC : C.length = 1024) (hZ : Z.length = 1024) : mixAt C Z 32 = C := by
  apply List.ext_getElem?
  intro i
  rw [mixAt_get C Z hC hZ, if_pos (by omega)]
theorem piece_len {C : List Value} (hC : C.length = 1024) {o : Nat} (ho : o ≤ 1008) : ((C.drop o).take 16).length = 16 := by
  rw [List.length_take, List.length_drop]; omega
theorem piece_get {C : List Value} {o i : Nat} (h : i < 16) : ((C.drop o).take 16)[i]? = C[o + i]? := by
  rw [List.getElem?_take, if_pos h, List.getElem?_drop]
set_option maxRecDepth 100000 in
theorem mixAt_step (C Z : List Value) (hC : C.length = 1024) (hZ : Z.length = 1024) (k : Nat) (hk : k < 32) :
    putAt (putAt (mixAt C Z k) (k * 16) ((C.drop (k * 16)).take 16)) (512 + k * 16) ((C.drop (512 + k * 16)).take 16) = mixAt C Z (k + 1) := by
  have l1 := piece_len hC (o := k * 16) (by omega)
  have l2 := piece_len hC (o := 512 + k * 16) (by omega)
  have m := mixAt_len C Z k
  apply List.ext_getElem?
  intro i
  by_cases hi : i < 1024
  case neg => rw [List.getElem?_eq_none (by rw [putAt_len (by rw [putAt_len (by omega)]; omega), putAt_len (by omega)]; omega), List.getElem?_eq_none (by rw [mixAt_len]; omega)]
  rw [putAt_get (by rw [putAt_len (by omega)]; omega), putAt_get (by omega), mixAt_get C Z hC hZ, mixAt_get C Z hC hZ, l1, l2]
  by_cases a : i < k * 16 <;> by_cases b : i < k * 16 + 16 <;> by_cases c : i < 512 + k * 16 <;> by_cases d : i < 512 + k * 16 + 16 <;> by_cases e : i % 512 < k * 16 <;> by_cases f : i % 512 < (k + 1) * 16 <;> first | (exfalso; omega) | (simp only [a, b, c, d, e, f, if_true, if_false]; done) | (simp only [a, b, c, d, e, f, if_true, if_false]; rw [piece_get (by omega)]; congr 1; omega)
set_option maxRecDepth 100000 in
theorem mixAt_comm (C Z : List Value) (hC : C.length = 1024) (k : Nat) (hk : k < 32) :
    putAt (putAt (mixAt C Z k) (512 + k * 16) ((C.drop (512 + k * 16)).take 16)) (k * 16) ((C.drop (k * 16)).take 16) = putAt (putAt (mixAt C Z k) (k * 16) ((C.drop (k * 16)).take 16)) (512 + k * 16) ((C.drop (512 + k * 16)).take 16) := by
  have l1 := piece_len hC (o := k * 16) (by omega)
  have l2 := piece_len hC (o := 512 + k * 16) (by omega)
  have m := mixAt_len C Z k
  apply List.ext_getElem?
  intro i
  rw [putAt_get (by rw [putAt_len (by omega)]; omega), putAt_get (by omega), putAt_get (by rw [putAt_len (by omega)]; omega), putAt_get (by omega), l1, l2]
  by_cases a : i < k * 16 <;> by_cases b : i < k * 16 + 16 <;> by_cases c : i < 512 + k * 16 <;> by_cases d : i < 512 + k * 16 + 16 <;> first | (exfalso; omega) | simp only [a, b, c, d, if_true, if_false]
theorem mixAt_one (C Z : List Value) (h1 : ∀ u ∈ C, u.oneCell' = true) (h2 : ∀ u ∈ Z, u.oneCell' = true) (hC : C.length = 1024) (hZ : Z.length = 1024) (k : Nat) : ∀ u ∈ mixAt C Z k, u.oneCell' = true := by
  intro u hu
  obtain ⟨i, hi⟩ := List.getElem?_of_mem hu
  rw [mixAt_get C Z hC hZ] at hi
  split at hi
  · exact h1 u (List.mem_of_getElem? hi)
  · exact h2 u (List.mem_of_getElem? hi)
end
section
open Go.RowKit

theorem szPieceTo04 {n : Nat} (h : n = 16) : (Try.prog.info? 23).map (·.size) = some n := by subst h; kernel_rfl
theorem szPieceBTo04 {n : Nat} (h : n = 16) : (Try.prog.info? 33).map (·.size) = some n := by subst h; kernel_rfl
theorem szSigTo04 {n : Nat} (h : n = 1024) : (Try.prog.info? 36).map (·.size) = some n := by subst h; kernel_rfl
theorem zSigTo04 : (Try.prog.info? 36).bind (fun i => i.zero.map (·.cells)) = some (List.replicate 1024 (Value.int .u8 0)).toArray := by kernel_rfl
set_option maxRecDepth 100000 in
set_option maxHeartbeats 4000000 in
theorem To04 (C : List Value) (w : World) (hC : C.length = 1024) (hone : ∀ u ∈ C, u.oneCell' = true) :
    Calls Try.prog 36 #[.agg C.toArray] w fun e w' => e = .returned (.agg C.toArray) ∧ Ext w w' := by
  obtain ⟨Z, hz, hzl, hzo⟩ : ∃ Z : List Value, (Try.prog.info? 36).bind (fun i => i.zero.map (·.cells)) = some Z.toArray ∧ Z.length = 1024 ∧ ∀ u ∈ Z, u.oneCell' = true := ⟨_, zSigTo04, List.length_replicate, fun u hu => by rw [List.eq_of_mem_replicate hu]; rfl⟩
  have HCL := Lib.hid hC
  have HZL := Lib.hid hzl
  have HZO := Lib.hid hzo
  have hb1 : Blk (((w.alloc (.cells C.toArray 26)).alloc (.cells Z.toArray 36)).alloc (.cells Z.toArray 36)) w.heap.size 26 C := ((Blk.new _ _ _).keep ((Ext.refl _).alloc _) (by simp)).keep ((Ext.refl _).alloc _) (by simp)
  have hb2 : Blk (((w.alloc (.cells C.toArray 26)).alloc (.cells Z.toArray 36)).alloc (.cells Z.toArray 36)) (w.heap.size + 1) 36 Z := (Blk.fresh (by simp) _ _).keep ((Ext.refl _).alloc _) (by simp)
  have hb3 : Blk (((w.alloc (.cells C.toArray 26)).alloc (.cells Z.toArray 36)).alloc (.cells Z.toArray 36)) (w.heap.size + 2) 36 Z := Blk.fresh (by simp) _ _
  have hx0 : Ext w (((w.alloc (.cells C.toArray 26)).alloc (.cells Z.toArray 36)).alloc (.cells Z.toArray 36)) := (((Ext.refl w).alloc _).alloc _).alloc _
  have HB1 := Lib.hid hb1
  have HB2 := Lib.hid hb2
  have HB3 := Lib.hid hb3
  have HX0 := Lib.hid hx0
  clear hb1 hb2 hb3 hx0 hC hzl hzo
  go_enter Try.func36, Try.ntmps36
  go_wp2_with (first
    | (refine wpList_alloc _ rfl 36 rfl _ hz ?_)
    | fail)
  go_loopw [4, 5] (fun p i wr => ∃ k : Nat, k ≤ 32 ∧ i = .int .i64 k ∧ Ext w wr ∧ Blk wr w.heap.size 26 C ∧ Blk wr (w.heap.size + 1) 36 Z ∧ Blk wr (w.heap.size + 2) 36 (mixAt C Z k) ∧ ∃ q, p = q) (fun _ i _ => 32 - (intOf i).toNat)
  case atStart => exact ⟨0, by omega, rfl, HX0.out, HB1.out, HB2.out, by rw [mixAt_zero C Z HCL.out HZL.out]; exact HB3.out, _, rfl⟩
  case round =>
    clear HX0 HB1 HB2 HB3
    obtain ⟨k, hk, rfl, hx, hb1, hb2, hb3, q, rfl⟩ := hrel
    by_cases hlt : k < 32
    · have HX := Lib.hid hx
      have HB1 := Lib.hid hb1
      have HB2 := Lib.hid hb2
      have HB3 := Lib.hid hb3
      clear hx hb1 hb2 hb3
      go_wp2
      have hx : Ext w wr.drew := HX.out.drew
      have hb1 : Blk wr.drew w.heap.size 26 C := HB1.out
      have hb2 : Blk wr.drew (w.heap.size + 1) 36 Z := HB2.out
      have hb3 : Blk wr.drew (w.heap.size + 2) 36 (mixAt C Z k) := HB3.out
      refine startM (KeepB fun b => b = w.heap.size) (by kernel_rfl) ?_
      (try simp only [Act.put, List.setIfInBounds_toArray, List.set_cons_succ, List.set_cons_zero])
      generalize wr.drew = w0 at *
      have hk1 : Cells w0 ⟨w.heap.size, k * 16, none⟩ ((C.drop (k * 16)).take 16) := by have h := (hb1.cells.drop (k * 16)).take 16; rw [addr_at] at h; exact h
      have hk2 : Cells w0 ⟨w.heap.size, 512 + k * 16, none⟩ ((C.drop (512 + k * 16)).take 16) := by have h := (hb1.cells.drop (512 + k * 16)).take 16; rw [addr_at] at h; exact h
      have hp1 := piece_len HCL.out (o := k * 16) (by omega)
      have hp2 := piece_len HCL.out (o := 512 + k * 16) (by omega)
      have hst := mixAt_step C Z HCL.out HZL.out k hlt
      have ho1 : ∀ u ∈ (C.drop (k * 16)).take 16, u.oneCell' = true := fun u hu => hone u (List.mem_of_mem_drop (List.mem_of_mem_take hu))
      have ho2 : ∀ u ∈ (C.drop (512 + k * 16)).take 16, u.oneCell' = true := fun u hu => hone u (List.mem_of_mem_drop (List.mem_of_mem_take hu))
      generalize (C.drop (k * 16)).take 16 = P1 at *
      generalize (C.drop (512 + k * 16)).take 16 = P2 at *
      have HX := Lib.hid hx
      have HB1 := Lib.hid hb1
      have HB2 := Lib.hid hb2
      have HB3 := Lib.hid hb3
      have HK1 := Lib.hid hk1
      have HK2 := Lib.hid hk2
      have HP1 := Lib.hid hp1
      have HP2 := Lib.hid hp2
      have HST := Lib.hid hst
      have HO1 := Lib.hid ho1
      have HO2 := Lib.hid ho2
      clear hx hb1 hb2 hb3 hk1 hk2 hp1 hp2 hst ho1 ho2
      refine takeK 0 rfl (by kernel_rfl) (by kernel_rfl) (by kernel_rfl) rfl (fun _ _ _ _ h => h) rfl (fun K hK => ?_)
      go_big_quiet_op
      first | refine hK _ ?_ | refine ⟨_, fun _ _ => rfl, hK _ ?_⟩
      clear hK K
      refine takeK 1 rfl (by kernel_rfl) (by kernel_rfl) (by kernel_rfl) rfl (fun _ _ _ _ h => h) rfl (fun K hK => ?_)
      go_big_quiet_op
      first | refine hK _ ?_ | refine ⟨_, fun _ _ => rfl, hK _ ?_⟩
      clear hK K
      refine takeK 2 rfl (by kernel_rfl) (by kernel_rfl) (by kernel_rfl) rfl (fun _ _ _ _ h => h) rfl (fun K hK => ?_)
      go_big_quiet_op
      first | refine hK _ ?_ | refine ⟨_, fun _ _ => rfl, hK _ ?_⟩
      clear hK K
      refine takeK 3 rfl (by kernel_rfl) (by kernel_rfl) (by kernel_rfl) rfl (fun _ _ _ _ h => h) rfl (fun K hK => ?_)
      go_big_quiet_op
      first | refine hK _ ?_ | refine ⟨_, fun _ _ => rfl, hK _ ?_⟩
      clear hK K
      refine takeK 4 rfl (by kernel_rfl) (by kernel_rfl) (by kernel_rfl) rfl (fun _ _ _ _ h => h) rfl (fun K hK => ?_)
      go_big_quiet_op
      first | refine hK _ ?_ | refine ⟨_, fun _ _ => rfl, hK _ ?_⟩
      clear hK K
      refine takeK 5 rfl (by kernel_rfl) (by kernel_rfl) (by kernel_rfl) rfl (fun _ _ _ _ h => h) rfl (fun K hK => ?_)
      refine quiet_agg 23 (.tmp 12) rfl _ rfl P1 _ Try.underlying23 rfl (szPieceTo04 HP1.out) (fun W' h => KeepB.cells h HK1.out rfl) ?_
      refine hK _ ?_
      simp only [Act.put, List.setIfInBounds_toArray, List.set_cons_succ, List.set_cons_zero]
      clear hK K
      refine takeK 6 rfl (by kernel_rfl) (by kernel_rfl) (by kernel_rfl) rfl (fun _ _ _ _ h => h) rfl (fun K hK => ?_)
      go_big_quiet_op
      first | refine hK _ ?_ | refine ⟨_, fun _ _ => rfl, hK _ ?_⟩
      clear hK K
      refine takeK 7 rfl (by kernel_rfl) (by kernel_rfl) (by kernel_rfl) rfl (fun _ _ _ _ h => h) rfl (fun K hK => ?_)
      go_big_quiet_op
      first | refine hK _ ?_ | refine ⟨_, fun _ _ => rfl, hK _ ?_⟩
      clear hK K
      refine takeK 8 rfl (by kernel_rfl) (by kernel_rfl) (by kernel_rfl) rfl (fun _ _ _ _ h => h) rfl (fun K hK => ?_)
      go_big_quiet_op
      first | refine hK _ ?_ | refine ⟨_, fun _ _ => rfl, hK _ ?_⟩
      clear hK K
      refine takeK 9 rfl (by kernel_rfl) (by kernel_rfl) (by kernel_rfl) rfl (fun _ _ _ _ h => h) rfl (fun K hK => ?_)
      refine quiet_agg 23 (.tmp 16) rfl _ rfl P2 _ Try.underlying23 rfl (szPieceTo04 HP2.out) (fun W' h => KeepB.cells h HK2.out rfl) ?_
      refine hK _ ?_
      simp only [Act.put, List.setIfInBounds_toArray, List.set_cons_succ, List.set_cons_zero]
      clear hK K
      refine takeK 10 rfl (by kernel_rfl) (by kernel_rfl) (by kernel_rfl) rfl (fun _ _ _ _ h => h) rfl (fun K hK => ?_)
      go_big_quiet_op
      first | refine hK _ ?_ | refine ⟨_, fun _ _ => rfl, hK _ ?_⟩
      clear hK K
      refine takeK 11 rfl (by kernel_rfl) (by kernel_rfl) (by kernel_rfl) rfl (fun _ _ _ _ h => h) rfl (fun K hK => ?_)
      go_big_quiet_op
      first | refine hK _ ?_ | refine ⟨_, fun _ _ => rfl, hK _ ?_⟩
      clear hK K
      refine takeK 13 rfl (by kernel_rfl) (by kernel_rfl) (by kernel_rfl) rfl (fun _ _ _ _ h => h) rfl (fun K hK => ?_)
      go_big_quiet_op
      first | refine hK _ ?_ | refine ⟨_, fun _ _ => rfl, hK _ ?_⟩
      clear hK K
      refine stepM 12 rfl (by kernel_rfl) rfl (fun K hK => ?_)
      refine wp_store_part w0 33 (.tmp 19) (.tmp 13) rfl (w.heap.size + 2) (k * 16) rfl (mixAt C Z k) P1 _ rfl HB3.out (szPieceBTo04 HP1.out) (by rw [mixAt_len, HP1.out]; omega) HO1.out ?_
      refine hK _ _ (fun b hb => (setRow_only _).block b (by have := HB1.out.lt; rcases hb with rfl; exact this) (by rcases hb with rfl; simp)) ?_
      clear hK K
      (try simp only [Act.put, List.setIfInBounds_toArray, List.set_cons_succ, List.set_cons_zero])
      refine takeK 14 rfl (by kernel_rfl) (by kernel_rfl) (by kernel_rfl) rfl (fun _ _ _ _ h => h) rfl (fun K hK => ?_)
      go_big_quiet_op
      first | refine hK _ ?_ | refine ⟨_, fun _ _ => rfl, hK _ ?_⟩
      clear hK K
      refine stepM 15 rfl (by kernel_rfl) rfl (fun K hK => ?_)
      refine wp_store_part _ 33 (.tmp 21) (.tmp 17) rfl (w.heap.size + 2) (512 + k * 16) rfl (putAt (mixAt C Z k) (k * 16) P1) P2 _ rfl (setRow_at HB3.out) (szPieceBTo04 HP2.out) (by rw [putAt_len (by rw [mixAt_len, HP1.out]; omega), mixAt_len, HP2.out]; omega) HO2.out ?_
      refine hK _ _ (fun b hb => (setRow_only _).block b (by have := HB1.out.lt; rcases hb with rfl; simpa [World.setRow] using this) (by rcases hb with rfl; simp)) ?_
      clear hK K
      (try simp only [Act.put, List.setIfInBounds_toArray, List.set_cons_succ, List.set_cons_zero])
      refine doneM (by kernel_rfl) ?_ _
      have hx9 : Ext w ((w0.setRow (w.heap.size + 2) (putAt (mixAt C Z k) (k * 16) P1).toArray).setRow (w.heap.size + 2) (putAt (putAt (mixAt C Z k) (k * 16) P1) (512 + k * 16) P2).toArray) := grown_then (grown_then HX.out (setRow_only _) (.inr (by rintro b ⟨⟩; omega))) (setRow_only _) (.inr (by rintro b ⟨⟩; omega))
      have hb1 : Blk ((w0.setRow (w.heap.size + 2) (putAt (mixAt C Z k) (k * 16) P1).toArray).setRow (w.heap.size + 2) (putAt (putAt (mixAt C Z k) (k * 16) P1) (512 + k * 16) P2).toArray) w.heap.size 26 C := (HB1.out.keep (setRow_only _) (by simp)).keep (setRow_only _) (by simp)
      have hb2 : Blk ((w0.setRow (w.heap.size + 2) (putAt (mixAt C Z k) (k * 16) P1).toArray).setRow (w.heap.size + 2) (putAt (putAt (mixAt C Z k) (k * 16) P1) (512 + k * 16) P2).toArray) (w.heap.size + 1) 36 Z := (HB2.out.keep (setRow_only _) (by simp)).keep (setRow_only _) (by simp)
      have hb3 : Blk ((w0.setRow (w.heap.size + 2) (putAt (mixAt C Z k) (k * 16) P1).toArray).setRow (w.heap.size + 2) (putAt (putAt (mixAt C Z k) (k * 16) P1) (512 + k * 16) P2).toArray) (w.heap.size + 2) 36 (mixAt C Z (k + 1)) := by rw [← HST.out]; exact setRow_at (setRow_at HB3.out)
      generalize World.setRow _ _ _ = w9 at *
      have HX9 := Lib.hid hx9
      have HB91 := Lib.hid hb1
      have HB92 := Lib.hid hb2
      have HB93 := Lib.hid hb3
      clear hx9 hb1 hb2 hb3
      go_wp2
      go_roundw
      case rel => exact ⟨k + 1, by omega, by go_num, HX9.out, HB91.out, HB92.out, HB93.out, _, rfl⟩
      case measure => simp [intOf]; omega
    · obtain rfl : k = 32 := by omega
      rw [mixAt_all C Z HCL.out HZL.out] at hb3
      have hcm := hb3.cells
      have hr2 : wr.heap[w.heap.size + 1]? = some (.cells Z.toArray 36 (0, 0)) := hb2
      have HX := Lib.hid hx
      clear hx hb1 hb2 hb3
      go_wp2_with (first
        | (refine wpList_load_agg _ rfl 36 (.tmp 3) rfl _ rfl C _ Try.underlying36 rfl (szSigTo04 HCL.out) hcm ?_)
        | (refine wpList_store_row _ rfl 36 (.tmp 2) (.tmp 23) rfl (w.heap.size + 1) rfl Z C _ rfl hr2 (szSigTo04 HCL.out) (by rw [HCL.out, HZL.out]) hone ?_)
        | fail)
      have hc9 := Blk.cells (t := 36) (setRow_at (cs' := C.toArray) hr2)
      (try simp only [Exit.inBlock, Exit.then])
      refine bodyPost_ret (results_agg rfl _ _ _ _ _ rfl Try.underlying36 rfl (szSigTo04 HCL.out) hc9) rfl ?_
      exact ⟨rfl, grown_then HX.out (setRow_only _) (.inr (by rintro b ⟨⟩; omega))⟩
end
end Go.Proofs.Ytpdkmapogncgmaa

/- A drawn region walked so: what yields one value in every later world is taken first; over the rest one branches. 'Later' is a relation that each step keeps. No condition but what each names. -/
import Derived.Test.YtchnjcghbbacoaaDoorQuiet
import Derived.OrdersHeld
import Derived.Deep.RegionHeld
set_option linter.unusedVariables false
set_option linter.unusedSimpArgs false
set_option linter.unnecessarySimpa false
namespace Go.Proofs.YtchnjcghbbacoaaDoor
open Go.RowKit

section
variable {P : Program} {md : Region.Mode} {ops : Array Oper} {Q : Exit → Act → World → Prop} {R : World → World → Prop}
/-- Whatever order is picked from here on; each step leads to a later world. -/
def wpAnyM (P : Program) (md : Region.Mode) (ops : Array Oper) (Q : Exit → Act → World → Prop) (R : World → World → Prop) : Nat → Array Bool → Act → World → Prop
  | 0, listed, a, w => Region.ready md ops listed = [] ∧ Q .normal a w
  | fuel + 1, listed, a, w =>
    (Region.ready md ops listed = [] → Q .normal a w) ∧
    ∀ i ∈ Region.ready md ops listed, wpOp P ops Q i (fun a' w' => R w w' ∧ wpAnyM P md ops Q R fuel (listed.setIfInBounds i true) a' w') a w
theorem wpAny_of_mono : ∀ (fuel : Nat) (listed : Array Bool) (a : Act) (w : World), wpAnyM P md ops Q R fuel listed a w → wpAny P md ops Q fuel listed a w
  | 0, _, _, _, h => h
  | fuel + 1, _, _, _, h => ⟨h.1, fun i hi => wpOp_mono (fun a' w' h' => wpAny_of_mono fuel _ a' w' h'.2) (h.2 i hi)⟩
theorem readyM_mono {listed : Array Bool} {i j : Nat} (hj : j ∈ Region.ready md ops listed) (hji : j ≠ i) : j ∈ Region.ready md ops (listed.setIfInBounds i true) := ready_mono hj hji
/-- The later worlds. -/
theorem wpAnyM_first (hrf : ∀ a, R a a) (htr : ∀ a b c, R a b → R b c → R a c) {i : Nat} {oi : Oper} {v : Value} (hi : ops[i]? = some oi) (hsel : ∀ (j : Nat) (o : Oper) cs b, ops[j]? = some o → o.op ≠ .select cs b)
    (hQ : ∀ c a w, Q (.panic c) (a.put oi.dst v) w → Q (.panic c) a w) (S : World → Prop) (hS' : ∀ a b, S a → R a b → S b) :
    ∀ (fuel : Nat) (listed : Array Bool) (a : Act) (w : World),
      (∀ j oj, ops[j]? = some oj → j ≠ i → listed.getD j true = false → (∀ e ∈ oj.after, Region.binds md e = true → e.on ≠ i) → oi.apart ops oj = true) →
      i ∈ Region.ready md ops listed → YieldsIf P ops S oi v a → S w →
      wpAnyM P md ops Q R fuel (listed.setIfInBounds i true) (a.put oi.dst v) w → wpAnyM P md ops Q R (fuel + 1) listed a w := by
  intro fuel
  induction fuel with
  | zero =>
    intro listed a w _ hr hy hS H
    refine ⟨fun h => (by rw [h] at hr; cases hr), fun j hj => ?_⟩
    by_cases hji : j = i
    · subst hji; exact hy.wpOp hi hS ⟨hrf _, H⟩
    · have := readyM_mono hj hji
      rw [H.1] at this
      cases this
  | succ fuel ih =>
    intro listed a w hfree hr hy hS H
    refine ⟨fun h => (by rw [h] at hr; cases hr), fun j hj => ?_⟩
    by_cases hji : j = i
    · subst hji; exact hy.wpOp hi hS ⟨hrf _, H⟩
    · have h1 := H.2 j (readyM_mono hj hji)
      obtain ⟨hjun, oj, hoj, hall⟩ := Go.mem_ready.1 hj
      have hnot : ∀ e ∈ oj.after, Region.binds md e = true → e.on ≠ i := fun e he hb heq => by
        have h1 := hall e he hb
        have h0 := (Go.mem_ready.1 hr).1
        rw [heq] at h1
        rcases Nat.lt_or_ge i listed.size with h' | h'
        · simp [h'] at h0 h1; rw [h0] at h1; cases h1
        · simp [Array.getElem?_eq_none h'] at h1
      have h2 := wpOp_putIf hoj (hfree j oj hoj hji hjun hnot) (fun cs b => hsel i oi cs b hi) (fun cs b => hsel j oj cs b hoj) hQ hy h1
      have hfree' : ∀ k ok, ops[k]? = some ok → k ≠ i → (listed.setIfInBounds j true).getD k true = false →
          (∀ e ∈ ok.after, Region.binds md e = true → e.on ≠ i) → oi.apart ops ok = true := fun k ok hk hki hun hno => by
        refine hfree k ok hk hki ?_ hno
        by_cases hjk : j = k
        · subst hjk; exact hjun
        · rw [getD_set_ne true hjk] at hun; exact hun
      refine wpOp_mono (fun a' w' h3 => ⟨h3.2.1, ih (listed.setIfInBounds j true) a' w' hfree' (readyM_mono hr (Ne.symm hji)) h3.1 (hS' _ _ hS h3.2.1) ?_⟩) h2
      rw [Array.setIfInBounds_comm _ _ hji]
      exact h3.2.2
/-- Number i is taken first: it may come up, and yields one value in every later world. -/
theorem takeM (hrf : ∀ a, R a a) (htr : ∀ a b c, R a b → R b c → R a c) (i : Nat) {oi : Oper} {fuel : Nat} {listed : Array Bool} {a : Act} {w : World} (hi : ops[i]? = some oi)
    (hs : Region.noSelect ops = true) (hf : Region.free md ops listed i = true) (hr : (Region.ready md ops listed).contains i = true)
    (hQ : ∀ v c a w, Q (.panic c) (a.put oi.dst v) w → Q (.panic c) a w) (hw : Region.wanted oi (yielded ops a.tmps) = true)
    (h : ∀ K : Act → Prop, (∀ a', wpAnyM P md ops Q R fuel (listed.setIfInBounds i true) a' w → K a') → ∃ v, (∀ w', R w w' → (execOp a.eval oi).run P w' = .ok (.value v) w') ∧ K (a.put oi.dst v)) : wpAnyM P md ops Q R (fuel + 1) listed a w := by
  obtain ⟨v, h1, h2⟩ := h _ (fun _ h => h)
  exact wpAnyM_first hrf htr hi (Region.noSelect_spec hs) (hQ v) (R w) (fun b c h1 h2 => htr _ _ _ h1 h2) fuel listed a w (Region.free_spec hi hf) (by simpa using hr) (.inl ⟨hw, h1⟩) (hrf w) h2
/-- .. it is passed over: its guard says no. -/
theorem skipM (hrf : ∀ a, R a a) (htr : ∀ a b c, R a b → R b c → R a c) (i : Nat) {oi : Oper} {fuel : Nat} {listed : Array Bool} {a : Act} {w : World} (hi : ops[i]? = some oi)
    (hs : Region.noSelect ops = true) (hf : Region.free md ops listed i = true) (hr : (Region.ready md ops listed).contains i = true)
    (hQ : ∀ v c a w, Q (.panic c) (a.put oi.dst v) w → Q (.panic c) a w) (hw : Region.wanted oi (yielded ops a.tmps) = false)
    (h : wpAnyM P md ops Q R fuel (listed.setIfInBounds i true) (a.put oi.dst undef) w) : wpAnyM P md ops Q R (fuel + 1) listed a w :=
  wpAnyM_first hrf htr hi (Region.noSelect_spec hs) (hQ _) (R w) (fun b c h1 h2 => htr _ _ _ h1 h2) fuel listed a w (Region.free_spec hi hf) (by simpa using hr) (.inr ⟨hw, rfl⟩) (hrf w) h
/-- One comes up alone. -/
theorem op_at {i : Nat} {oi : Oper} (h : (ops.toList.drop i).head? = some oi) : ops[i]? = some oi := by
  rw [List.head?_drop] at h
  simpa using h
theorem stepM (i : Nat) {oi : Oper} {fuel : Nat} {listed : Array Bool} {a : Act} {w : World} (hi : (ops.toList.drop i).head? = some oi) (hr : Region.ready md ops listed = [i]) (hw : Region.wanted oi (yielded ops a.tmps) = true)
    (h : ∀ K : Act → World → Prop, (∀ a' w', R w w' → wpAnyM P md ops Q R fuel (listed.setIfInBounds i true) a' w' → K a' w') → oi.wp P a w K Q) : wpAnyM P md ops Q R (fuel + 1) listed a w := by
  refine ⟨fun h0 => (by rw [hr] at h0; cases h0), fun j hj => ?_⟩
  rw [hr] at hj
  obtain rfl : j = i := by simpa using hj
  refine wpOp_step (op_at hi) (fun K' hK => ?_)
  rw [if_pos hw]
  exact h K' (fun a' w' h1 h2 => hK _ _ ⟨h1, h2⟩)
theorem doneM {listed : Array Bool} {a : Act} {w : World} (hr : Region.ready md ops listed = []) (h : Q .normal a w) : ∀ fuel, wpAnyM P md ops Q R fuel listed a w
  | 0 => ⟨hr, h⟩
  | _ + 1 => ⟨fun _ => h, by rw [hr]; simp⟩
theorem startM {id : Nat} {a : Act} {w : World} (R : World → World → Prop) (hm : P.follows .mixedOrders = true)
    (h : wpAnyM P .any ops Q R ops.size (Array.replicate ops.size false) a w.drew) : (Code.region id ops true).wp P Q a w :=
  wp_region_any hm (wpAny_of_mono _ _ _ _ h)
end
/-! ### Operations that yield a value, and are no call -/
def valB : Op → Bool
  | .move _ | .assign _ | .pick .. | .load .. | .binOp .. | .unOp .. | .convert .. | .slice .. | .fieldAddr .. | .field .. | .indexAddr .. | .index .. | .extract .. | .build .. | .alloc .. | .buildSlice .. => true
  | .call c => match c.callee with
    | .builtin b => match b with
      | .len | .cap | .append => true
      | _ => false
    | _ => false
  | _ => false
theorem val_ok {P : Program} {s : Sem Value} {w w' : World} {n : Next} (h : (do pure (Next.value (← s)) : Sem Next).run P w = .ok n w') : ∃ u, n = .value u := by
  rw [Sem.run_bind] at h
  cases hs : s.run P w with
  | ok u w1 => rw [hs] at h; simp at h; exact ⟨u, h.1.symm⟩
  | halt x w1 => rw [hs] at h; simp [Result.andThen] at h
theorem val_ok2 {P : Program} {α : Type} {s : Sem α} {f : α → Value} {w w' : World} {n : Next} (h : (s >>= fun u => (pure (Next.value (f u)) : Sem Next)).run P w = .ok n w') : ∃ u, n = .value u := by
  rw [Sem.run_bind] at h
  cases hs : s.run P w with
  | ok u w1 => rw [hs] at h; simp at h; exact ⟨_, h.1.symm⟩
  | halt x w1 => rw [hs] at h; simp [Result.andThen] at h
theorem valB_ok {P : Program} {o : Oper} (ho : valB o.op = true) {ρ : Operand → Value} {w w' : World} {n : Next} (h : (execOp ρ o).run P w = .ok n w') : ∃ u, n = .value u := by
  unfold execOp at h
  cases hop : o.op <;> simp only [hop, valB, Bool.false_eq_true] at h ho
  case move x => simp at h; exact ⟨_, h.1.symm⟩
  case assign x => simp at h; exact ⟨_, h.1.symm⟩
  case call c =>
    cases hc : c.callee with
    | value f => rw [hc] at ho; simp at ho
    | invoke r nm => rw [hc] at ho; simp at ho
    | builtin b =>
      rw [hc] at ho
      simp only [resolve, hc, invoke, Sem.run_bind, Sem.run_pure, Result.andThen_ok] at h
      cases b <;> simp only [Bool.false_eq_true] at ho
      all_goals (unfold builtin at h; exact val_ok h)
  case pick c x y => exact val_ok2 (f := fun b => if b = true then ρ x else ρ y) h
  all_goals exact val_ok h
theorem quiet_val {P : Program} {o : Oper} {a : Act} {C : World → Prop} {K : Act → Prop} (ho : valB o.op = true) (h : o.quiet P a C K) : ∃ v, (∀ w', C w' → (execOp a.eval o).run P w' = .ok (.value v) w') ∧ K (a.put o.dst v) := by
  obtain ⟨v, h1, h2⟩ := h
  refine ⟨v, fun w' hw => ?_, h2⟩
  have h3 := h1 w' hw
  unfold Oper.quietAt at h3
  cases hr : (execOp a.eval o).run P w' with
  | ok n w2 =>
    obtain ⟨u, rfl⟩ := valB_ok ho hr
    rw [hr] at h3
    simp only [Oper.quietUpon] at h3
    rw [h3.1, h3.2]
  | halt x w2 => rw [hr] at h3; simp [Oper.quietUpon] at h3
/-! ### At 'nothing that was there has changed' -/
section
variable {P : Program} {md : Region.Mode} {ops : Array Oper} {Q : Exit → Act → World → Prop}
theorem takeE (i : Nat) {oi : Oper} {fuel : Nat} {listed : Array Bool} {a : Act} {w : World} (hi : (ops.toList.drop i).head? = some oi)
    (hs : Region.noSelect ops = true) (hf : Region.free md ops listed i = true) (hr : (Region.ready md ops listed).contains i = true) (hc : valB oi.op = true)
    (hQ : ∀ v c a w, Q (.panic c) (a.put oi.dst v) w → Q (.panic c) a w) (hw : Region.wanted oi (yielded ops a.tmps) = true)
    (h : ∀ K : Act → Prop, (∀ a', wpAnyM P md ops Q Since fuel (listed.setIfInBounds i true) a' w → K a') → oi.quiet P a (Since w) K) : wpAnyM P md ops Q Since (fuel + 1) listed a w :=
  takeM (fun a => Ext.refl a) (fun a b c h1 h2 => Ext.trans h1 h2) i (op_at hi) hs hf hr hQ hw fun K hK => quiet_val hc (h K hK)
theorem skipE (i : Nat) {oi : Oper} {fuel : Nat} {listed : Array Bool} {a : Act} {w : World} (hi : (ops.toList.drop i).head? = some oi)
    (hs : Region.noSelect ops = true) (hf : Region.free md ops listed i = true) (hr : (Region.ready md ops listed).contains i = true)
    (hQ : ∀ v c a w, Q (.panic c) (a.put oi.dst v) w → Q (.panic c) a w) (hw : Region.wanted oi (yielded ops a.tmps) = false)
    (h : wpAnyM P md ops Q Since fuel (listed.setIfInBounds i true) (a.put oi.dst undef) w) : wpAnyM P md ops Q Since (fuel + 1) listed a w :=
  skipM (fun a => Ext.refl a) (fun a b c h1 h2 => Ext.trans h1 h2) i (op_at hi) hs hf hr hQ hw h
end
/-! ### At worlds in which some blocks are as they were -/
def KeepB (B : Nat → Prop) (w w' : World) : Prop := ∀ b, B b → w'.heap[b]? = w.heap[b]?
theorem KeepB.cells {B : Nat → Prop} {w w' : World} (h : KeepB B w w') {ad : Addr} {cs : List Value} (hc : Cells w ad cs) (hb : B ad.block) : Cells w' ad cs := hc.keep (h _ hb)
theorem KeepB.cell {B : Nat → Prop} {w w' : World} (h : KeepB B w w') {ad : Addr} {v : Value} (hc : w.cell? ad = some v) (hb : B ad.block) : w'.cell? ad = some v := (World.cell?_of_block (h _ hb)).trans hc
section
variable {P : Program} {md : Region.Mode} {ops : Array Oper} {Q : Exit → Act → World → Prop} {B : Nat → Prop}
theorem takeK (i : Nat) {oi : Oper} {fuel : Nat} {listed : Array Bool} {a : Act} {w : World} (hi : (ops.toList.drop i).head? = some oi)
    (hs : Region.noSelect ops = true) (hf : Region.free md ops listed i = true) (hr : (Region.ready md ops listed).contains i = true) (hc : valB oi.op = true)
    (hQ : ∀ v c a w, Q (.panic c) (a.put oi.dst v) w → Q (.panic c) a w) (hw : Region.wanted oi (yielded ops a.tmps) = true)
    (h : ∀ K : Act → Prop, (∀ a', wpAnyM P md ops Q (KeepB B) fuel (listed.setIfInBounds i true) a' w → K a') → oi.quiet P a (KeepB B w) K) : wpAnyM P md ops Q (KeepB B) (fuel + 1) listed a w :=
  takeM (fun _ _ _ => rfl) (fun _ _ _ h1 h2 b hb => (h2 b hb).trans (h1 b hb)) i (op_at hi) hs hf hr hQ hw fun K hK => quiet_val hc (h K hK)
theorem skipK (i : Nat) {oi : Oper} {fuel : Nat} {listed : Array Bool} {a : Act} {w : World} (hi : (ops.toList.drop i).head? = some oi)
    (hs : Region.noSelect ops = true) (hf : Region.free md ops listed i = true) (hr : (Region.ready md ops listed).contains i = true)
    (hQ : ∀ v c a w, Q (.panic c) (a.put oi.dst v) w → Q (.panic c) a w) (hw : Region.wanted oi (yielded ops a.tmps) = false)
    (h : wpAnyM P md ops Q (KeepB B) fuel (listed.setIfInBounds i true) (a.put oi.dst undef) w) : wpAnyM P md ops Q (KeepB B) (fuel + 1) listed a w :=
  skipM (fun _ _ _ => rfl) (fun _ _ _ h1 h2 b hb => (h2 b hb).trans (h1 b hb)) i (op_at hi) hs hf hr hQ hw h
theorem wp_store_row {P : Program} {w : World} {o : Oper} {a : Act} {K : Act → World → Prop} {Q : Exit → Act → World → Prop} (ty : TypeId) (p x : Operand) (ho : o.op = .store ty p x)
    (g : Nat) (hp : a.eval p = .pointer (some ⟨g, 0, none⟩)) (old cs : List Value) (t : TypeId) (hx : a.eval x = .agg cs.toArray) (hg : w.heap[g]? = some (.cells old.toArray t (0, 0)))
    (hi : (P.info? ty).map (·.size) = some cs.length) (hl : cs.length = old.length) (h1 : ∀ u ∈ cs, u.oneCell' = true)
    (h : K (a.put o.dst undef) (w.setRow g cs.toArray)) : o.wp P a w K Q := by
  obtain ⟨i, hi', hs⟩ := Option.map_eq_some_iff.1 hi
  unfold Oper.wp execOp
  simp only [ho, hp, hx, Instr.storeAt, Instr.sureAddr, storeVar, sizeOf, typeInfo, Sem.run_bind, run_program, Result.andThen_ok, hi', Sem.run_pure, hs, Value.cells, List.size_toArray, ne_eq, not_true, if_false,
    run_store_row w g t old cs hg hl h1]
  exact h
end
/-! ### At any worlds -/
def Any (_ _ : World) : Prop := True
section
variable {P : Program} {md : Region.Mode} {ops : Array Oper} {Q : Exit → Act → World → Prop}
theorem takeA (i : Nat) {oi : Oper} {fuel : Nat} {listed : Array Bool} {a : Act} {w : World} (hi : (ops.toList.drop i).head? = some oi)
    (hs : Region.noSelect ops = true) (hf : Region.free md ops listed i = true) (hr : (Region.ready md ops listed).contains i = true) (hc : valB oi.op = true)
    (hQ : ∀ v c a w, Q (.panic c) (a.put oi.dst v) w → Q (.panic c) a w) (hw : Region.wanted oi (yielded ops a.tmps) = true)
    (h : ∀ K : Act → Prop, (∀ a', wpAnyM P md ops Q Any fuel (listed.setIfInBounds i true) a' w → K a') → oi.quiet P a (Any w) K) : wpAnyM P md ops Q Any (fuel + 1) listed a w :=
  takeM (fun _ => trivial) (fun _ _ _ _ _ => trivial) i (op_at hi) hs hf hr hQ hw fun K hK => quiet_val hc (h K hK)
theorem skipA (i : Nat) {oi : Oper} {fuel : Nat} {listed : Array Bool} {a : Act} {w : World} (hi : (ops.toList.drop i).head? = some oi)
    (hs : Region.noSelect ops = true) (hf : Region.free md ops listed i = true) (hr : (Region.ready md ops listed).contains i = true)
    (hQ : ∀ v c a w, Q (.panic c) (a.put oi.dst v) w → Q (.panic c) a w) (hw : Region.wanted oi (yielded ops a.tmps) = false)
    (h : wpAnyM P md ops Q Any fuel (listed.setIfInBounds i true) (a.put oi.dst undef) w) : wpAnyM P md ops Q Any (fuel + 1) listed a w :=
  skipM (fun _ => trivial) (fun _ _ _ _ _ => trivial) i (op_at hi) hs hf hr hQ hw h
end
end Go.Proofs.YtchnjcghbbacoaaDoor

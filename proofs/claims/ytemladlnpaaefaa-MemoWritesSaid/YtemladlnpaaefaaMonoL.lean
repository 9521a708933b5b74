/- A drawn region whose one operation 'late' may change what was there: what is taken ahead of it is bound to come ahead of it. No condition but what each names. -/
import Derived.Test.YtemladlnpaaefaaMono
set_option linter.unusedVariables false
set_option linter.unusedSimpArgs false
set_option linter.unnecessarySimpa false
namespace Go.Proofs.Ytemladlnpaaefaa
open Go.RowKit

section
variable {P : Program} {md : Region.Mode} {ops : Array Oper} {Q : Exit → Act → World → Prop} {R : World → World → Prop} {late : Nat}
/-- Whatever order is picked from here on; each step but one leads to a later world. -/
def wpAnyL (P : Program) (md : Region.Mode) (ops : Array Oper) (Q : Exit → Act → World → Prop) (late : Nat) (R : World → World → Prop) : Nat → Array Bool → Act → World → Prop
  | 0, listed, a, w => Region.ready md ops listed = [] ∧ Q .normal a w
  | fuel + 1, listed, a, w =>
    (Region.ready md ops listed = [] → Q .normal a w) ∧
    ∀ i ∈ Region.ready md ops listed, wpOp P ops Q i (fun a' w' => (i ≠ late → R w w') ∧ wpAnyL P md ops Q late R fuel (listed.setIfInBounds i true) a' w') a w
theorem wpAny_of_late : ∀ (fuel : Nat) (listed : Array Bool) (a : Act) (w : World), wpAnyL P md ops Q late R fuel listed a w → wpAny P md ops Q fuel listed a w
  | 0, _, _, _, h => h
  | fuel + 1, _, _, _, h => ⟨h.1, fun i hi => wpOp_mono (fun a' w' h' => wpAny_of_late fuel _ a' w' h'.2) (h.2 i hi)⟩
/-- A chain of operations, each of which waits for the one before it; none has come. -/
def chainB (md : Region.Mode) (ops : Array Oper) (listed : Array Bool) : Nat → List Nat → Bool
  | _, [] => true
  | i, k :: l => (listed.getD k true == false) && (match ops[k]? with | some o => o.after.any (fun e => Region.binds md e && e.on == i) | none => false) && chainB md ops listed k l
theorem chain_ready {listed : Array Bool} : ∀ {path : List Nat} {i : Nat}, chainB md ops listed i path = true → listed.getD i true = false → ∀ k ∈ path, k ∉ Region.ready md ops listed
  | [], _, _, _, k, hk => by cases hk
  | p :: l, i, h, hi, k, hk => by
    simp only [chainB, Bool.and_eq_true, beq_iff_eq] at h
    obtain ⟨⟨h1, h2⟩, h3⟩ := h
    rcases List.mem_cons.1 hk with rfl | hk
    · intro hr
      obtain ⟨_, ok, hok, hall⟩ := Go.mem_ready.1 hr
      rw [hok] at h2
      obtain ⟨e, he, hb⟩ := Array.any_eq_true'.1 h2
      simp only [Bool.and_eq_true, beq_iff_eq] at hb
      have h4 := hall e he hb.1
      rw [hb.2] at h4
      rcases Nat.lt_or_ge i listed.size with h' | h'
      · simp [h'] at hi h4; rw [hi] at h4; cases h4
      · simp [Array.getElem?_eq_none h'] at h4
    · exact chain_ready h3 h1 k hk
theorem chain_step {listed : Array Bool} {j : Nat} : ∀ {path : List Nat} {i : Nat}, chainB md ops listed i path = true → (∀ k ∈ path, k ≠ j) → chainB md ops (listed.setIfInBounds j true) i path = true
  | [], _, _, _ => rfl
  | p :: l, i, h, hj => by
    simp only [chainB, Bool.and_eq_true, beq_iff_eq] at h ⊢
    obtain ⟨⟨h1, h2⟩, h3⟩ := h
    refine ⟨⟨?_, h2⟩, chain_step h3 fun k hk => hj k (List.mem_cons_of_mem _ hk)⟩
    have hne : j ≠ p := fun e => hj p (List.mem_cons_self ..) e.symm
    simpa [Array.getElem?_setIfInBounds_ne hne] using h1
theorem wpAnyL_first (hrf : ∀ a, R a a) {i : Nat} {oi : Oper} {v : Value} (hi : ops[i]? = some oi) (hsel : ∀ (j : Nat) (o : Oper) cs b, ops[j]? = some o → o.op ≠ .select cs b)
    (hQ : ∀ c a w, Q (.panic c) (a.put oi.dst v) w → Q (.panic c) a w) (S : World → Prop) (hS' : ∀ a b, S a → R a b → S b) (path : List Nat) (hlp : late ∈ path ∨ ∀ b, S b) :
    ∀ (fuel : Nat) (listed : Array Bool) (a : Act) (w : World),
      (∀ j oj, ops[j]? = some oj → j ≠ i → listed.getD j true = false → (∀ e ∈ oj.after, Region.binds md e = true → e.on ≠ i) → oi.apart ops oj = true) →
      chainB md ops listed i path = true →
      i ∈ Region.ready md ops listed → YieldsIf P ops S oi v a → S w →
      wpAnyL P md ops Q late R fuel (listed.setIfInBounds i true) (a.put oi.dst v) w → wpAnyL P md ops Q late R (fuel + 1) listed a w := by
  intro fuel
  induction fuel with
  | zero =>
    intro listed a w _ _ hr hy hS H
    refine ⟨fun h => (by rw [h] at hr; cases hr), fun j hj => ?_⟩
    by_cases hji : j = i
    · subst hji; exact hy.wpOp hi hS ⟨fun _ => hrf _, H⟩
    · have := readyM_mono hj hji
      rw [H.1] at this
      cases this
  | succ fuel ih =>
    intro listed a w hfree hch hr hy hS H
    refine ⟨fun h => (by rw [h] at hr; cases hr), fun j hj => ?_⟩
    by_cases hji : j = i
    · subst hji; exact hy.wpOp hi hS ⟨fun _ => hrf _, H⟩
    · have h1 := H.2 j (readyM_mono hj hji)
      obtain ⟨hjun, oj, hoj, hall⟩ := Go.mem_ready.1 hj
      have hiun := (Go.mem_ready.1 hr).1
      have hnp : ∀ k ∈ path, k ≠ j := fun k hk e => chain_ready hch hiun k hk (e ▸ hj)
      have hnot : ∀ e ∈ oj.after, Region.binds md e = true → e.on ≠ i := fun e he hb heq => by
        have h1 := hall e he hb
        have h0 := hiun
        rw [heq] at h1
        rcases Nat.lt_or_ge i listed.size with h' | h'
        · simp [h'] at h0 h1; rw [h0] at h1; cases h1
        · simp [Array.getElem?_eq_none h'] at h1
      have h2 := wpOp_putIf hoj (hfree j oj hoj hji hjun hnot) (fun cs b => hsel i oi cs b hi) (fun cs b => hsel j oj cs b hoj) hQ hy h1
      have hfree' : ∀ k ok, ops[k]? = some ok → k ≠ i → (listed.setIfInBounds j true).getD k true = false →
          (∀ e ∈ ok.after, Region.binds md e = true → e.on ≠ i) → oi.apart ops ok = true := fun k ok hk hki hun hno => by
        refine hfree k ok hk hki ?_ hno
        by_cases hjk : j = k
        · subst hjk; exact hjun
        · rw [getD_set_ne true hjk] at hun; exact hun
      refine wpOp_mono (fun a' w' h3 => ⟨h3.2.1, ih (listed.setIfInBounds j true) a' w' hfree' (chain_step hch hnp) (readyM_mono hr (Ne.symm hji)) h3.1 ?_ ?_⟩) h2
      · rcases hlp with hl | hl
        · exact hS' _ _ hS (h3.2.1 fun e => hnp _ hl e.symm)
        · exact hl _
      · rw [Array.setIfInBounds_comm _ _ hji]
        exact h3.2.2
/-- Number i is taken first; it is bound to come ahead of 'late'. -/
theorem takeL (hrf : ∀ a, R a a) (htr : ∀ a b c, R a b → R b c → R a c) (i : Nat) (path : List Nat) {oi : Oper} {fuel : Nat} {listed : Array Bool} {a : Act} {w : World} (hi : (ops.toList.drop i).head? = some oi)
    (hs : Region.noSelect ops = true) (hf : Region.free md ops listed i = true) (hr : (Region.ready md ops listed).contains i = true) (hch : (chainB md ops listed i path && path.contains late) = true) (hc : valB oi.op = true)
    (hQ : ∀ v c a w, Q (.panic c) (a.put oi.dst v) w → Q (.panic c) a w) (hw : Region.wanted oi (yielded ops a.tmps) = true)
    (h : ∀ K : Act → Prop, (∀ a', wpAnyL P md ops Q late R fuel (listed.setIfInBounds i true) a' w → K a') → oi.quiet P a (R w) K) : wpAnyL P md ops Q late R (fuel + 1) listed a w := by
  rw [Bool.and_eq_true] at hch
  obtain ⟨v, h1, h2⟩ := quiet_val hc (h _ (fun _ h => h))
  exact wpAnyL_first hrf (op_at hi) (Region.noSelect_spec hs) (hQ v) (R w) (fun b c h1 h2 => htr _ _ _ h1 h2) path (.inl (by simpa using hch.2)) fuel listed a w (Region.free_spec (op_at hi) hf) hch.1 (by simpa using hr) (.inl ⟨hw, h1⟩) (hrf w) h2
/-- .. it asks no world. -/
theorem takeN (hrf : ∀ a, R a a) (i : Nat) {oi : Oper} {fuel : Nat} {listed : Array Bool} {a : Act} {w : World} (hi : (ops.toList.drop i).head? = some oi)
    (hs : Region.noSelect ops = true) (hf : Region.free md ops listed i = true) (hr : (Region.ready md ops listed).contains i = true) (hc : valB oi.op = true)
    (hQ : ∀ v c a w, Q (.panic c) (a.put oi.dst v) w → Q (.panic c) a w) (hw : Region.wanted oi (yielded ops a.tmps) = true)
    (h : ∀ K : Act → Prop, (∀ a', wpAnyL P md ops Q late R fuel (listed.setIfInBounds i true) a' w → K a') → oi.quiet P a (Any w) K) : wpAnyL P md ops Q late R (fuel + 1) listed a w := by
  obtain ⟨v, h1, h2⟩ := quiet_val hc (h _ (fun _ h => h))
  exact wpAnyL_first hrf (op_at hi) (Region.noSelect_spec hs) (hQ v) (Any w) (fun _ _ _ _ => trivial) [] (.inr fun _ => trivial) fuel listed a w (Region.free_spec (op_at hi) hf) rfl (by simpa using hr) (.inl ⟨hw, h1⟩) trivial h2
/-- A nil check of an address. -/
theorem nilL (hrf : ∀ a, R a a) (i : Nat) {oi : Oper} {fuel : Nat} {listed : Array Bool} {a : Act} {w : World} (hi : (ops.toList.drop i).head? = some oi)
    (hs : Region.noSelect ops = true) (hf : Region.free md ops listed i = true) (hr : (Region.ready md ops listed).contains i = true) (x : Operand) (ho : oi.op = .nilCheck x) (ad : Addr) (hx : a.eval x = .pointer (some ad))
    (hQ : ∀ v c a w, Q (.panic c) (a.put oi.dst v) w → Q (.panic c) a w) (hw : Region.wanted oi (yielded ops a.tmps) = true)
    (h : wpAnyL P md ops Q late R fuel (listed.setIfInBounds i true) (a.put oi.dst (.pointer (some ad))) w) : wpAnyL P md ops Q late R (fuel + 1) listed a w := by
  have h1 : ∀ w', Any w w' → (execOp a.eval oi).run P w' = .ok (.value (.pointer (some ad))) w' := fun w' _ => by
    unfold execOp
    simp only [ho, hx]
    rfl
  exact wpAnyL_first hrf (op_at hi) (Region.noSelect_spec hs) (hQ _) (Any w) (fun _ _ _ _ => trivial) [] (.inr fun _ => trivial) fuel listed a w (Region.free_spec (op_at hi) hf) rfl (by simpa using hr) (.inl ⟨hw, h1⟩) trivial h
theorem skipL (hrf : ∀ a, R a a) (i : Nat) {oi : Oper} {fuel : Nat} {listed : Array Bool} {a : Act} {w : World} (hi : (ops.toList.drop i).head? = some oi)
    (hs : Region.noSelect ops = true) (hf : Region.free md ops listed i = true) (hr : (Region.ready md ops listed).contains i = true)
    (hQ : ∀ v c a w, Q (.panic c) (a.put oi.dst v) w → Q (.panic c) a w) (hw : Region.wanted oi (yielded ops a.tmps) = false)
    (h : wpAnyL P md ops Q late R fuel (listed.setIfInBounds i true) (a.put oi.dst undef) w) : wpAnyL P md ops Q late R (fuel + 1) listed a w :=
  wpAnyL_first hrf (op_at hi) (Region.noSelect_spec hs) (hQ _) (fun _ => True) (fun _ _ _ _ => trivial) [] (.inr fun _ => trivial) fuel listed a w (Region.free_spec (op_at hi) hf) rfl (by simpa using hr) (.inr ⟨hw, rfl⟩) trivial h
theorem stepL (i : Nat) {oi : Oper} {fuel : Nat} {listed : Array Bool} {a : Act} {w : World} (hi : (ops.toList.drop i).head? = some oi) (hr : Region.ready md ops listed = [i]) (hw : Region.wanted oi (yielded ops a.tmps) = true)
    (h : ∀ K : Act → World → Prop, (∀ a' w', (i ≠ late → R w w') → wpAnyL P md ops Q late R fuel (listed.setIfInBounds i true) a' w' → K a' w') → oi.wp P a w K Q) : wpAnyL P md ops Q late R (fuel + 1) listed a w := by
  refine ⟨fun h0 => (by rw [hr] at h0; cases h0), fun j hj => ?_⟩
  rw [hr] at hj
  obtain rfl : j = i := by simpa using hj
  refine wpOp_step (op_at hi) (fun K' hK => ?_)
  rw [if_pos hw]
  exact h K' (fun a' w' h1 h2 => hK _ _ ⟨h1, h2⟩)
theorem doneL {listed : Array Bool} {a : Act} {w : World} (hr : Region.ready md ops listed = []) (h : Q .normal a w) : ∀ fuel, wpAnyL P md ops Q late R fuel listed a w
  | 0 => ⟨hr, h⟩
  | _ + 1 => ⟨fun _ => h, by rw [hr]; simp⟩
theorem startL {id : Nat} {a : Act} {w : World} (late : Nat) (R : World → World → Prop) (hm : P.follows .mixedOrders = true)
    (h : wpAnyL P .any ops Q late R ops.size (Array.replicate ops.size false) a w.drew) : (Code.region id ops true).wp P Q a w :=
  wp_region_any hm (wpAny_of_late _ _ _ _ h)
end
end Go.Proofs.Ytemladlnpaaefaa

/- A drawn region: some moves that may come at any time, the rest of the front (reads and quiet calls), then a tail in its order. -/
import Derived.Test.YtfoomnibfibfnaaReg
set_option linter.unusedVariables false
set_option linter.unusedSimpArgs false
set_option linter.unnecessarySimpa false
namespace Go.Proofs.Ytfoomnibfibfnaa
open Go.RowKit

/-- Those of the front that are passed over ('true'), and the others. -/
def pickT : List Bool → List Oper → List Oper
  | true :: m, o :: l => o :: pickT m l
  | false :: m, _ :: l => pickT m l
  | _, _ => []
def pickF : List Bool → List Oper → List Oper
  | true :: m, _ :: l => pickF m l
  | false :: m, o :: l => o :: pickF m l
  | _, l => l
def idxT : List Bool → Nat → List Nat
  | true :: m, k => k :: idxT m (k + 1)
  | false :: m, k => idxT m (k + 1)
  | [], _ => []
def idxF : List Bool → Nat → Nat → List Nat
  | _, _, 0 => []
  | true :: m, k, n + 1 => idxF m (k + 1) n
  | false :: m, k, n + 1 => k :: idxF m (k + 1) n
  | [], k, n + 1 => k :: idxF [] (k + 1) n

/-- The last operation waits for all others but the ones that have come. -/
def lastOkB (pre : List Nat) (front : List Oper) (last : Oper) : Bool :=
  (front.zipIdx.all fun x => (x.1.after.all fun e => decide (e.on < x.2)) && (match x.1.guard with | some (j, _) => decide (j < front.length) | none => true)) &&
  (((List.range front.length).all fun i => pre.contains i || (last.after.any fun e => e.on == i && Region.binds .any e) || (front.zipIdx.any fun x => decide (i < x.2) && x.1.after.any fun e => e.on == i && Region.binds .any e)) && (last.after.all fun e => decide (e.on < front.length)))

section
variable {P : Program} {Q : Exit → Act → World → Prop} {front : List Oper} {last : Oper} {pre : List Nat}

theorem ok_front (hb : lastOkB pre front last = true) : (front.zipIdx.all fun x => (x.1.after.all fun e => decide (e.on < x.2)) && (match x.1.guard with | some (j, _) => decide (j < front.length) | none => true)) = true := by
  unfold lastOkB at hb
  rw [Bool.and_eq_true] at hb
  exact hb.1
theorem wanted_front2 (hb : lastOkB pre front last = true) {i : Nat} {o : Oper} (ho : front.toArray[i]? = some o) (tmps : Array Value) :
    Region.wanted o (yielded (front ++ [last]).toArray tmps) = Region.wanted o (yielded front.toArray tmps) := by
  have hb := ok_front hb
  rw [List.all_eq_true] at hb
  have h1 := hb (o, i) (by rw [List.mem_zipIdx_iff_getElem?]; simpa using ho)
  rw [Bool.and_eq_true] at h1
  cases hg : o.guard with
  | none => simp [Region.wanted, hg]
  | some p =>
    obtain ⟨j, b⟩ := p
    have hj : j < front.length := by have := h1.2; rw [hg] at this; simpa using this
    have : yielded (front ++ [last]).toArray tmps j = yielded front.toArray tmps j := by unfold yielded; rw [ops_front hj]
    simp [Region.wanted, hg, this]
theorem wpOp_turn2 (hb : lastOkB pre front last = true) {i : Nat} (hi : i < front.length) {K : Act → World → Prop} {a : Act} {w : World}
    (h : wpOp P front.toArray (lastPost P last (front ++ [last]).toArray Q) i K a w) : wpOp P (front ++ [last]).toArray Q i K a w := by
  unfold wpOp at h ⊢
  rw [ops_front hi]
  have ho : front.toArray[i]? = some front[i] := by simp [hi]
  rw [ho] at h ⊢
  simp only at h ⊢
  rw [wanted_front2 hb ho]
  split
  · rename_i hw
    rw [if_pos hw] at h
    exact h.imp (fun h => upon_turn (fun _ _ _ h => h) lets_turn h) (fun h => ⟨h.1, lets_turn h.2⟩)
  · rename_i hw
    rw [if_neg hw] at h
    exact h
theorem all_listed2 (hb : lastOkB pre front last = true) {l : Array Bool} (hl : l.size = front.length) (hr : Region.ready .any front.toArray l = []) : ∀ i, i < front.length → l.getD i false = true := by
  have hb := ok_front hb
  intro i
  induction i using Nat.strongRecOn with
  | _ i ih =>
    intro hi
    have hn : i ∉ Region.ready .any front.toArray l := by rw [hr]; simp
    rw [mem_ready] at hn
    have hli : l.getD i true = l.getD i false := by simp [hl, hi]
    rw [← hli]
    cases h : l.getD i true with
    | true => rfl
    | false =>
      exfalso
      apply hn
      have ho : front.toArray[i]? = some front[i] := by simp [hi]
      refine ⟨by simpa using hi, h, front[i], ho, fun e he _ => ?_⟩
      rw [List.all_eq_true] at hb
      have h1 := hb (front[i], i) (by rw [List.mem_zipIdx_iff_getElem?]; simpa using ho)
      rw [Bool.and_eq_true, Array.all_eq_true'] at h1
      have h2 : e.on < i := by simpa using h1.1 e he
      exact ih e.on h2 (by omega)
theorem ready_last2 (hb : lastOkB pre front last = true) {l : Array Bool} (hl : l.size = front.length) (hpre : ∀ i, i ∈ pre → l.getD i false = true) (hc : ClosedL front l) (h : front.length ∈ Region.ready .any (front ++ [last]).toArray (l.push false)) : ∀ i, i < front.length → l.getD i false = true := by
  rw [mem_ready] at h
  obtain ⟨_, _, o, ho, h3⟩ := h
  rw [ops_last] at ho
  obtain rfl := Option.some.inj ho
  unfold lastOkB at hb
  rw [Bool.and_eq_true, Bool.and_eq_true, List.all_eq_true (l := List.range _)] at hb
  have key : ∀ k i, front.length - i = k → i < front.length → l.getD i false = true := by
    intro k
    induction k using Nat.strongRecOn with
    | _ k ih =>
      intro i hk hi
      have h1 := hb.2.1 i (by simpa using hi)
      rw [Bool.or_eq_true, Bool.or_eq_true] at h1
      rcases h1 with (h1 | h1) | h1
      · exact hpre i (by simpa using h1)
      · rw [Array.any_eq_true'] at h1
        obtain ⟨e, he, h2⟩ := h1
        rw [Bool.and_eq_true] at h2
        have h4 : e.on = i := by simpa using h2.1
        have := h3 e he h2.2
        rwa [h4, getD_push hl _ false (.inr rfl)] at this
      · rw [List.any_eq_true] at h1
        obtain ⟨⟨o, j⟩, hx, h2⟩ := h1
        rw [Bool.and_eq_true, Array.any_eq_true'] at h2
        obtain ⟨h5, e, he, h6⟩ := h2
        rw [Bool.and_eq_true] at h6
        have h4 : e.on = i := by simpa using h6.1
        have h7 : i < j := by simpa using h5
        rw [List.mem_zipIdx_iff_getElem?] at hx
        have hx : front[j]? = some o := hx
        have hj : j < front.length := (List.getElem?_eq_some_iff.1 hx).1
        have h8 := ih (front.length - j) (by omega) j rfl hj
        have := hc j o hx h8 e he h6.2
        rwa [h4] at this
  exact fun i hi => key _ i rfl hi
theorem last_ready2 (hb : lastOkB pre front last = true) {l : Array Bool} (hl : l.size = front.length) (h : ∀ i, i < front.length → l.getD i false = true) : front.length ∈ Region.ready .any (front ++ [last]).toArray (l.push false) := by
  rw [mem_ready]
  refine ⟨by simp, by simp [← hl], last, ops_last, fun e he _ => ?_⟩
  unfold lastOkB at hb
  rw [Bool.and_eq_true, Bool.and_eq_true, Array.all_eq_true'] at hb
  have := of_decide_eq_true (hb.2.2 e he)
  rw [getD_push hl _ false (.inr rfl)]
  exact h _ this
theorem wpOp_last2 {l : Array Bool} (hl : l.size = front.length) (h : ∀ i, i < front.length → l.getD i false = true) (fuel : Nat) {a : Act} {w : World}
    (hp : lastPost P last (front ++ [last]).toArray Q .normal a w) : wpOp P (front ++ [last]).toArray Q front.length (wpAny P .any (front ++ [last]).toArray Q fuel ((l.push false).setIfInBounds front.length true)) a w := by
  have hnil : Region.ready .any (front ++ [last]).toArray ((l.push false).setIfInBounds front.length true) = [] := by
    apply none_ready (by simp [hl])
    intro i hi
    by_cases e : i = front.length
    · subst e; simp [hl]
    · have := h i (by omega)
      simp only [Array.getD_eq_getD_getElem?, Array.getElem?_setIfInBounds, Array.getElem?_push, hl] at this ⊢
      rw [if_neg (by omega), if_neg (by omega)]
      cases hx : l[i]? with
      | none => rfl
      | some b => rw [hx] at this; simpa using this
  have hK : ∀ a w, Q .normal a w → wpAny P .any (front ++ [last]).toArray Q fuel ((l.push false).setIfInBounds front.length true) a w := by
    intro a w hq
    cases fuel with
    | zero => exact ⟨hnil, hq⟩
    | succ n => exact ⟨fun _ => hq, by rw [hnil]; intro i hi; cases hi⟩
  unfold wpOp
  rw [ops_last]
  unfold lastPost at hp
  simp only at hp ⊢
  split
  · rename_i hw
    rw [if_pos hw] at hp
    exact hp.imp (Oper.wp_mono hK) id
  · rename_i hw
    rw [if_neg hw] at hp
    exact hK _ _ hp
theorem wpAny_last2 (hb : lastOkB pre front last = true) : ∀ (fuel : Nat) (l : Array Bool) (a : Act) (w : World), l.size = front.length → (∀ i, i ∈ pre → l.getD i false = true) → ClosedL front l →
    wpAny P .any front.toArray (lastPost P last (front ++ [last]).toArray Q) fuel l a w → wpAny P .any (front ++ [last]).toArray Q (fuel + 1) (l.push false) a w := by
  have key : ∀ (fuel : Nat) (l : Array Bool) (a : Act) (w : World), l.size = front.length → (∀ i, i ∈ pre → l.getD i false = true) → ClosedL front l → (Region.ready .any front.toArray l = [] → lastPost P last (front ++ [last]).toArray Q .normal a w) →
      (∀ i, i < front.length → i ∈ Region.ready .any front.toArray l → wpOp P (front ++ [last]).toArray Q i (wpAny P .any (front ++ [last]).toArray Q fuel ((l.push false).setIfInBounds i true)) a w) →
      wpAny P .any (front ++ [last]).toArray Q (fuel + 1) (l.push false) a w := by
    intro fuel l a w hl hpre hcl h1 h2
    constructor
    · intro hn
      exfalso
      by_cases hr : Region.ready .any front.toArray l = []
      · have := last_ready2 hb hl (all_listed2 hb hl hr)
        rw [hn] at this
        cases this
      · obtain ⟨i, hi⟩ := List.exists_mem_of_ne_nil _ hr
        have hlt : i < front.length := by have := (mem_ready.1 hi).1; simpa using this
        have := (ready_front (last := last) hl hlt).2 hi
        rw [hn] at this
        cases this
    · intro i hi
      have hlt := (mem_ready.1 hi).1
      rw [List.size_toArray, List.length_append, List.length_singleton] at hlt
      by_cases e : i = front.length
      · subst e
        have hall := ready_last2 hb hl hpre hcl hi
        have hr : Region.ready .any front.toArray l = [] := by
          apply List.eq_nil_iff_forall_not_mem.2
          intro j hj
          have hj' := mem_ready.1 hj
          have h3 := hall j (by simpa using hj'.1)
          have h4 := hj'.2.1
          simp only [Array.getD_eq_getD_getElem?] at h3 h4
          cases hx : l[j]? with
          | none => rw [hx] at h4; cases h4
          | some b => rw [hx] at h3 h4; simp at h3 h4; rw [h3] at h4; cases h4
        exact wpOp_last2 hl hall fuel (h1 hr)
      · have hi' : i < front.length := by omega
        exact h2 i hi' ((ready_front hl hi').1 hi)
  intro fuel
  induction fuel with
  | zero =>
    intro l a w hl hpre hcl h
    exact key 0 l a w hl hpre hcl (fun _ => h.2) (fun i _ hi => by rw [h.1] at hi; cases hi)
  | succ fuel ih =>
    intro l a w hl hpre hcl h
    refine key (fuel + 1) l a w hl hpre hcl h.1 (fun i hlt hi => ?_)
    rw [set_push hl hlt]
    exact wpOp_mono (fun a w => ih _ a w (by simp [hl]) (fun j hj => getD_set_true _ _ (hpre j hj)) (hcl.set hi)) (wpOp_turn2 hb hlt (h.2 i hi))
end
/-- A tail whose operations come one behind the other, each behind all others but the ones that have come. -/
def tailOk2B (pre : List Nat) : List Oper → List Oper → Bool
  | _, [] => true
  | front, x :: t => lastOkB pre front x && x.guard.isNone && tailOk2B pre (front ++ [x]) t
theorem wpAny_tail2 {P : Program} {ops : Array Oper} {Q : Exit → Act → World → Prop} {pre : List Nat} : ∀ (t front : List Oper), tailOk2B pre front t = true → ∀ (fuel : Nat) (l : Array Bool) (a : Act) (w : World), l.size = front.length → (∀ i, i ∈ pre → l.getD i false = true) → ClosedL front l →
    wpAny P .any front.toArray (tailPost P ops t Q) fuel l a w → ∃ l' : Array Bool, l' = l ++ Array.replicate t.length false ∧ wpAny P .any (front ++ t).toArray Q (fuel + t.length) l' a w
  | [], front, _, fuel, l, a, w, _, _, _, h => ⟨l, by simp, by rw [tailPost_nil] at h; simpa using h⟩
  | x :: t, front, hb, fuel, l, a, w, hl, hpre, hc, h => by
    simp only [tailOk2B, Bool.and_eq_true, Option.isNone_iff_eq_none] at hb
    obtain ⟨⟨hb1, hg⟩, hb2⟩ := hb
    have h1 : wpAny P .any front.toArray (lastPost P x (front ++ [x]).toArray (tailPost P ops t Q)) fuel l a w := by
      refine wpAny_post (Q := tailPost P ops (x :: t) Q) (Q' := lastPost P x (front ++ [x]).toArray (tailPost P ops t Q)) ?_ (fun _ _ _ h => h) (fun h => ?_) fuel l a w h
      case refine_2 => obtain ⟨a, w, h⟩ := h; exact ⟨a, w, h⟩
      intro a w h
      have hw : ∀ ops : Array Oper, Region.wanted x (yielded ops a.tmps) = true := fun ops => by simp [Region.wanted, hg]
      have h : wpList P ops Q (x :: t) a w := h
      unfold wpList at h
      rw [if_pos (hw ops)] at h
      show (if _ then _ else _)
      rw [if_pos (hw _)]
      exact h.imp (fun h => upon_turn (Q := tailPost P ops t Q) (Q' := Q) (fun _ _ _ h => h) tailPost_out h) (fun h => ⟨h.1, tailPost_out h.2⟩)
    have h2 := wpAny_last2 hb1 fuel l a w hl hpre hc h1
    have hc2 : ClosedL (front ++ [x]) (l.push false) := by
      intro j o ho hj e he hbe
      rcases Nat.lt_or_ge j front.length with hj' | hj'
      · rw [List.getElem?_append_left hj'] at ho
        rw [getD_push hl _ false (.inr rfl)] at hj ⊢
        exact hc j o ho hj e he hbe
      · rw [getD_push hl _ false (.inr rfl)] at hj
        simp only [Array.getD_eq_getD_getElem?] at hj
        rw [Array.getElem?_eq_none (by omega)] at hj
        cases hj
    obtain ⟨l', hl', h3⟩ := wpAny_tail2 t (front ++ [x]) hb2 (fuel + 1) (l.push false) a w (by simp [hl]) (fun i hi => by rw [getD_push hl _ false (.inr rfl)]; exact hpre i hi) hc2 h2
    refine ⟨l', ?_, ?_⟩
    · rw [hl']
      apply Array.ext'
      simp [List.replicate_succ]
    · rw [List.append_assoc, List.singleton_append] at h3
      rw [List.length_cons, show fuel + (t.length + 1) = fuel + 1 + t.length by omega]
      exact h3

/-! ### The front in an order that is told -/
def lexOrdB (ops : Array Oper) : List Nat → Array Bool → Bool
  | [], listed => (Region.ready .any ops listed).isEmpty
  | i :: is, listed => (Region.ready .any ops listed).contains i && Region.free .any ops listed i && lexOrdB ops is (listed.setIfInBounds i true)
/-- The operations of those numbers. -/
def opsOf (ops : Array Oper) (is : List Nat) : List Oper := is.filterMap (ops[·]?)
theorem wpAnyQ_ord {P : Program} {ops : Array Oper} {C : World → Prop} {Q : Act → Prop} (hs : Region.noSelect ops = true) : ∀ (is : List Nat) (listed : Array Bool) (a : Act), lexOrdB ops is listed = true → wpQuiet P ops C Q (opsOf ops is) a → wpAnyQ P .any ops C Q is.length listed a
  | [], _, _, hB, h => ⟨by simpa [lexOrdB] using hB, h⟩
  | i :: is, listed, a, hB, h => by
    simp only [lexOrdB, Bool.and_eq_true] at hB
    obtain ⟨⟨hr, hf⟩, hB'⟩ := hB
    have hr' : i ∈ Region.ready .any ops listed := by simpa using hr
    obtain ⟨o, h0⟩ : ∃ o, ops[i]? = some o := by obtain ⟨_, _, o, ho, _⟩ := Go.Proofs.Ytfoomnibfibfnaa.mem_ready.1 hr'; exact ⟨o, ho⟩
    have e : opsOf ops (i :: is) = o :: opsOf ops is := by unfold opsOf; rw [List.filterMap_cons, h0]
    rw [e] at h
    have hst : qOp P ops C i (wpQuiet P ops C Q (opsOf ops is)) a := by unfold qOp; simp only [h0]; exact h
    obtain ⟨v, hy, hK⟩ := yieldsIn_of_qOp h0 hst
    exact wpAnyQ_first h0 (Region.noSelect_spec hs) is.length listed a (Region.free_spec h0 hf) hr' hy (wpAnyQ_ord hs is _ _ hB' hK)
def listOf (is : List Nat) (l : Array Bool) : Array Bool := is.foldl (fun l i => l.setIfInBounds i true) l
/-- Moves that may be taken first. -/
def preOkB (ops : Array Oper) : List Nat → Array Bool → Bool
  | [], _ => true
  | i :: is, listed => (Region.ready .any ops listed).contains i && Region.free .any ops listed i && (match ops[i]? with | some o => o.guard.isNone && (match o.op with | .move _ => true | _ => false) | none => false) && preOkB ops is (listed.setIfInBounds i true)
theorem wpAny_pre {P : Program} {ops : Array Oper} {C : World → Prop} {Q : Exit → Act → World → Prop} {opsF : Array Oper} {q : List Oper} {Z : Act → Prop} (hs : Region.noSelect ops = true) (hQ : ∀ c a d v w, Q (.panic c) (a.put d v) w → Q (.panic c) a w) {w0 : World} (hC : C w0) (fuel : Nat) (w : World) :
    ∀ (is : List Nat) (listed : Array Bool) (a : Act), preOkB ops is listed = true → (∀ a', wpQuiet P opsF C Z q a' → wpAny P .any ops Q fuel (listOf is listed) a' w) → wpQuiet P opsF C Z (opsOf ops is ++ q) a → wpAny P .any ops Q (fuel + is.length) listed a w
  | [], _, _, _, h, hq => h _ hq
  | i :: is, listed, a, hB, h, hq => by
    simp only [preOkB, Bool.and_eq_true] at hB
    obtain ⟨⟨⟨hr, hf⟩, hm⟩, hB'⟩ := hB
    cases h0 : ops[i]? with
    | none => rw [h0] at hm; cases hm
    | some o =>
      rw [h0] at hm
      simp only [Bool.and_eq_true, Option.isNone_iff_eq_none] at hm
      obtain ⟨hg, hm⟩ := hm
      cases hop : o.op with
      | move x =>
        have e : opsOf ops (i :: is) = o :: opsOf ops is := by unfold opsOf; rw [List.filterMap_cons, h0]
        rw [e, List.cons_append] at hq
        have hw : ∀ (ops : Array Oper) (t : Array Value), Region.wanted o (yielded ops t) = true := fun ops t => by simp [Region.wanted, hg]
        have hrun : ∀ (ρ : Operand → Value) (w : World), (execOp ρ o).run P w = .ok (.value (ρ x)) w := fun ρ w => by unfold execOp; rw [hop]; rfl
        unfold wpQuiet at hq
        rw [if_pos (hw _ _)] at hq
        obtain ⟨v, hv, hn⟩ := hq
        have hv0 := hv w0 hC
        unfold Oper.quietAt at hv0
        rw [hrun] at hv0
        have hvx : a.eval x = v := hv0.2
        have hy : Yields P ops o v a := .inl ⟨hw _ _, fun w => by rw [hrun, hvx]⟩
        have := wpAny_take (fuel := fuel + is.length) h0 hs hf hr (fun c a w h => hQ c a _ _ w h) hy (wpAny_pre hs hQ hC fuel w is _ _ hB' h hn)
        exact this
      | _ => rw [hop] at hm; cases hm
theorem listOf_append (is : List Nat) : ∀ (l m : Array Bool), (∀ i ∈ is, i < l.size) → listOf is (l ++ m) = listOf is l ++ m := by
  induction is with
  | nil => intro l m _; rfl
  | cons i is ih =>
    intro l m h
    show listOf is ((l ++ m).setIfInBounds i true) = listOf is (l.setIfInBounds i true) ++ m
    have hi := h i (by simp)
    have e : (l ++ m).setIfInBounds i true = l.setIfInBounds i true ++ m := by
      apply Array.ext_getElem?
      intro k
      simp only [Array.getElem?_setIfInBounds, Array.getElem?_append, Array.size_setIfInBounds, Array.size_append]
      by_cases hk : i = k
      · subst hk
        simp [hi]
        omega
      · simp [hk]
    rw [e]
    exact ih _ m (fun j hj => by rw [Array.size_setIfInBounds]; exact h j (by simp [hj]))
theorem listOf_size (is : List Nat) : ∀ l : Array Bool, (listOf is l).size = l.size := by
  induction is with
  | nil => intro l; rfl
  | cons i is ih => intro l; exact (ih _).trans (by simp)
theorem listOf_mono (is : List Nat) : ∀ (l : Array Bool) (j : Nat), l.getD j false = true → (listOf is l).getD j false = true := by
  induction is with
  | nil => intro l j h; exact h
  | cons i is ih => intro l j h; exact ih _ j (getD_set_true _ _ h)
theorem listOf_mem (is : List Nat) : ∀ (l : Array Bool), (∀ i ∈ is, i < l.size) → ∀ i ∈ is, (listOf is l).getD i false = true := by
  induction is with
  | nil => intro l _ i hi; cases hi
  | cons i is ih =>
    intro l h j hj
    rcases List.mem_cons.1 hj with rfl | hj
    · refine listOf_mono is _ _ ?_
      have := h j (by simp)
      simp [this]
    · exact ih _ (fun k hk => by rw [Array.size_setIfInBounds]; exact h k (by simp [hk])) j hj
theorem listOf_closed (front : List Oper) (is : List Nat) : ∀ l : Array Bool, preOkB front.toArray is l = true → ClosedL front l → ClosedL front (listOf is l) := by
  induction is with
  | nil => intro l _ h; exact h
  | cons i is ih =>
    intro l hB h
    simp only [preOkB, Bool.and_eq_true] at hB
    exact ih _ hB.2 (h.set (by simpa using hB.1.1.1))

/-- Some moves at any time ('true' in the mask), the rest of the front reads or calls quietly in a class of worlds, then the tail in its order. -/
theorem wp_region_pre_tail {P : Program} {Q : Exit → Act → World → Prop} {id : Nat} {l : List Oper} (C : World → Prop) (mask : List Bool) (n : Nat) (hm : P.follows .mixedOrders = true)
    (hQ : ∀ c a d v w, Q (.panic c) (a.put d v) w → Q (.panic c) a w) (hs : Region.noSelect l.toArray = true) (hsF : Region.noSelect (l.take n).toArray = true)
    (hp : preOkB l.toArray (idxT mask 0) (Array.replicate l.length false) = true) (hpF : preOkB (l.take n).toArray (idxT mask 0) (Array.replicate (l.take n).length false) = true)
    (hlt : (idxT mask 0).all (fun i => decide (i < (l.take n).length)) = true) (hlen : (idxT mask 0).length + (idxF mask 0 n).length = (l.take n).length)
    (hpick : opsOf l.toArray (idxT mask 0) = pickT mask (l.take n)) (hpickF : opsOf (l.take n).toArray (idxF mask 0 n) = pickF mask (l.take n))
    (hB : lexOrdB (l.take n).toArray (idxF mask 0 n) (listOf (idxT mask 0) (Array.replicate (l.take n).length false)) = true) (hb : tailOk2B (idxT mask 0) (l.take n) (l.drop n) = true) {a : Act} {w : World} (hC : C w.drew)
    (h : wpQuiet P (l.take n).toArray C (fun a' => ∀ w', C w' → wpList P l.toArray Q (l.drop n) a' w') (pickT mask (l.take n) ++ pickF mask (l.take n)) a) : (Code.region id l.toArray true).wp P Q a w := by
  refine wp_region_any hm ?_
  have hltp : ∀ i ∈ idxT mask 0, i < (Array.replicate (l.take n).length false).size := fun i hi => by
    rw [List.all_eq_true] at hlt
    simpa using hlt i hi
  rw [← hpick] at h
  have hsize : l.toArray.size = (idxF mask 0 n).length + (l.drop n).length + (idxT mask 0).length := by
    have e := List.length_append (as := l.take n) (bs := l.drop n)
    rw [List.take_append_drop] at e
    rw [List.size_toArray]
    omega
  rw [hsize]
  refine wpAny_pre hs hQ hC _ _ (idxT mask 0) _ a ?_ (fun a' hq => ?_) h
  · rw [List.size_toArray] at hsize
    rw [← hsize]; exact hp
  · rw [← hpickF] at hq
    have h0 := wpAnyQ_ord hsF (idxF mask 0 n) _ a' hB hq
    have H := wpAny_of_quiet (P := P) (md := .any) (ops := (l.take n).toArray) (C := C) (Q := fun a' => ∀ w', C w' → wpList P l.toArray Q (l.drop n) a' w')
      (Q' := tailPost P l.toArray (l.drop n) Q) (fun a w hw h => h w hw)
    have h1 := H _ _ _ _ hC h0
    obtain ⟨l', e, h2⟩ := wpAny_tail2 (l.drop n) (l.take n) hb _ _ a' w.drew (by rw [listOf_size]; simp) (listOf_mem _ _ hltp) (listOf_closed _ _ _ hpF (ClosedL.start _ _)) h1
    rw [List.take_append_drop] at h2
    rw [e, ← listOf_append _ _ _ hltp] at h2
    have e2 : Array.replicate (l.take n).length false ++ Array.replicate (l.drop n).length false = Array.replicate ((idxF mask 0 n).length + (l.drop n).length + (idxT mask 0).length) false := by
      apply Array.ext'
      simp only [Array.toList_append, Array.toList_replicate, List.replicate_append_replicate]
      congr 1
      omega
    rw [e2] at h2
    exact h2
theorem wp_region_draw_pre {P : Program} {Q : Exit → Act → World → Prop} {id : Nat} {l : List Oper} (mask : List Bool) (n : Nat) (hm : P.follows .mixedOrders = true)
    (hQ : ∀ c a d v w, Q (.panic c) (a.put d v) w → Q (.panic c) a w) (hs : Region.noSelect l.toArray = true) (hsF : Region.noSelect (l.take n).toArray = true)
    (hp : preOkB l.toArray (idxT mask 0) (Array.replicate l.length false) = true) (hpF : preOkB (l.take n).toArray (idxT mask 0) (Array.replicate (l.take n).length false) = true)
    (hlt : (idxT mask 0).all (fun i => decide (i < (l.take n).length)) = true) (hlen : (idxT mask 0).length + (idxF mask 0 n).length = (l.take n).length)
    (hpick : opsOf l.toArray (idxT mask 0) = pickT mask (l.take n)) (hpickF : opsOf (l.take n).toArray (idxF mask 0 n) = pickF mask (l.take n))
    (hB : lexOrdB (l.take n).toArray (idxF mask 0 n) (listOf (idxT mask 0) (Array.replicate (l.take n).length false)) = true) (hb : tailOk2B (idxT mask 0) (l.take n) (l.drop n) = true) {a : Act} {w : World}
    (h : wpQuiet P (l.take n).toArray (fun w' => ∃ n, w' = w.drewN n) (fun a' => ∀ w', (∃ n, w' = w.drewN n) → wpList P l.toArray Q (l.drop n) a' w') (pickT mask (l.take n) ++ pickF mask (l.take n)) a) : (Code.region id l.toArray true).wp P Q a w :=
  wp_region_pre_tail _ mask n hm hQ hs hsF hp hpF hlt hlen hpick hpickF hB hb ⟨1, rfl⟩ h
end Go.Proofs.Ytfoomnibfibfnaa

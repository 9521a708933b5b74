/- A drawn region whose last operation depends on all others: the others first, in any order, then the last one. -/
import Derived.Test.YtchnjcghbbacoaaDoorLaws
import Derived.Orders
import Derived.Deep.Quiet
import Derived.BigQuiet
set_option linter.unusedVariables false
set_option linter.unusedSimpArgs false
set_option linter.unnecessarySimpa false
namespace Go.Proofs.YtchnjcghbbacoaaDoor
open Go.RowKit

/-- The others' post: behind them the last one runs. -/
def lastPost (P : Program) (last : Oper) (ops : Array Oper) (Q : Exit → Act → World → Prop) : Exit → Act → World → Prop
  | .normal, a, w => if Region.wanted last (yielded ops a.tmps) = true then last.wp P a w (fun a' w' => Q .normal a' w') Q ∨ (last.asks P a w ∧ LetsOut Q) else Q .normal (a.put last.dst undef) w
  | e, a, w => Q e a w

/-- What the walk may look at by computing: every operation depends on earlier ones alone, its guard on the others, the last one on all. -/
def regionLastB (front : List Oper) (last : Oper) : Bool :=
  (front.zipIdx.all fun x => (x.1.after.all fun e => decide (e.on < x.2)) && (match x.1.guard with | some (j, _) => decide (j < front.length) | none => true)) &&
  (((List.range front.length).all fun i => (last.after.any fun e => e.on == i && Region.binds .any e) || (front.zipIdx.any fun x => decide (i < x.2) && x.1.after.any fun e => e.on == i && Region.binds .any e)) && (last.after.all fun e => decide (e.on < front.length)))

theorem upon_turn {P : Program} {o : Oper} {a : Act} {K : Act → World → Prop} {Q Q' : Exit → Act → World → Prop} (hp : ∀ c a w, Q' (.panic c) a w → Q (.panic c) a w) (ho : LetsOut Q' → LetsOut Q) {r : Result Next} (h : o.upon P a K Q' r) : o.upon P a K Q r := by
  cases r with
  | ok n w' =>
    cases n <;> simp only [Oper.upon] at h ⊢ <;>
      first
        | exact h
        | exact Calls.mono h (fun e w'' he => by cases e <;> first | exact he | exact hp _ _ _ he | exact ho he)
  | halt x w' => cases x <;> simp only [Oper.upon] at h ⊢ <;> first | exact hp _ _ _ h | exact h

section
variable {P : Program} {Q : Exit → Act → World → Prop} {front : List Oper} {last : Oper}

theorem lets_turn : LetsOut (lastPost P last (front ++ [last]).toArray Q) → LetsOut Q := fun ⟨a, w, h⟩ => ⟨a, w, h⟩

theorem ops_front {i : Nat} (h : i < front.length) : (front ++ [last]).toArray[i]? = front.toArray[i]? := by
  simp [List.getElem?_append_left h]
theorem ops_last : (front ++ [last]).toArray[front.length]? = some last := by simp

theorem wanted_front (hb : regionLastB front last = true) {i : Nat} {o : Oper} (ho : front.toArray[i]? = some o) (tmps : Array Value) :
    Region.wanted o (yielded (front ++ [last]).toArray tmps) = Region.wanted o (yielded front.toArray tmps) := by
  unfold regionLastB at hb
  rw [Bool.and_eq_true, List.all_eq_true] at hb
  have h1 := hb.1 (o, i) (by
    rw [List.mem_zipIdx_iff_getElem?]
    simpa using ho)
  rw [Bool.and_eq_true] at h1
  cases hg : o.guard with
  | none => simp [Region.wanted, hg]
  | some p =>
    obtain ⟨j, b⟩ := p
    have hj : j < front.length := by have := h1.2; rw [hg] at this; simpa using this
    have : yielded (front ++ [last]).toArray tmps j = yielded front.toArray tmps j := by unfold yielded; rw [ops_front hj]
    simp [Region.wanted, hg, this]

theorem wpOp_turn (hb : regionLastB front last = true) {i : Nat} (hi : i < front.length) {K : Act → World → Prop} {a : Act} {w : World}
    (h : wpOp P front.toArray (lastPost P last (front ++ [last]).toArray Q) i K a w) : wpOp P (front ++ [last]).toArray Q i K a w := by
  unfold wpOp at h ⊢
  rw [ops_front hi]
  have ho : front.toArray[i]? = some front[i] := by simp [hi]
  rw [ho] at h ⊢
  simp only at h ⊢
  rw [wanted_front hb ho]
  split
  · rename_i hw
    rw [if_pos hw] at h
    exact h.imp (fun h => upon_turn (fun _ _ _ h => h) lets_turn h) (fun h => ⟨h.1, lets_turn h.2⟩)
  · rename_i hw
    rw [if_neg hw] at h
    exact h

theorem mem_ready {ops : Array Oper} {l : Array Bool} {i : Nat} : i ∈ Region.ready .any ops l ↔ i < ops.size ∧ l.getD i true = false ∧ ∃ o, ops[i]? = some o ∧ ∀ e ∈ o.after, Region.binds .any e = true → l.getD e.on false = true := by
  unfold Region.ready
  rw [List.mem_filter, List.mem_range]
  constructor
  · rintro ⟨h1, h2⟩
    rw [Bool.and_eq_true] at h2
    obtain ⟨h2, h3⟩ := h2
    cases ho : ops[i]? with
    | none => simp [ho] at h3
    | some o =>
      rw [ho] at h3
      refine ⟨h1, by simpa using h2, o, rfl, fun e he hb => ?_⟩
      have h4 : o.after.all (fun e => !Region.binds .any e || l.getD e.on false) = true := by simpa using h3
      rw [Array.all_eq_true'] at h4
      have := h4 e he
      simpa [hb] using this
  · rintro ⟨h1, h2, o, ho, h3⟩
    refine ⟨h1, ?_⟩
    rw [Bool.and_eq_true, ho]
    refine ⟨by simp [h2], ?_⟩
    show o.after.all (fun e => !Region.binds .any e || l.getD e.on false) = true
    rw [Array.all_eq_true']
    intro e he
    cases hb : Region.binds .any e
    · rfl
    · simpa using h3 e he hb
theorem getD_push {l : Array Bool} {n : Nat} (hl : l.size = n) (i : Nat) (d : Bool) (h : i ≠ n ∨ d = false) : (l.push false).getD i d = l.getD i d := by
  subst hl
  simp only [Array.getD_eq_getD_getElem?, Array.getElem?_push]
  split
  · rename_i e
    subst e
    rcases h with h | h
    · exact absurd rfl h
    · simp [h]
  · rfl
theorem set_push {l : Array Bool} {n i : Nat} (hl : l.size = n) (hi : i < n) : (l.push false).setIfInBounds i true = (l.setIfInBounds i true).push false := by
  subst hl
  apply Array.ext_getElem?
  intro k
  simp only [Array.getElem?_setIfInBounds, Array.getElem?_push, Array.size_push, Array.size_setIfInBounds]
  by_cases h1 : i = k
  · subst h1
    rw [if_pos rfl, if_pos (by omega), if_neg (by omega), if_pos rfl, if_pos hi]
  · rw [if_neg h1]
    by_cases h2 : k = l.size
    · rw [if_pos h2, if_pos h2]
    · rw [if_neg h2, if_neg h2, if_neg h1]

/-- An operation of the front is ready in the whole just where it is in the front. -/
theorem ready_front {l : Array Bool} (hl : l.size = front.length) {i : Nat} (hi : i < front.length) : i ∈ Region.ready .any (front ++ [last]).toArray (l.push false) ↔ i ∈ Region.ready .any front.toArray l := by
  rw [mem_ready, mem_ready, ops_front hi, getD_push hl i true (.inl (by omega))]
  constructor
  · rintro ⟨_, h2, o, ho, h3⟩
    exact ⟨by simpa using hi, h2, o, ho, fun e he hb => by have := h3 e he hb; rwa [getD_push hl _ false (.inr rfl)] at this⟩
  · rintro ⟨_, h2, o, ho, h3⟩
    exact ⟨by simp; omega, h2, o, ho, fun e he hb => by rw [getD_push hl _ false (.inr rfl)]; exact h3 e he hb⟩
theorem all_listed (hb : regionLastB front last = true) {l : Array Bool} (hl : l.size = front.length) (hr : Region.ready .any front.toArray l = []) : ∀ i, i < front.length → l.getD i false = true := by
  intro i
  induction i using Nat.strongRecOn with
  | _ i ih =>
    intro hi
    have hn : i ∉ Region.ready .any front.toArray l := by rw [hr]; simp
    rw [mem_ready] at hn
    have hli : l.getD i true = l.getD i false := by simp [hl, hi]
    rw [← hli]
    cases h : l.getD i true with
    | true => rfl
    | false =>
      exfalso
      apply hn
      have ho : front.toArray[i]? = some front[i] := by simp [hi]
      refine ⟨by simpa using hi, h, front[i], ho, fun e he _ => ?_⟩
      unfold regionLastB at hb
      rw [Bool.and_eq_true, List.all_eq_true] at hb
      have h1 := hb.1 (front[i], i) (by rw [List.mem_zipIdx_iff_getElem?]; simpa using ho)
      rw [Bool.and_eq_true, Array.all_eq_true'] at h1
      have h2 : e.on < i := by simpa using h1.1 e he
      exact ih e.on h2 (by omega)
/-- What is listed has all listed that it waits for. -/
def ClosedL (front : List Oper) (l : Array Bool) : Prop := ∀ (j : Nat) (o : Oper), front[j]? = some o → l.getD j false = true → ∀ e ∈ o.after, Region.binds .any e = true → l.getD e.on false = true
theorem ClosedL.start (front : List Oper) (n : Nat) : ClosedL front (Array.replicate n false) := by
  intro j o _ h
  simp only [Array.getD_eq_getD_getElem?, Array.getElem?_replicate] at h
  split at h <;> simp at h
theorem getD_set_true {l : Array Bool} (i j : Nat) (h : l.getD j false = true) : (l.setIfInBounds i true).getD j false = true := by
  simp only [Array.getD_eq_getD_getElem?, Array.getElem?_setIfInBounds] at h ⊢
  by_cases e : i = j
  · subst e
    rw [if_pos rfl]
    split
    · rfl
    · rename_i hn
      rw [Array.getElem?_eq_none (by omega)] at h
      exact h
  · rw [if_neg e]; exact h
theorem ClosedL.set {l : Array Bool} (h : ClosedL front l) {i : Nat} (hi : i ∈ Region.ready .any front.toArray l) : ClosedL front (l.setIfInBounds i true) := by
  intro j o ho hj e he hb
  by_cases hij : i = j
  · subst hij
    obtain ⟨_, _, o', ho', h3⟩ := mem_ready.1 hi
    have : o' = o := by
      rw [List.getElem?_toArray, ho] at ho'
      exact (Option.some.inj ho').symm
    subst this
    exact getD_set_true _ _ (h3 e he hb)
  · refine getD_set_true _ _ (h j o ho ?_ e he hb)
    simp only [Array.getD_eq_getD_getElem?, Array.getElem?_setIfInBounds] at hj ⊢
    rwa [if_neg hij] at hj
theorem ready_last (hb : regionLastB front last = true) {l : Array Bool} (hl : l.size = front.length) (hc : ClosedL front l) (h : front.length ∈ Region.ready .any (front ++ [last]).toArray (l.push false)) : ∀ i, i < front.length → l.getD i false = true := by
  rw [mem_ready] at h
  obtain ⟨_, _, o, ho, h3⟩ := h
  rw [ops_last] at ho
  obtain rfl := Option.some.inj ho
  unfold regionLastB at hb
  rw [Bool.and_eq_true, Bool.and_eq_true, List.all_eq_true (l := List.range _)] at hb
  have key : ∀ k i, front.length - i = k → i < front.length → l.getD i false = true := by
    intro k
    induction k using Nat.strongRecOn with
    | _ k ih =>
      intro i hk hi
      have h1 := hb.2.1 i (by simpa using hi)
      rw [Bool.or_eq_true] at h1
      rcases h1 with h1 | h1
      · rw [Array.any_eq_true'] at h1
        obtain ⟨e, he, h2⟩ := h1
        rw [Bool.and_eq_true] at h2
        have h4 : e.on = i := by simpa using h2.1
        have := h3 e he h2.2
        rwa [h4, getD_push hl _ false (.inr rfl)] at this
      · rw [List.any_eq_true] at h1
        obtain ⟨⟨o, j⟩, hx, h2⟩ := h1
        rw [Bool.and_eq_true, Array.any_eq_true'] at h2
        obtain ⟨h5, e, he, h6⟩ := h2
        rw [Bool.and_eq_true] at h6
        have h4 : e.on = i := by simpa using h6.1
        have h7 : i < j := by simpa using h5
        rw [List.mem_zipIdx_iff_getElem?] at hx
        have hx : front[j]? = some o := hx
        have hj : j < front.length := (List.getElem?_eq_some_iff.1 hx).1
        have h8 := ih (front.length - j) (by omega) j rfl hj
        have := hc j o hx h8 e he h6.2
        rwa [h4] at this
  exact fun i hi => key _ i rfl hi
theorem last_ready (hb : regionLastB front last = true) {l : Array Bool} (hl : l.size = front.length) (h : ∀ i, i < front.length → l.getD i false = true) : front.length ∈ Region.ready .any (front ++ [last]).toArray (l.push false) := by
  rw [mem_ready]
  refine ⟨by simp, by simp [← hl], last, ops_last, fun e he _ => ?_⟩
  unfold regionLastB at hb
  rw [Bool.and_eq_true, Bool.and_eq_true, Array.all_eq_true'] at hb
  have := of_decide_eq_true (hb.2.2 e he)
  rw [getD_push hl _ false (.inr rfl)]
  exact h _ this
theorem none_ready {l : Array Bool} (hl : l.size = front.length + 1) (h : ∀ i, i < front.length + 1 → l.getD i true = true) : Region.ready .any (front ++ [last]).toArray l = [] := by
  apply List.eq_nil_iff_forall_not_mem.2
  intro i hi
  rw [mem_ready] at hi
  have := h i (by simpa using hi.1)
  rw [hi.2.1] at this
  cases this
theorem wpOp_last (hb : regionLastB front last = true) {l : Array Bool} (hl : l.size = front.length) (h : ∀ i, i < front.length → l.getD i false = true) (fuel : Nat) {a : Act} {w : World}
    (hp : lastPost P last (front ++ [last]).toArray Q .normal a w) : wpOp P (front ++ [last]).toArray Q front.length (wpAny P .any (front ++ [last]).toArray Q fuel ((l.push false).setIfInBounds front.length true)) a w := by
  have hnil : Region.ready .any (front ++ [last]).toArray ((l.push false).setIfInBounds front.length true) = [] := by
    apply none_ready (by simp [hl])
    intro i hi
    by_cases e : i = front.length
    · subst e; simp [hl]
    · have := h i (by omega)
      simp only [Array.getD_eq_getD_getElem?, Array.getElem?_setIfInBounds, Array.getElem?_push, hl] at this ⊢
      rw [if_neg (by omega), if_neg (by omega)]
      cases hx : l[i]? with
      | none => rfl
      | some b => rw [hx] at this; simpa using this
  have hK : ∀ a w, Q .normal a w → wpAny P .any (front ++ [last]).toArray Q fuel ((l.push false).setIfInBounds front.length true) a w := by
    intro a w hq
    cases fuel with
    | zero => exact ⟨hnil, hq⟩
    | succ n => exact ⟨fun _ => hq, by rw [hnil]; intro i hi; cases hi⟩
  unfold wpOp
  rw [ops_last]
  unfold lastPost at hp
  simp only at hp ⊢
  split
  · rename_i hw
    rw [if_pos hw] at hp
    exact hp.imp (Oper.wp_mono hK) id
  · rename_i hw
    rw [if_neg hw] at hp
    exact hK _ _ hp
theorem wpAny_last (hb : regionLastB front last = true) : ∀ (fuel : Nat) (l : Array Bool) (a : Act) (w : World), l.size = front.length → ClosedL front l →
    wpAny P .any front.toArray (lastPost P last (front ++ [last]).toArray Q) fuel l a w → wpAny P .any (front ++ [last]).toArray Q (fuel + 1) (l.push false) a w := by
  have key : ∀ (fuel : Nat) (l : Array Bool) (a : Act) (w : World), l.size = front.length → ClosedL front l → (Region.ready .any front.toArray l = [] → lastPost P last (front ++ [last]).toArray Q .normal a w) →
      (∀ i, i < front.length → i ∈ Region.ready .any front.toArray l → wpOp P (front ++ [last]).toArray Q i (wpAny P .any (front ++ [last]).toArray Q fuel ((l.push false).setIfInBounds i true)) a w) →
      wpAny P .any (front ++ [last]).toArray Q (fuel + 1) (l.push false) a w := by
    intro fuel l a w hl hcl h1 h2
    constructor
    · intro hn
      exfalso
      by_cases hr : Region.ready .any front.toArray l = []
      · have := last_ready hb hl (all_listed hb hl hr)
        rw [hn] at this
        cases this
      · obtain ⟨i, hi⟩ := List.exists_mem_of_ne_nil _ hr
        have hlt : i < front.length := by have := (mem_ready.1 hi).1; simpa using this
        have := (ready_front (last := last) hl hlt).2 hi
        rw [hn] at this
        cases this
    · intro i hi
      have hlt := (mem_ready.1 hi).1
      rw [List.size_toArray, List.length_append, List.length_singleton] at hlt
      by_cases e : i = front.length
      · subst e
        have hall := ready_last hb hl hcl hi
        have hr : Region.ready .any front.toArray l = [] := by
          apply List.eq_nil_iff_forall_not_mem.2
          intro j hj
          have hj' := mem_ready.1 hj
          have h3 := hall j (by simpa using hj'.1)
          have h4 := hj'.2.1
          simp only [Array.getD_eq_getD_getElem?] at h3 h4
          cases hx : l[j]? with
          | none => rw [hx] at h4; cases h4
          | some b => rw [hx] at h3 h4; simp at h3 h4; rw [h3] at h4; cases h4
        exact wpOp_last hb hl hall fuel (h1 hr)
      · have hi' : i < front.length := by omega
        exact h2 i hi' ((ready_front hl hi').1 hi)
  intro fuel
  induction fuel with
  | zero =>
    intro l a w hl hcl h
    exact key 0 l a w hl hcl (fun _ => h.2) (fun i _ hi => by rw [h.1] at hi; cases hi)
  | succ fuel ih =>
    intro l a w hl hcl h
    refine key (fuel + 1) l a w hl hcl h.1 (fun i hlt hi => ?_)
    rw [set_push hl hlt]
    exact wpOp_mono (fun a w => ih _ a w (by simp [hl]) (hcl.set hi)) (wpOp_turn hb hlt (h.2 i hi))
end
/-- The region whose last operation waits for all others: the others first (drawn), then the last one. -/
theorem wp_region_last {P : Program} {Q : Exit → Act → World → Prop} {id : Nat} {ops : Array Oper} (front : List Oper) (last : Oper) (ho : ops = (front ++ [last]).toArray) (hb : regionLastB front last = true) {a : Act} {w : World} (hm : P.follows .mixedOrders = true)
    (h : wpAny P .any front.toArray (lastPost P last (front ++ [last]).toArray Q) front.length (Array.replicate front.length false) a { w with drawn := w.drawn + 1 }) : (Code.region id ops true).wp P Q a w := by
  subst ho
  refine wp_region_any hm ?_
  have := wpAny_last hb front.length (Array.replicate front.length false) a _ (by simp) (ClosedL.start _ _) h
  have e : (Array.replicate front.length false).push false = Array.replicate (front ++ [last]).toArray.size false := by
    apply Array.ext'
    simp [List.replicate_succ']
  rw [e] at this
  simpa using this
/-- A tail whose operations come one behind the other, each behind all others. -/
def tailOkB : List Oper → List Oper → Bool
  | _, [] => true
  | front, x :: t => regionLastB front x && x.guard.isNone && tailOkB (front ++ [x]) t
/-- What stands behind the front: the tail, then Q. -/
def tailPost (P : Program) (ops : Array Oper) (t : List Oper) (Q : Exit → Act → World → Prop) : Exit → Act → World → Prop
  | .normal, a, w => wpList P ops Q t a w
  | e, a, w => Q e a w
theorem tailPost_out {P : Program} {ops : Array Oper} {t : List Oper} {Q : Exit → Act → World → Prop} (h : LetsOut Q) : LetsOut (tailPost P ops t Q) := by
  obtain ⟨a, w, h⟩ := h
  exact ⟨a, w, h⟩
theorem tailPost_nil {P : Program} {ops : Array Oper} {Q : Exit → Act → World → Prop} : tailPost P ops [] Q = Q := by
  funext e a w
  cases e <;> rfl
theorem wpAny_post {P : Program} {md : Region.Mode} {ops : Array Oper} {Q Q' : Exit → Act → World → Prop} (hn : ∀ a w, Q .normal a w → Q' .normal a w) (hp : ∀ c a w, Q (.panic c) a w → Q' (.panic c) a w) (ho : LetsOut Q → LetsOut Q') :
    ∀ (fuel : Nat) (l : Array Bool) (a : Act) (w : World), wpAny P md ops Q fuel l a w → wpAny P md ops Q' fuel l a w
  | 0, _, _, _, h => ⟨h.1, hn _ _ h.2⟩
  | fuel + 1, l, a, w, h => ⟨fun e => hn _ _ (h.1 e), fun i hi => by
      have h2 := wpOp_mono (fun a w => wpAny_post hn hp ho fuel _ a w) (h.2 i hi)
      unfold wpOp at h2 ⊢
      split
      · rename_i e; simpa only [e] using h2
      · rename_i o e
        simp only [e] at h2
        split
        · rename_i hw
          rw [if_pos hw] at h2
          exact h2.imp (fun h => upon_turn hp ho h) (fun h => ⟨h.1, ho h.2⟩)
        · rename_i hw
          rw [if_neg hw] at h2
          exact h2⟩
theorem wpAny_tail {P : Program} {ops : Array Oper} {Q : Exit → Act → World → Prop} : ∀ (t front : List Oper), tailOkB front t = true → ∀ (fuel : Nat) (l : Array Bool) (a : Act) (w : World), l.size = front.length → ClosedL front l →
    wpAny P .any front.toArray (tailPost P ops t Q) fuel l a w → ∃ l' : Array Bool, l' = l ++ Array.replicate t.length false ∧ wpAny P .any (front ++ t).toArray Q (fuel + t.length) l' a w
  | [], front, _, fuel, l, a, w, _, _, h => ⟨l, by simp, by rw [tailPost_nil] at h; simpa using h⟩
  | x :: t, front, hb, fuel, l, a, w, hl, hc, h => by
    simp only [tailOkB, Bool.and_eq_true, Option.isNone_iff_eq_none] at hb
    obtain ⟨⟨hb1, hg⟩, hb2⟩ := hb
    have h1 : wpAny P .any front.toArray (lastPost P x (front ++ [x]).toArray (tailPost P ops t Q)) fuel l a w := by
      refine wpAny_post (Q := tailPost P ops (x :: t) Q) (Q' := lastPost P x (front ++ [x]).toArray (tailPost P ops t Q)) ?_ (fun _ _ _ h => h) (fun h => ?_) fuel l a w h
      case refine_2 => obtain ⟨a, w, h⟩ := h; exact ⟨a, w, h⟩
      intro a w h
      have hw : ∀ ops : Array Oper, Region.wanted x (yielded ops a.tmps) = true := fun ops => by simp [Region.wanted, hg]
      have h : wpList P ops Q (x :: t) a w := h
      unfold wpList at h
      rw [if_pos (hw ops)] at h
      show (if _ then _ else _)
      rw [if_pos (hw _)]
      exact h.imp (fun h => upon_turn (Q := tailPost P ops t Q) (Q' := Q) (fun _ _ _ h => h) tailPost_out h) (fun h => ⟨h.1, tailPost_out h.2⟩)
    have h2 := wpAny_last hb1 fuel l a w hl hc h1
    have hc2 : ClosedL (front ++ [x]) (l.push false) := by
      intro j o ho hj e he hbe
      rcases Nat.lt_or_ge j front.length with hj' | hj'
      · rw [List.getElem?_append_left hj'] at ho
        rw [getD_push hl _ false (.inr rfl)] at hj ⊢
        exact hc j o ho hj e he hbe
      · rw [getD_push hl _ false (.inr rfl)] at hj
        simp only [Array.getD_eq_getD_getElem?] at hj
        rw [Array.getElem?_eq_none (by omega)] at hj
        cases hj
    obtain ⟨l', hl', h3⟩ := wpAny_tail t (front ++ [x]) hb2 (fuel + 1) (l.push false) a w (by simp [hl]) hc2 h2
    refine ⟨l', ?_, ?_⟩
    · rw [hl']
      apply Array.ext'
      simp [List.replicate_succ]
    · rw [List.append_assoc, List.singleton_append] at h3
      rw [List.length_cons, show fuel + (t.length + 1) = fuel + 1 + t.length by omega]
      exact h3
/-- All but the tail only read or call quietly in a class of worlds: one walk in the order of the text; then the tail, in its order. -/
theorem wp_region_quiet_tail {P : Program} {Q : Exit → Act → World → Prop} {id : Nat} {l : List Oper} (C : World → Prop) (n : Nat) (hm : P.follows .mixedOrders = true)
    (hB : Region.lexB .any (l.take n).toArray = true) (hb : tailOkB (l.take n) (l.drop n) = true) {a : Act} {w : World} (hC : C w.drew)
    (h : wpQuiet P (l.take n).toArray C (fun a' => ∀ w', C w' → wpList P l.toArray Q (l.drop n) a' w') (l.take n) a) : (Code.region id l.toArray true).wp P Q a w := by
  refine wp_region_any hm ?_
  simp only [Region.lexB, Bool.and_eq_true] at hB
  have H := wpAny_of_quiet (P := P) (md := .any) (ops := (l.take n).toArray) (C := C) (Q := fun a' => ∀ w', C w' → wpList P l.toArray Q (l.drop n) a' w')
    (Q' := tailPost P l.toArray (l.drop n) Q) (fun a w hw h => h w hw)
  have h0 := wpAnyQ_lex (P := P) (C := C) (md := .any) hB.1 (l.take n) 0 (Array.replicate (l.take n).toArray.size false) a (by simp) (by simpa using hB.2) h
  have h1 := H _ _ _ _ hC h0
  obtain ⟨l', e, h2⟩ := wpAny_tail (l.drop n) (l.take n) hb _ _ a w.drew (by simp) (ClosedL.start _ _) h1
  have e2 : l' = Array.replicate l.toArray.size false := by
    rw [e]
    apply Array.ext'
    simp only [Array.toList_append, Array.toList_replicate, List.replicate_append_replicate]
    congr 1
    simp only [List.size_toArray, List.length_take, List.length_drop]
    omega
  rw [e2, List.take_append_drop, ← List.length_append, List.take_append_drop] at h2
  exact h2
/-- .. at the class 'w after some draws'. -/
theorem wp_region_draw_tail {P : Program} {Q : Exit → Act → World → Prop} {id : Nat} {l : List Oper} (n : Nat) (hm : P.follows .mixedOrders = true)
    (hB : Region.lexB .any (l.take n).toArray = true) (hb : tailOkB (l.take n) (l.drop n) = true) {a : Act} {w : World}
    (h : wpQuiet P (l.take n).toArray (fun w' => ∃ n, w' = w.drewN n) (fun a' => ∀ w', (∃ n, w' = w.drewN n) → wpList P l.toArray Q (l.drop n) a' w') (l.take n) a) : (Code.region id l.toArray true).wp P Q a w :=
  wp_region_quiet_tail _ n hm hB hb ⟨1, rfl⟩ h
/-- All but the last operation only read or call quietly in a class of worlds: one walk in the order of the text; then the last one. -/
theorem wp_region_quiet_last {P : Program} {Q : Exit → Act → World → Prop} {id : Nat} {l : List Oper} (C : World → Prop) (n : Nat) (last : Oper) (hl : l = l.take n ++ [last]) (hm : P.follows .mixedOrders = true)
    (hB : Region.lexB .any (l.take n).toArray = true) (hb : regionLastB (l.take n) last = true) {a : Act} {w : World} (hC : C w.drew)
    (h : wpQuiet P (l.take n).toArray C (fun a' => ∀ w', C w' → wpList P l.toArray Q [last] a' w') (l.take n) a) : (Code.region id l.toArray true).wp P Q a w := by
  refine wp_region_last (l.take n) last (by rw [← hl]) hb hm ?_
  simp only [Region.lexB, Bool.and_eq_true] at hB
  have hpost : ∀ a w, wpList P l.toArray Q [last] a w → lastPost P last (l.take n ++ [last]).toArray Q .normal a w := by
    intro a w h
    rw [← hl]
    exact h
  have H := wpAny_of_quiet (P := P) (md := .any) (ops := (l.take n).toArray) (C := C) (Q := fun a' => ∀ w', C w' → wpList P l.toArray Q [last] a' w')
    (Q' := lastPost P last (l.take n ++ [last]).toArray Q) (fun a w hw h => hpost a w (h w hw))
  refine H _ _ _ _ hC ?_
  have := wpAnyQ_lex (P := P) (C := C) (md := .any) hB.1 (l.take n) 0 (Array.replicate (l.take n).toArray.size false) a (by simp) (by simpa using hB.2) h
  simpa using this
/-- .. at the class 'w after some draws'. -/
theorem wp_region_draw_last {P : Program} {Q : Exit → Act → World → Prop} {id : Nat} {l : List Oper} (n : Nat) (last : Oper) (hl : l = l.take n ++ [last]) (hm : P.follows .mixedOrders = true)
    (hB : Region.lexB .any (l.take n).toArray = true) (hb : regionLastB (l.take n) last = true) {a : Act} {w : World}
    (h : wpQuiet P (l.take n).toArray (fun w' => ∃ n, w' = w.drewN n) (fun a' => ∀ w', (∃ n, w' = w.drewN n) → wpList P l.toArray Q [last] a' w') (l.take n) a) : (Code.region id l.toArray true).wp P Q a w :=
  wp_region_quiet_last _ n last hl hm hB hb ⟨1, rfl⟩ h
end Go.Proofs.YtchnjcghbbacoaaDoor

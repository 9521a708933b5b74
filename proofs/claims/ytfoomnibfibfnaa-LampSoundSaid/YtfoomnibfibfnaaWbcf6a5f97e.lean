/- Walks and plain laws, put together in build order. Conditions: what each of them names. -/
import Derived.Orders
import Derived.Deep.Quiet
import Derived.BigQuiet
import Derived.OrdersHeld
import Derived.Deep.RegionHeld
import Derived.PlainAid
import Derived.Test.YtfoomnibfibfnaaRows
import Derived.Test.YtfoomnibfibfnaaW78cc35e640
set_option linter.unusedVariables false
set_option linter.unusedSimpArgs false
set_option linter.unnecessarySimpa false
namespace Go.Proofs.Ytfoomnibfibfnaa
section
open Go.RowKit

/-- The others' post: behind them the last one runs. -/
def lastPost (P : Program) (last : Oper) (ops : Array Oper) (Q : Exit → Act → World → Prop) : Exit → Act → World → Prop
  | .normal, a, w => if Region.wanted last (yielded ops a.tmps) = true then last.wp P a w (fun a' w' => Q .normal a' w') Q ∨ (last.asks P a w ∧ LetsOut Q) else Q .normal (a.put last.dst undef) w
  | e, a, w => Q e a w

/-- What the walk may look at by computing: every operation depends on earlier ones alone, its guard on the others, the last one on all. -/
def regionLastB (front : List Oper) (last : Oper) : Bool :=
  (front.zipIdx.all fun x => (x.1.after.all fun e => decide (e.on < x.2)) && (match x.1.guard with | some (j, _) => decide (j < front.length) | none => true)) &&
  (((List.range front.length).all fun i => (last.after.any fun e => e.on == i && Region.binds .any e) || (front.zipIdx.any fun x => decide (i < x.2) && x.1.after.any fun e => e.on == i && Region.binds .any e)) && (last.after.all fun e => decide (e.on < front.length)))

theorem upon_turn {P : Program} {o : Oper} {a : Act} {K : Act → World → Prop} {Q Q' : Exit → Act → World → Prop} (hp : ∀ c a w, Q' (.panic c) a w → Q (.panic c) a w) (ho : LetsOut Q' → LetsOut Q) {r : Result Next} (h : o.upon P a K Q' r) : o.upon P a K Q r := by
  cases r with
  | ok n w' =>
    cases n <;> simp only [Oper.upon] at h ⊢ <;>
      first
        | exact h
        | exact Calls.mono h (fun e w'' he => by cases e <;> first | exact he | exact hp _ _ _ he | exact ho he)
  | halt x w' => cases x <;> simp only [Oper.upon] at h ⊢ <;> first | exact hp _ _ _ h | exact h

section
variable {P : Program} {Q : Exit → Act → World → Prop} {front : List Oper} {last : Oper}

theorem lets_turn : LetsOut (lastPost P last (front ++ [last]).toArray Q) → LetsOut Q := fun ⟨a, w, h⟩ => ⟨a, w, h⟩

theorem ops_front {i : Nat} (h : i < front.length) : (front ++ [last]).toArray[i]? = front.toArray[i]? := by
  simp [List.getElem?_append_left h]
theorem ops_last : (front ++ [last]).toArray[front.length]? = some last := by simp

theorem wanted_front (hb : regionLastB front last = true) {i : Nat} {o : Oper} (ho : front.toArray[i]? = some o) (tmps : Array Value) :
    Region.wanted o (yielded (front ++ [last]).toArray tmps) = Region.wanted o (yielded front.toArray tmps) := by
  unfold regionLastB at hb
  rw [Bool.and_eq_true, List.all_eq_true] at hb
  have h1 := hb.1 (o, i) (by
    rw [List.mem_zipIdx_iff_getElem?]
    simpa using ho)
  rw [Bool.and_eq_true] at h1
  cases hg : o.guard with
  | none => simp [Region.wanted, hg]
  | some p =>
    obtain ⟨j, b⟩ := p
    have hj : j < front.length := by have := h1.2; rw [hg] at this; simpa using this
    have : yielded (front ++ [last]).toArray tmps j = yielded front.toArray tmps j := by unfold yielded; rw [ops_front hj]
    simp [Region.wanted, hg, this]

theorem wpOp_turn (hb : regionLastB front last = true) {i : Nat} (hi : i < front.length) {K : Act → World → Prop} {a : Act} {w : World}
    (h : wpOp P front.toArray (lastPost P last (front ++ [last]).toArray Q) i K a w) : wpOp P (front ++ [last]).toArray Q i K a w := by
  unfold wpOp at h ⊢
  rw [ops_front hi]
  have ho : front.toArray[i]? = some front[i] := by simp [hi]
  rw [ho] at h ⊢
  simp only at h ⊢
  rw [wanted_front hb ho]
  split
  · rename_i hw
    rw [if_pos hw] at h
    exact h.imp (fun h => upon_turn (fun _ _ _ h => h) lets_turn h) (fun h => ⟨h.1, lets_turn h.2⟩)
  · rename_i hw
    rw [if_neg hw] at h
    exact h

theorem mem_ready {ops : Array Oper} {l : Array Bool} {i : Nat} : i ∈ Region.ready .any ops l ↔ i < ops.size ∧ l.getD i true = false ∧ ∃ o, ops[i]? = some o ∧ ∀ e ∈ o.after, Region.binds .any e = true → l.getD e.on false = true := by
  unfold Region.ready
  rw [List.mem_filter, List.mem_range]
  constructor
  · rintro ⟨h1, h2⟩
    rw [Bool.and_eq_true] at h2
    obtain ⟨h2, h3⟩ := h2
    cases ho : ops[i]? with
    | none => simp [ho] at h3
    | some o =>
      rw [ho] at h3
      refine ⟨h1, by simpa using h2, o, rfl, fun e he hb => ?_⟩
      have h4 : o.after.all (fun e => !Region.binds .any e || l.getD e.on false) = true := by simpa using h3
      rw [Array.all_eq_true'] at h4
      have := h4 e he
      simpa [hb] using this
  · rintro ⟨h1, h2, o, ho, h3⟩
    refine ⟨h1, ?_⟩
    rw [Bool.and_eq_true, ho]
    refine ⟨by simp [h2], ?_⟩
    show o.after.all (fun e => !Region.binds .any e || l.getD e.on false) = true
    rw [Array.all_eq_true']
    intro e he
    cases hb : Region.binds .any e
    · rfl
    · simpa using h3 e he hb
theorem getD_push {l : Array Bool} {n : Nat} (hl : l.size = n) (i : Nat) (d : Bool) (h : i ≠ n ∨ d = false) : (l.push false).getD i d = l.getD i d := by
  subst hl
  simp only [Array.getD_eq_getD_getElem?, Array.getElem?_push]
  split
  · rename_i e
    subst e
    rcases h with h | h
    · exact absurd rfl h
    · simp [h]
  · rfl
theorem set_push {l : Array Bool} {n i : Nat} (hl : l.size = n) (hi : i < n) : (l.push false).setIfInBounds i true = (l.setIfInBounds i true).push false := by
  subst hl
  apply Array.ext_getElem?
  intro k
  simp only [Array.getElem?_setIfInBounds, Array.getElem?_push, Array.size_push, Array.size_setIfInBounds]
  by_cases h1 : i = k
  · subst h1
    rw [if_pos rfl, if_pos (by omega), if_neg (by omega), if_pos rfl, if_pos hi]
  · rw [if_neg h1]
    by_cases h2 : k = l.size
    · rw [if_pos h2, if_pos h2]
    · rw [if_neg h2, if_neg h2, if_neg h1]

/-- An operation of the front is ready in the whole just where it is in the front. -/
theorem ready_front {l : Array Bool} (hl : l.size = front.length) {i : Nat} (hi : i < front.length) : i ∈ Region.ready .any (front ++ [last]).toArray (l.push false) ↔ i ∈ Region.ready .any front.toArray l := by
  rw [mem_ready, mem_ready, ops_front hi, getD_push hl i true (.inl (by omega))]
  constructor
  · rintro ⟨_, h2, o, ho, h3⟩
    exact ⟨by simpa using hi, h2, o, ho, fun e he hb => by have := h3 e he hb; rwa [getD_push hl _ false (.inr rfl)] at this⟩
  · rintro ⟨_, h2, o, ho, h3⟩
    exact ⟨by simp; omega, h2, o, ho, fun e he hb => by rw [getD_push hl _ false (.inr rfl)]; exact h3 e he hb⟩
theorem all_listed (hb : regionLastB front last = true) {l : Array Bool} (hl : l.size = front.length) (hr : Region.ready .any front.toArray l = []) : ∀ i, i < front.length → l.getD i false = true := by
  intro i
  induction i using Nat.strongRecOn with
  | _ i ih =>
    intro hi
    have hn : i ∉ Region.ready .any front.toArray l := by rw [hr]; simp
    rw [mem_ready] at hn
    have hli : l.getD i true = l.getD i false := by simp [hl, hi]
    rw [← hli]
    cases h : l.getD i true with
    | true => rfl
    | false =>
      exfalso
      apply hn
      have ho : front.toArray[i]? = some front[i] := by simp [hi]
      refine ⟨by simpa using hi, h, front[i], ho, fun e he _ => ?_⟩
      unfold regionLastB at hb
      rw [Bool.and_eq_true, List.all_eq_true] at hb
      have h1 := hb.1 (front[i], i) (by rw [List.mem_zipIdx_iff_getElem?]; simpa using ho)
      rw [Bool.and_eq_true, Array.all_eq_true'] at h1
      have h2 : e.on < i := by simpa using h1.1 e he
      exact ih e.on h2 (by omega)
/-- What is listed has all listed that it waits for. -/
def ClosedL (front : List Oper) (l : Array Bool) : Prop := ∀ (j : Nat) (o : Oper), front[j]? = some o → l.getD j false = true → ∀ e ∈ o.after, Region.binds .any e = true → l.getD e.on false = true
theorem ClosedL.start (front : List Oper) (n : Nat) : ClosedL front (Array.replicate n false) := by
  intro j o _ h
  simp only [Array.getD_eq_getD_getElem?, Array.getElem?_replicate] at h
  split at h <;> simp at h
theorem getD_set_true {l : Array Bool} (i j : Nat) (h : l.getD j false = true) : (l.setIfInBounds i true).getD j false = true := by
  simp only [Array.getD_eq_getD_getElem?, Array.getElem?_setIfInBounds] at h ⊢
  by_cases e : i = j
  · subst e
    rw [if_pos rfl]
    split
    · rfl
    · rename_i hn
      rw [Array.getElem?_eq_none (by omega)] at h
      exact h
  · rw [if_neg e]; exact h
theorem ClosedL.set {l : Array Bool} (h : ClosedL front l) {i : Nat} (hi : i ∈ Region.ready .any front.toArray l) : ClosedL front (l.setIfInBounds i true) := by
  intro j o ho hj e he hb
  by_cases hij : i = j
  · subst hij
    obtain ⟨_, _, o', ho', h3⟩ := mem_ready.1 hi
    have : o' = o := by
      rw [List.getElem?_toArray, ho] at ho'
      exact (Option.some.inj ho').symm
    subst this
    exact getD_set_true _ _ (h3 e he hb)
  · refine getD_set_true _ _ (h j o ho ?_ e he hb)
    simp only [Array.getD_eq_getD_getElem?, Array.getElem?_setIfInBounds] at hj ⊢
    rwa [if_neg hij] at hj
theorem ready_last (hb : regionLastB front last = true) {l : Array Bool} (hl : l.size = front.length) (hc : ClosedL front l) (h : front.length ∈ Region.ready .any (front ++ [last]).toArray (l.push false)) : ∀ i, i < front.length → l.getD i false = true := by
  rw [mem_ready] at h
  obtain ⟨_, _, o, ho, h3⟩ := h
  rw [ops_last] at ho
  obtain rfl := Option.some.inj ho
  unfold regionLastB at hb
  rw [Bool.and_eq_true, Bool.and_eq_true, List.all_eq_true (l := List.range _)] at hb
  have key : ∀ k i, front.length - i = k → i < front.length → l.getD i false = true := by
    intro k
    induction k using Nat.strongRecOn with
    | _ k ih =>
      intro i hk hi
      have h1 := hb.2.1 i (by simpa using hi)
      rw [Bool.or_eq_true] at h1
      rcases h1 with h1 | h1
      · rw [Array.any_eq_true'] at h1
        obtain ⟨e, he, h2⟩ := h1
        rw [Bool.and_eq_true] at h2
        have h4 : e.on = i := by simpa using h2.1
        have := h3 e he h2.2
        rwa [h4, getD_push hl _ false (.inr rfl)] at this
      · rw [List.any_eq_true] at h1
        obtain ⟨⟨o, j⟩, hx, h2⟩ := h1
        rw [Bool.and_eq_true, Array.any_eq_true'] at h2
        obtain ⟨h5, e, he, h6⟩ := h2
        rw [Bool.and_eq_true] at h6
        have h4 : e.on = i := by simpa using h6.1
        have h7 : i < j := by simpa using h5
        rw [List.mem_zipIdx_iff_getElem?] at hx
        have hx : front[j]? = some o := hx
        have hj : j < front.length := (List.getElem?_eq_some_iff.1 hx).1
        have h8 := ih (front.length - j) (by omega) j rfl hj
        have := hc j o hx h8 e he h6.2
        rwa [h4] at this
  exact fun i hi => key _ i rfl hi
theorem last_ready (hb : regionLastB front last = true) {l : Array Bool} (hl : l.size = front.length) (h : ∀ i, i < front.length → l.getD i false = true) : front.length ∈ Region.ready .any (front ++ [last]).toArray (l.push false) := by
  rw [mem_ready]
  refine ⟨by simp, by simp [← hl], last, ops_last, fun e he _ => ?_⟩
  unfold regionLastB at hb
  rw [Bool.and_eq_true, Bool.and_eq_true, Array.all_eq_true'] at hb
  have := of_decide_eq_true (hb.2.2 e he)
  rw [getD_push hl _ false (.inr rfl)]
  exact h _ this
theorem none_ready {l : Array Bool} (hl : l.size = front.length + 1) (h : ∀ i, i < front.length + 1 → l.getD i true = true) : Region.ready .any (front ++ [last]).toArray l = [] := by
  apply List.eq_nil_iff_forall_not_mem.2
  intro i hi
  rw [mem_ready] at hi
  have := h i (by simpa using hi.1)
  rw [hi.2.1] at this
  cases this
theorem wpOp_last (hb : regionLastB front last = true) {l : Array Bool} (hl : l.size = front.length) (h : ∀ i, i < front.length → l.getD i false = true) (fuel : Nat) {a : Act} {w : World}
    (hp : lastPost P last (front ++ [last]).toArray Q .normal a w) : wpOp P (front ++ [last]).toArray Q front.length (wpAny P .any (front ++ [last]).toArray Q fuel ((l.push false).setIfInBounds front.length true)) a w := by
  have hnil : Region.ready .any (front ++ [last]).toArray ((l.push false).setIfInBounds front.length true) = [] := by
    apply none_ready (by simp [hl])
    intro i hi
    by_cases e : i = front.length
    · subst e; simp [hl]
    · have := h i (by omega)
      simp only [Array.getD_eq_getD_getElem?, Array.getElem?_setIfInBounds, Array.getElem?_push, hl] at this ⊢
      rw [if_neg (by omega), if_neg (by omega)]
      cases hx : l[i]? with
      | none => rfl
      | some b => rw [hx] at this; simpa using this
  have hK : ∀ a w, Q .normal a w → wpAny P .any (front ++ [last]).toArray Q fuel ((l.push false).setIfInBounds front.length true) a w := by
    intro a w hq
    cases fuel with
    | zero => exact ⟨hnil, hq⟩
    | succ n => exact ⟨fun _ => hq, by rw [hnil]; intro i hi; cases hi⟩
  unfold wpOp
  rw [ops_last]
  unfold lastPost at hp
  simp only at hp ⊢
  split
  · rename_i hw
    rw [if_pos hw] at hp
    exact hp.imp (Oper.wp_mono hK) id
  · rename_i hw
    rw [if_neg hw] at hp
    exact hK _ _ hp
theorem wpAny_last (hb : regionLastB front last = true) : ∀ (fuel : Nat) (l : Array Bool) (a : Act) (w : World), l.size = front.length → ClosedL front l →
    wpAny P .any front.toArray (lastPost P last (front ++ [last]).toArray Q) fuel l a w → wpAny P .any (front ++ [last]).toArray Q (fuel + 1) (l.push false) a w := by
  have key : ∀ (fuel : Nat) (l : Array Bool) (a : Act) (w : World), l.size = front.length → ClosedL front l → (Region.ready .any front.toArray l = [] → lastPost P last (front ++ [last]).toArray Q .normal a w) →
      (∀ i, i < front.length → i ∈ Region.ready .any front.toArray l → wpOp P (front ++ [last]).toArray Q i (wpAny P .any (front ++ [last]).toArray Q fuel ((l.push false).setIfInBounds i true)) a w) →
      wpAny P .any (front ++ [last]).toArray Q (fuel + 1) (l.push false) a w := by
    intro fuel l a w hl hcl h1 h2
    constructor
    · intro hn
      exfalso
      by_cases hr : Region.ready .any front.toArray l = []
      · have := last_ready hb hl (all_listed hb hl hr)
        rw [hn] at this
        cases this
      · obtain ⟨i, hi⟩ := List.exists_mem_of_ne_nil _ hr
        have hlt : i < front.length := by have := (mem_ready.1 hi).1; simpa using this
        have := (ready_front (last := last) hl hlt).2 hi
        rw [hn] at this
        cases this
    · intro i hi
      have hlt := (mem_ready.1 hi).1
      rw [List.size_toArray, List.length_append, List.length_singleton] at hlt
      by_cases e : i = front.length
      · subst e
        have hall := ready_last hb hl hcl hi
        have hr : Region.ready .any front.toArray l = [] := by
          apply List.eq_nil_iff_forall_not_mem.2
          intro j hj
          have hj' := mem_ready.1 hj
          have h3 := hall j (by simpa using hj'.1)
          have h4 := hj'.2.1
          simp only [Array.getD_eq_getD_getElem?] at h3 h4
          cases hx : l[j]? with
          | none => rw [hx] at h4; cases h4
          | some b => rw [hx] at h3 h4; simp at h3 h4; rw [h3] at h4; cases h4
        exact wpOp_last hb hl hall fuel (h1 hr)
      · have hi' : i < front.length := by omega
        exact h2 i hi' ((ready_front hl hi').1 hi)
  intro fuel
  induction fuel with
  | zero =>
    intro l a w hl hcl h
    exact key 0 l a w hl hcl (fun _ => h.2) (fun i _ hi => by rw [h.1] at hi; cases hi)
  | succ fuel ih =>
    intro l a w hl hcl h
    refine key (fuel + 1) l a w hl hcl h.1 (fun i hlt hi => ?_)
    rw [set_push hl hlt]
    exact wpOp_mono (fun a w => ih _ a w (by simp [hl]) (hcl.set hi)) (wpOp_turn hb hlt (h.2 i hi))
end
/-- The region whose last operation waits for all others: the others first (drawn), then the last one. -/
theorem wp_region_last {P : Program} {Q : Exit → Act → World → Prop} {id : Nat} {ops : Array Oper} (front : List Oper) (last : Oper) (ho : ops = (front ++ [last]).toArray) (hb : regionLastB front last = true) {a : Act} {w : World} (hm : P.follows .mixedOrders = true)
    (h : wpAny P .any front.toArray (lastPost P last (front ++ [last]).toArray Q) front.length (Array.replicate front.length false) a { w with drawn := w.drawn + 1 }) : (Code.region id ops true).wp P Q a w := by
  subst ho
  refine wp_region_any hm ?_
  have := wpAny_last hb front.length (Array.replicate front.length false) a _ (by simp) (ClosedL.start _ _) h
  have e : (Array.replicate front.length false).push false = Array.replicate (front ++ [last]).toArray.size false := by
    apply Array.ext'
    simp [List.replicate_succ']
  rw [e] at this
  simpa using this
/-- A tail whose operations come one behind the other, each behind all others. -/
def tailOkB : List Oper → List Oper → Bool
  | _, [] => true
  | front, x :: t => regionLastB front x && x.guard.isNone && tailOkB (front ++ [x]) t
/-- What stands behind the front: the tail, then Q. -/
def tailPost (P : Program) (ops : Array Oper) (t : List Oper) (Q : Exit → Act → World → Prop) : Exit → Act → World → Prop
  | .normal, a, w => wpList P ops Q t a w
  | e, a, w => Q e a w
theorem tailPost_out {P : Program} {ops : Array Oper} {t : List Oper} {Q : Exit → Act → World → Prop} (h : LetsOut Q) : LetsOut (tailPost P ops t Q) := by
  obtain ⟨a, w, h⟩ := h
  exact ⟨a, w, h⟩
theorem tailPost_nil {P : Program} {ops : Array Oper} {Q : Exit → Act → World → Prop} : tailPost P ops [] Q = Q := by
  funext e a w
  cases e <;> rfl
theorem wpAny_post {P : Program} {md : Region.Mode} {ops : Array Oper} {Q Q' : Exit → Act → World → Prop} (hn : ∀ a w, Q .normal a w → Q' .normal a w) (hp : ∀ c a w, Q (.panic c) a w → Q' (.panic c) a w) (ho : LetsOut Q → LetsOut Q') :
    ∀ (fuel : Nat) (l : Array Bool) (a : Act) (w : World), wpAny P md ops Q fuel l a w → wpAny P md ops Q' fuel l a w
  | 0, _, _, _, h => ⟨h.1, hn _ _ h.2⟩
  | fuel + 1, l, a, w, h => ⟨fun e => hn _ _ (h.1 e), fun i hi => by
      have h2 := wpOp_mono (fun a w => wpAny_post hn hp ho fuel _ a w) (h.2 i hi)
      unfold wpOp at h2 ⊢
      split
      · rename_i e; simpa only [e] using h2
      · rename_i o e
        simp only [e] at h2
        split
        · rename_i hw
          rw [if_pos hw] at h2
          exact h2.imp (fun h => upon_turn hp ho h) (fun h => ⟨h.1, ho h.2⟩)
        · rename_i hw
          rw [if_neg hw] at h2
          exact h2⟩
theorem wpAny_tail {P : Program} {ops : Array Oper} {Q : Exit → Act → World → Prop} : ∀ (t front : List Oper), tailOkB front t = true → ∀ (fuel : Nat) (l : Array Bool) (a : Act) (w : World), l.size = front.length → ClosedL front l →
    wpAny P .any front.toArray (tailPost P ops t Q) fuel l a w → ∃ l' : Array Bool, l' = l ++ Array.replicate t.length false ∧ wpAny P .any (front ++ t).toArray Q (fuel + t.length) l' a w
  | [], front, _, fuel, l, a, w, _, _, h => ⟨l, by simp, by rw [tailPost_nil] at h; simpa using h⟩
  | x :: t, front, hb, fuel, l, a, w, hl, hc, h => by
    simp only [tailOkB, Bool.and_eq_true, Option.isNone_iff_eq_none] at hb
    obtain ⟨⟨hb1, hg⟩, hb2⟩ := hb
    have h1 : wpAny P .any front.toArray (lastPost P x (front ++ [x]).toArray (tailPost P ops t Q)) fuel l a w := by
      refine wpAny_post (Q := tailPost P ops (x :: t) Q) (Q' := lastPost P x (front ++ [x]).toArray (tailPost P ops t Q)) ?_ (fun _ _ _ h => h) (fun h => ?_) fuel l a w h
      case refine_2 => obtain ⟨a, w, h⟩ := h; exact ⟨a, w, h⟩
      intro a w h
      have hw : ∀ ops : Array Oper, Region.wanted x (yielded ops a.tmps) = true := fun ops => by simp [Region.wanted, hg]
      have h : wpList P ops Q (x :: t) a w := h
      unfold wpList at h
      rw [if_pos (hw ops)] at h
      show (if _ then _ else _)
      rw [if_pos (hw _)]
      exact h.imp (fun h => upon_turn (Q := tailPost P ops t Q) (Q' := Q) (fun _ _ _ h => h) tailPost_out h) (fun h => ⟨h.1, tailPost_out h.2⟩)
    have h2 := wpAny_last hb1 fuel l a w hl hc h1
    have hc2 : ClosedL (front ++ [x]) (l.push false) := by
      intro j o ho hj e he hbe
      rcases Nat.lt_or_ge j front.length with hj' | hj'
      · rw [List.getElem?_append_left hj'] at ho
        rw [getD_push hl _ false (.inr rfl)] at hj ⊢
        exact hc j o ho hj e he hbe
      · rw [getD_push hl _ false (.inr rfl)] at hj
        simp only [Array.getD_eq_getD_getElem?] at hj
        rw [Array.getElem?_eq_none (by omega)] at hj
        cases hj
    obtain ⟨l', hl', h3⟩ := wpAny_tail t (front ++ [x]) hb2 (fuel + 1) (l.push false) a w (by simp [hl]) hc2 h2
    refine ⟨l', ?_, ?_⟩
    · rw [hl']
      apply Array.ext'
      simp [List.replicate_succ]
    · rw [List.append_assoc, List.singleton_append] at h3
      rw [List.length_cons, show fuel + (t.length + 1) = fuel + 1 + t.length by omega]
      exact h3
/-- All but the tail only read or call quietly in a class of worlds: one walk in the order of the text; then the tail, in its order. -/
theorem wp_region_quiet_tail {P : Program} {Q : Exit → Act → World → Prop} {id : Nat} {l : List Oper} (C : World → Prop) (n : Nat) (hm : P.follows .mixedOrders = true)
    (hB : Region.lexB .any (l.take n).toArray = true) (hb : tailOkB (l.take n) (l.drop n) = true) {a : Act} {w : World} (hC : C w.drew)
    (h : wpQuiet P (l.take n).toArray C (fun a' => ∀ w', C w' → wpList P l.toArray Q (l.drop n) a' w') (l.take n) a) : (Code.region id l.toArray true).wp P Q a w := by
  refine wp_region_any hm ?_
  simp only [Region.lexB, Bool.and_eq_true] at hB
  have H := wpAny_of_quiet (P := P) (md := .any) (ops := (l.take n).toArray) (C := C) (Q := fun a' => ∀ w', C w' → wpList P l.toArray Q (l.drop n) a' w')
    (Q' := tailPost P l.toArray (l.drop n) Q) (fun a w hw h => h w hw)
  have h0 := wpAnyQ_lex (P := P) (C := C) (md := .any) hB.1 (l.take n) 0 (Array.replicate (l.take n).toArray.size false) a (by simp) (by simpa using hB.2) h
  have h1 := H _ _ _ _ hC h0
  obtain ⟨l', e, h2⟩ := wpAny_tail (l.drop n) (l.take n) hb _ _ a w.drew (by simp) (ClosedL.start _ _) h1
  have e2 : l' = Array.replicate l.toArray.size false := by
    rw [e]
    apply Array.ext'
    simp only [Array.toList_append, Array.toList_replicate, List.replicate_append_replicate]
    congr 1
    simp only [List.size_toArray, List.length_take, List.length_drop]
    omega
  rw [e2, List.take_append_drop, ← List.length_append, List.take_append_drop] at h2
  exact h2
/-- .. at the class 'w after some draws'. -/
theorem wp_region_draw_tail {P : Program} {Q : Exit → Act → World → Prop} {id : Nat} {l : List Oper} (n : Nat) (hm : P.follows .mixedOrders = true)
    (hB : Region.lexB .any (l.take n).toArray = true) (hb : tailOkB (l.take n) (l.drop n) = true) {a : Act} {w : World}
    (h : wpQuiet P (l.take n).toArray (fun w' => ∃ n, w' = w.drewN n) (fun a' => ∀ w', (∃ n, w' = w.drewN n) → wpList P l.toArray Q (l.drop n) a' w') (l.take n) a) : (Code.region id l.toArray true).wp P Q a w :=
  wp_region_quiet_tail _ n hm hB hb ⟨1, rfl⟩ h
/-- All but the last operation only read or call quietly in a class of worlds: one walk in the order of the text; then the last one. -/
theorem wp_region_quiet_last {P : Program} {Q : Exit → Act → World → Prop} {id : Nat} {l : List Oper} (C : World → Prop) (n : Nat) (last : Oper) (hl : l = l.take n ++ [last]) (hm : P.follows .mixedOrders = true)
    (hB : Region.lexB .any (l.take n).toArray = true) (hb : regionLastB (l.take n) last = true) {a : Act} {w : World} (hC : C w.drew)
    (h : wpQuiet P (l.take n).toArray C (fun a' => ∀ w', C w' → wpList P l.toArray Q [last] a' w') (l.take n) a) : (Code.region id l.toArray true).wp P Q a w := by
  refine wp_region_last (l.take n) last (by rw [← hl]) hb hm ?_
  simp only [Region.lexB, Bool.and_eq_true] at hB
  have hpost : ∀ a w, wpList P l.toArray Q [last] a w → lastPost P last (l.take n ++ [last]).toArray Q .normal a w := by
    intro a w h
    rw [← hl]
    exact h
  have H := wpAny_of_quiet (P := P) (md := .any) (ops := (l.take n).toArray) (C := C) (Q := fun a' => ∀ w', C w' → wpList P l.toArray Q [last] a' w')
    (Q' := lastPost P last (l.take n ++ [last]).toArray Q) (fun a w hw h => hpost a w (h w hw))
  refine H _ _ _ _ hC ?_
  have := wpAnyQ_lex (P := P) (C := C) (md := .any) hB.1 (l.take n) 0 (Array.replicate (l.take n).toArray.size false) a (by simp) (by simpa using hB.2) h
  simpa using this
/-- .. at the class 'w after some draws'. -/
theorem wp_region_draw_last {P : Program} {Q : Exit → Act → World → Prop} {id : Nat} {l : List Oper} (n : Nat) (last : Oper) (hl : l = l.take n ++ [last]) (hm : P.follows .mixedOrders = true)
    (hB : Region.lexB .any (l.take n).toArray = true) (hb : regionLastB (l.take n) last = true) {a : Act} {w : World}
    (h : wpQuiet P (l.take n).toArray (fun w' => ∃ n, w' = w.drewN n) (fun a' => ∀ w', (∃ n, w' = w.drewN n) → wpList P l.toArray Q [last] a' w') (l.take n) a) : (Code.region id l.toArray true).wp P Q a w :=
  wp_region_quiet_last _ n last hl hm hB hb ⟨1, rfl⟩ h
end
section
open Go.RowKit

/-- The worlds that have grown from this one. -/
def Since (w0 w : World) : Prop := Ext w0 w
theorem Since.ext {w0 w : World} (h : Since w0 w) : Ext w0 w := h
section
variable {P : Program} {C : World → Prop} {o : Oper} {a : Act} {K : Act → Prop}
theorem quiet_run (v : Value) (h : ∀ w, C w → (execOp a.eval o).run P w = .ok (.value v) w) (hk : K (a.put o.dst v)) : o.quiet P a C K :=
  ⟨v, fun w hw => by unfold Oper.quietAt; rw [h w hw]; exact ⟨rfl, rfl⟩, hk⟩
theorem quiet_agg (ty : TypeId) (x : Operand) (ho : o.op = .load ty x) (ad : Addr) (hx : a.eval x = .pointer (some ad)) (cs : List Value) (d : TypeDesc) (hu : P.underlying ty = some d) (hd : isAggD d = true) (hi : (P.info? ty).map (·.size) = some cs.length) (hc : ∀ w, C w → Cells w ad cs) (hk : K (a.put o.dst (.agg cs.toArray))) : o.quiet P a C K :=
  quiet_run _ (fun w hw => by
    unfold execOp
    simp only [ho, hx, Instr.loadAt, Instr.sureAddr, Sem.run_bind, Sem.run_pure, Result.andThen_ok, run_load_agg w ty ad cs d hu hd hi (hc w hw)]) hk
theorem run_load_one {w : World} (ty : TypeId) (ad : Addr) (v : Value) (d : TypeDesc) (hu : P.underlying ty = some d) (hd : isAggD d = false) (hc : w.cell? ad = some v) : (Instr.loadAt ty (.pointer (some ad))).run P w = .ok v w := by
  have hagg : (isAgg ty).run P w = .ok false w := by
    unfold isAgg
    rw [Sem.run_bind, run_underlying hu w]
    cases d <;> simp_all [isAggD]
  simp [Instr.loadAt, Instr.sureAddr, loadVar, Sem.run_bind, hagg, hc]
/-- A load of one cell. -/
theorem quiet_cell (ty : TypeId) (x : Operand) (ho : o.op = .load ty x) (ad : Addr) (hx : a.eval x = .pointer (some ad)) (v : Value) (d : TypeDesc) (hu : P.underlying ty = some d) (hd : isAggD d = false) (hc : ∀ w, C w → w.cell? ad = some v) (hk : K (a.put o.dst v)) : o.quiet P a C K :=
  quiet_run _ (fun w hw => by
    unfold execOp
    simp only [ho, hx, Sem.run_bind, run_load_one ty ad v d hu hd (hc w hw), Sem.run_pure, Result.andThen_ok]) hk
/-- 'string(b)'. -/
theorem quiet_str (src dst : TypeId) (x : Operand) (ho : o.op = .convert src dst x) (e : TypeId) (hs : P.underlying src = some (.slice e)) (he : P.underlying e = some (.int .u8)) (hd : P.underlying dst = some .string)
    (A : Option Addr) (n c : Nat) (bs : List UInt8) (hx : a.eval x = .slice A n c) (hn : bs.length = n) (hsrc : ∀ w, C w → Src w A n (bv bs)) (hk : K (a.put o.dst (.string (strOf bs)))) : o.quiet P a C K := by
  subst hn
  exact quiet_run _ (fun w hw => by
    unfold execOp
    simp only [ho, hx, Sem.run_bind, run_str w src dst e hs he hd A c bs (hsrc w hw), Result.andThen_ok, Sem.run_pure]) hk
/-- A conversion, its run known. -/
theorem quiet_conv (src dst : TypeId) (x : Operand) (ho : o.op = .convert src dst x) (v u : Value) (hx : a.eval x = v) (h : ∀ w, C w → (convert src dst v).run P w = .ok u w) (hk : K (a.put o.dst u)) : o.quiet P a C K :=
  quiet_run _ (fun w hw => by
    unfold execOp
    simp only [ho, hx, Sem.run_bind, h w hw, Result.andThen_ok, Sem.run_pure]) hk
theorem quiet_eqSame (t t' : TypeId) (x y : Operand) (ho : o.op = .binOp .eql t x y t') (e : TypeId) (n : Nat) (ht : P.underlying t = some (.array n e)) (he : P.underlying e = some (.int .u8)) (hi : (P.info? e).map (·.size) = some 1) (hg : P.eqGuardType P.depth t = false)
    (xs : List UInt8) (hx : a.eval x = .agg (bv xs).toArray) (hy : a.eval y = .agg (bv xs).toArray) (hxl : xs.length = n) (hk : K (a.put o.dst (.bool true))) : o.quiet P a C K :=
  quiet_run _ (fun w _ => by
    unfold execOp
    simp only [ho, hx, hy, Sem.run_bind, run_eqGuard w .eql t x y _ _ (.inl rfl) hg, run_eqD w t e n ht he hi xs xs hxl hxl, Result.andThen_ok, Sem.run_pure]
    simp) hk
end
theorem wp_region_since {P : Program} {Q : Exit → Act → World → Prop} {id : Nat} {l : List Oper} {a : Act} {w : World} (hm : P.follows .mixedOrders = true) (hB : Region.lexB .any l.toArray = true)
    (h : wpQuiet P l.toArray (Since w) (fun a' => ∀ w', Since w w' → Q .normal a' w') l a) : (Code.region id l.toArray true).wp P Q a w :=
  wp_region_quiet (C := Since w) hm hB (Ext.refl w).drew (by simpa using h)
end
section
open Go.RowKit

section
variable {P : Program} {md : Region.Mode} {ops : Array Oper} {Q : Exit → Act → World → Prop} {R : World → World → Prop}
/-- Whatever order is picked from here on; each step leads to a later world. -/
def wpAnyM (P : Program) (md : Region.Mode) (ops : Array Oper) (Q : Exit → Act → World → Prop) (R : World → World → Prop) : Nat → Array Bool → Act → World → Prop
  | 0, listed, a, w => Region.ready md ops listed = [] ∧ Q .normal a w
  | fuel + 1, listed, a, w =>
    (Region.ready md ops listed = [] → Q .normal a w) ∧
    ∀ i ∈ Region.ready md ops listed, wpOp P ops Q i (fun a' w' => R w w' ∧ wpAnyM P md ops Q R fuel (listed.setIfInBounds i true) a' w') a w
theorem wpAny_of_mono : ∀ (fuel : Nat) (listed : Array Bool) (a : Act) (w : World), wpAnyM P md ops Q R fuel listed a w → wpAny P md ops Q fuel listed a w
  | 0, _, _, _, h => h
  | fuel + 1, _, _, _, h => ⟨h.1, fun i hi => wpOp_mono (fun a' w' h' => wpAny_of_mono fuel _ a' w' h'.2) (h.2 i hi)⟩
theorem readyM_mono {listed : Array Bool} {i j : Nat} (hj : j ∈ Region.ready md ops listed) (hji : j ≠ i) : j ∈ Region.ready md ops (listed.setIfInBounds i true) := ready_mono hj hji
/-- The later worlds. -/
theorem wpAnyM_first (hrf : ∀ a, R a a) (htr : ∀ a b c, R a b → R b c → R a c) {i : Nat} {oi : Oper} {v : Value} (hi : ops[i]? = some oi) (hsel : ∀ (j : Nat) (o : Oper) cs b, ops[j]? = some o → o.op ≠ .select cs b)
    (hQ : ∀ c a w, Q (.panic c) (a.put oi.dst v) w → Q (.panic c) a w) (S : World → Prop) (hS' : ∀ a b, S a → R a b → S b) :
    ∀ (fuel : Nat) (listed : Array Bool) (a : Act) (w : World),
      (∀ j oj, ops[j]? = some oj → j ≠ i → listed.getD j true = false → (∀ e ∈ oj.after, Region.binds md e = true → e.on ≠ i) → oi.apart ops oj = true) →
      i ∈ Region.ready md ops listed → YieldsIf P ops S oi v a → S w →
      wpAnyM P md ops Q R fuel (listed.setIfInBounds i true) (a.put oi.dst v) w → wpAnyM P md ops Q R (fuel + 1) listed a w := by
  intro fuel
  induction fuel with
  | zero =>
    intro listed a w _ hr hy hS H
    refine ⟨fun h => (by rw [h] at hr; cases hr), fun j hj => ?_⟩
    by_cases hji : j = i
    · subst hji; exact hy.wpOp hi hS ⟨hrf _, H⟩
    · have := readyM_mono hj hji
      rw [H.1] at this
      cases this
  | succ fuel ih =>
    intro listed a w hfree hr hy hS H
    refine ⟨fun h => (by rw [h] at hr; cases hr), fun j hj => ?_⟩
    by_cases hji : j = i
    · subst hji; exact hy.wpOp hi hS ⟨hrf _, H⟩
    · have h1 := H.2 j (readyM_mono hj hji)
      obtain ⟨hjun, oj, hoj, hall⟩ := Go.mem_ready.1 hj
      have hnot : ∀ e ∈ oj.after, Region.binds md e = true → e.on ≠ i := fun e he hb heq => by
        have h1 := hall e he hb
        have h0 := (Go.mem_ready.1 hr).1
        rw [heq] at h1
        rcases Nat.lt_or_ge i listed.size with h' | h'
        · simp [h'] at h0 h1; rw [h0] at h1; cases h1
        · simp [Array.getElem?_eq_none h'] at h1
      have h2 := wpOp_putIf hoj (hfree j oj hoj hji hjun hnot) (fun cs b => hsel i oi cs b hi) (fun cs b => hsel j oj cs b hoj) hQ hy h1
      have hfree' : ∀ k ok, ops[k]? = some ok → k ≠ i → (listed.setIfInBounds j true).getD k true = false →
          (∀ e ∈ ok.after, Region.binds md e = true → e.on ≠ i) → oi.apart ops ok = true := fun k ok hk hki hun hno => by
        refine hfree k ok hk hki ?_ hno
        by_cases hjk : j = k
        · subst hjk; exact hjun
        · rw [getD_set_ne true hjk] at hun; exact hun
      refine wpOp_mono (fun a' w' h3 => ⟨h3.2.1, ih (listed.setIfInBounds j true) a' w' hfree' (readyM_mono hr (Ne.symm hji)) h3.1 (hS' _ _ hS h3.2.1) ?_⟩) h2
      rw [Array.setIfInBounds_comm _ _ hji]
      exact h3.2.2
/-- Number i is taken first: it may come up, and yields one value in every later world. -/
theorem takeM (hrf : ∀ a, R a a) (htr : ∀ a b c, R a b → R b c → R a c) (i : Nat) {oi : Oper} {fuel : Nat} {listed : Array Bool} {a : Act} {w : World} (hi : ops[i]? = some oi)
    (hs : Region.noSelect ops = true) (hf : Region.free md ops listed i = true) (hr : (Region.ready md ops listed).contains i = true)
    (hQ : ∀ v c a w, Q (.panic c) (a.put oi.dst v) w → Q (.panic c) a w) (hw : Region.wanted oi (yielded ops a.tmps) = true)
    (h : ∀ K : Act → Prop, (∀ a', wpAnyM P md ops Q R fuel (listed.setIfInBounds i true) a' w → K a') → ∃ v, (∀ w', R w w' → (execOp a.eval oi).run P w' = .ok (.value v) w') ∧ K (a.put oi.dst v)) : wpAnyM P md ops Q R (fuel + 1) listed a w := by
  obtain ⟨v, h1, h2⟩ := h _ (fun _ h => h)
  exact wpAnyM_first hrf htr hi (Region.noSelect_spec hs) (hQ v) (R w) (fun b c h1 h2 => htr _ _ _ h1 h2) fuel listed a w (Region.free_spec hi hf) (by simpa using hr) (.inl ⟨hw, h1⟩) (hrf w) h2
/-- .. it is passed over: its guard says no. -/
theorem skipM (hrf : ∀ a, R a a) (htr : ∀ a b c, R a b → R b c → R a c) (i : Nat) {oi : Oper} {fuel : Nat} {listed : Array Bool} {a : Act} {w : World} (hi : ops[i]? = some oi)
    (hs : Region.noSelect ops = true) (hf : Region.free md ops listed i = true) (hr : (Region.ready md ops listed).contains i = true)
    (hQ : ∀ v c a w, Q (.panic c) (a.put oi.dst v) w → Q (.panic c) a w) (hw : Region.wanted oi (yielded ops a.tmps) = false)
    (h : wpAnyM P md ops Q R fuel (listed.setIfInBounds i true) (a.put oi.dst undef) w) : wpAnyM P md ops Q R (fuel + 1) listed a w :=
  wpAnyM_first hrf htr hi (Region.noSelect_spec hs) (hQ _) (R w) (fun b c h1 h2 => htr _ _ _ h1 h2) fuel listed a w (Region.free_spec hi hf) (by simpa using hr) (.inr ⟨hw, rfl⟩) (hrf w) h
/-- One comes up alone. -/
theorem op_at {i : Nat} {oi : Oper} (h : (ops.toList.drop i).head? = some oi) : ops[i]? = some oi := by
  rw [List.head?_drop] at h
  simpa using h
theorem stepM (i : Nat) {oi : Oper} {fuel : Nat} {listed : Array Bool} {a : Act} {w : World} (hi : (ops.toList.drop i).head? = some oi) (hr : Region.ready md ops listed = [i]) (hw : Region.wanted oi (yielded ops a.tmps) = true)
    (h : ∀ K : Act → World → Prop, (∀ a' w', R w w' → wpAnyM P md ops Q R fuel (listed.setIfInBounds i true) a' w' → K a' w') → oi.wp P a w K Q) : wpAnyM P md ops Q R (fuel + 1) listed a w := by
  refine ⟨fun h0 => (by rw [hr] at h0; cases h0), fun j hj => ?_⟩
  rw [hr] at hj
  obtain rfl : j = i := by simpa using hj
  refine wpOp_step (op_at hi) (fun K' hK => ?_)
  rw [if_pos hw]
  exact h K' (fun a' w' h1 h2 => hK _ _ ⟨h1, h2⟩)
theorem doneM {listed : Array Bool} {a : Act} {w : World} (hr : Region.ready md ops listed = []) (h : Q .normal a w) : ∀ fuel, wpAnyM P md ops Q R fuel listed a w
  | 0 => ⟨hr, h⟩
  | _ + 1 => ⟨fun _ => h, by rw [hr]; simp⟩
theorem startM {id : Nat} {a : Act} {w : World} (R : World → World → Prop) (hm : P.follows .mixedOrders = true)
    (h : wpAnyM P .any ops Q R ops.size (Array.replicate ops.size false) a w.drew) : (Code.region id ops true).wp P Q a w :=
  wp_region_any hm (wpAny_of_mono _ _ _ _ h)
end
/-! ### Operations that yield a value, and are no call -/
def valB : Op → Bool
  | .move _ | .assign _ | .pick .. | .load .. | .binOp .. | .unOp .. | .convert .. | .slice .. | .fieldAddr .. | .field .. | .indexAddr .. | .index .. | .extract .. | .build .. | .alloc .. | .buildSlice .. => true
  | .call c => match c.callee with
    | .builtin b => match b with
      | .len | .cap | .append => true
      | _ => false
    | _ => false
  | _ => false
theorem val_ok {P : Program} {s : Sem Value} {w w' : World} {n : Next} (h : (do pure (Next.value (← s)) : Sem Next).run P w = .ok n w') : ∃ u, n = .value u := by
  rw [Sem.run_bind] at h
  cases hs : s.run P w with
  | ok u w1 => rw [hs] at h; simp at h; exact ⟨u, h.1.symm⟩
  | halt x w1 => rw [hs] at h; simp [Result.andThen] at h
theorem val_ok2 {P : Program} {α : Type} {s : Sem α} {f : α → Value} {w w' : World} {n : Next} (h : (s >>= fun u => (pure (Next.value (f u)) : Sem Next)).run P w = .ok n w') : ∃ u, n = .value u := by
  rw [Sem.run_bind] at h
  cases hs : s.run P w with
  | ok u w1 => rw [hs] at h; simp at h; exact ⟨_, h.1.symm⟩
  | halt x w1 => rw [hs] at h; simp [Result.andThen] at h
theorem valB_ok {P : Program} {o : Oper} (ho : valB o.op = true) {ρ : Operand → Value} {w w' : World} {n : Next} (h : (execOp ρ o).run P w = .ok n w') : ∃ u, n = .value u := by
  unfold execOp at h
  cases hop : o.op <;> simp only [hop, valB, Bool.false_eq_true] at h ho
  case move x => simp at h; exact ⟨_, h.1.symm⟩
  case assign x => simp at h; exact ⟨_, h.1.symm⟩
  case call c =>
    cases hc : c.callee with
    | value f => rw [hc] at ho; simp at ho
    | invoke r nm => rw [hc] at ho; simp at ho
    | builtin b =>
      rw [hc] at ho
      simp only [resolve, hc, invoke, Sem.run_bind, Sem.run_pure, Result.andThen_ok] at h
      cases b <;> simp only [Bool.false_eq_true] at ho
      all_goals (unfold builtin at h; exact val_ok h)
  case pick c x y => exact val_ok2 (f := fun b => if b = true then ρ x else ρ y) h
  all_goals exact val_ok h
theorem quiet_val {P : Program} {o : Oper} {a : Act} {C : World → Prop} {K : Act → Prop} (ho : valB o.op = true) (h : o.quiet P a C K) : ∃ v, (∀ w', C w' → (execOp a.eval o).run P w' = .ok (.value v) w') ∧ K (a.put o.dst v) := by
  obtain ⟨v, h1, h2⟩ := h
  refine ⟨v, fun w' hw => ?_, h2⟩
  have h3 := h1 w' hw
  unfold Oper.quietAt at h3
  cases hr : (execOp a.eval o).run P w' with
  | ok n w2 =>
    obtain ⟨u, rfl⟩ := valB_ok ho hr
    rw [hr] at h3
    simp only [Oper.quietUpon] at h3
    rw [h3.1, h3.2]
  | halt x w2 => rw [hr] at h3; simp [Oper.quietUpon] at h3
/-! ### At 'nothing that was there has changed' -/
section
variable {P : Program} {md : Region.Mode} {ops : Array Oper} {Q : Exit → Act → World → Prop}
theorem takeE (i : Nat) {oi : Oper} {fuel : Nat} {listed : Array Bool} {a : Act} {w : World} (hi : (ops.toList.drop i).head? = some oi)
    (hs : Region.noSelect ops = true) (hf : Region.free md ops listed i = true) (hr : (Region.ready md ops listed).contains i = true) (hc : valB oi.op = true)
    (hQ : ∀ v c a w, Q (.panic c) (a.put oi.dst v) w → Q (.panic c) a w) (hw : Region.wanted oi (yielded ops a.tmps) = true)
    (h : ∀ K : Act → Prop, (∀ a', wpAnyM P md ops Q Since fuel (listed.setIfInBounds i true) a' w → K a') → oi.quiet P a (Since w) K) : wpAnyM P md ops Q Since (fuel + 1) listed a w :=
  takeM (fun a => Ext.refl a) (fun a b c h1 h2 => Ext.trans h1 h2) i (op_at hi) hs hf hr hQ hw fun K hK => quiet_val hc (h K hK)
theorem skipE (i : Nat) {oi : Oper} {fuel : Nat} {listed : Array Bool} {a : Act} {w : World} (hi : (ops.toList.drop i).head? = some oi)
    (hs : Region.noSelect ops = true) (hf : Region.free md ops listed i = true) (hr : (Region.ready md ops listed).contains i = true)
    (hQ : ∀ v c a w, Q (.panic c) (a.put oi.dst v) w → Q (.panic c) a w) (hw : Region.wanted oi (yielded ops a.tmps) = false)
    (h : wpAnyM P md ops Q Since fuel (listed.setIfInBounds i true) (a.put oi.dst undef) w) : wpAnyM P md ops Q Since (fuel + 1) listed a w :=
  skipM (fun a => Ext.refl a) (fun a b c h1 h2 => Ext.trans h1 h2) i (op_at hi) hs hf hr hQ hw h
end
/-! ### At worlds in which some blocks are as they were -/
def KeepB (B : Nat → Prop) (w w' : World) : Prop := ∀ b, B b → w'.heap[b]? = w.heap[b]?
theorem KeepB.cells {B : Nat → Prop} {w w' : World} (h : KeepB B w w') {ad : Addr} {cs : List Value} (hc : Cells w ad cs) (hb : B ad.block) : Cells w' ad cs := hc.keep (h _ hb)
theorem KeepB.cell {B : Nat → Prop} {w w' : World} (h : KeepB B w w') {ad : Addr} {v : Value} (hc : w.cell? ad = some v) (hb : B ad.block) : w'.cell? ad = some v := (World.cell?_of_block (h _ hb)).trans hc
section
variable {P : Program} {md : Region.Mode} {ops : Array Oper} {Q : Exit → Act → World → Prop} {B : Nat → Prop}
theorem takeK (i : Nat) {oi : Oper} {fuel : Nat} {listed : Array Bool} {a : Act} {w : World} (hi : (ops.toList.drop i).head? = some oi)
    (hs : Region.noSelect ops = true) (hf : Region.free md ops listed i = true) (hr : (Region.ready md ops listed).contains i = true) (hc : valB oi.op = true)
    (hQ : ∀ v c a w, Q (.panic c) (a.put oi.dst v) w → Q (.panic c) a w) (hw : Region.wanted oi (yielded ops a.tmps) = true)
    (h : ∀ K : Act → Prop, (∀ a', wpAnyM P md ops Q (KeepB B) fuel (listed.setIfInBounds i true) a' w → K a') → oi.quiet P a (KeepB B w) K) : wpAnyM P md ops Q (KeepB B) (fuel + 1) listed a w :=
  takeM (fun _ _ _ => rfl) (fun _ _ _ h1 h2 b hb => (h2 b hb).trans (h1 b hb)) i (op_at hi) hs hf hr hQ hw fun K hK => quiet_val hc (h K hK)
theorem skipK (i : Nat) {oi : Oper} {fuel : Nat} {listed : Array Bool} {a : Act} {w : World} (hi : (ops.toList.drop i).head? = some oi)
    (hs : Region.noSelect ops = true) (hf : Region.free md ops listed i = true) (hr : (Region.ready md ops listed).contains i = true)
    (hQ : ∀ v c a w, Q (.panic c) (a.put oi.dst v) w → Q (.panic c) a w) (hw : Region.wanted oi (yielded ops a.tmps) = false)
    (h : wpAnyM P md ops Q (KeepB B) fuel (listed.setIfInBounds i true) (a.put oi.dst undef) w) : wpAnyM P md ops Q (KeepB B) (fuel + 1) listed a w :=
  skipM (fun _ _ _ => rfl) (fun _ _ _ h1 h2 b hb => (h2 b hb).trans (h1 b hb)) i (op_at hi) hs hf hr hQ hw h
theorem wp_store_row {P : Program} {w : World} {o : Oper} {a : Act} {K : Act → World → Prop} {Q : Exit → Act → World → Prop} (ty : TypeId) (p x : Operand) (ho : o.op = .store ty p x)
    (g : Nat) (hp : a.eval p = .pointer (some ⟨g, 0, none⟩)) (old cs : List Value) (t : TypeId) (hx : a.eval x = .agg cs.toArray) (hg : w.heap[g]? = some (.cells old.toArray t (0, 0)))
    (hi : (P.info? ty).map (·.size) = some cs.length) (hl : cs.length = old.length) (h1 : ∀ u ∈ cs, u.oneCell' = true)
    (h : K (a.put o.dst undef) (w.setRow g cs.toArray)) : o.wp P a w K Q := by
  obtain ⟨i, hi', hs⟩ := Option.map_eq_some_iff.1 hi
  unfold Oper.wp execOp
  simp only [ho, hp, hx, Instr.storeAt, Instr.sureAddr, storeVar, sizeOf, typeInfo, Sem.run_bind, run_program, Result.andThen_ok, hi', Sem.run_pure, hs, Value.cells, List.size_toArray, ne_eq, not_true, if_false,
    run_store_row w g t old cs hg hl h1]
  exact h
end
/-! ### At any worlds -/
def Any (_ _ : World) : Prop := True
section
variable {P : Program} {md : Region.Mode} {ops : Array Oper} {Q : Exit → Act → World → Prop}
theorem takeA (i : Nat) {oi : Oper} {fuel : Nat} {listed : Array Bool} {a : Act} {w : World} (hi : (ops.toList.drop i).head? = some oi)
    (hs : Region.noSelect ops = true) (hf : Region.free md ops listed i = true) (hr : (Region.ready md ops listed).contains i = true) (hc : valB oi.op = true)
    (hQ : ∀ v c a w, Q (.panic c) (a.put oi.dst v) w → Q (.panic c) a w) (hw : Region.wanted oi (yielded ops a.tmps) = true)
    (h : ∀ K : Act → Prop, (∀ a', wpAnyM P md ops Q Any fuel (listed.setIfInBounds i true) a' w → K a') → oi.quiet P a (Any w) K) : wpAnyM P md ops Q Any (fuel + 1) listed a w :=
  takeM (fun _ => trivial) (fun _ _ _ _ _ => trivial) i (op_at hi) hs hf hr hQ hw fun K hK => quiet_val hc (h K hK)
theorem skipA (i : Nat) {oi : Oper} {fuel : Nat} {listed : Array Bool} {a : Act} {w : World} (hi : (ops.toList.drop i).head? = some oi)
    (hs : Region.noSelect ops = true) (hf : Region.free md ops listed i = true) (hr : (Region.ready md ops listed).contains i = true)
    (hQ : ∀ v c a w, Q (.panic c) (a.put oi.dst v) w → Q (.panic c) a w) (hw : Region.wanted oi (yielded ops a.tmps) = false)
    (h : wpAnyM P md ops Q Any fuel (listed.setIfInBounds i true) (a.put oi.dst undef) w) : wpAnyM P md ops Q Any (fuel + 1) listed a w :=
  skipM (fun _ => trivial) (fun _ _ _ _ _ => trivial) i (op_at hi) hs hf hr hQ hw h
end
end
section
open Go.RowKit

section
variable {P : Program} {md : Region.Mode} {ops : Array Oper} {Q : Exit → Act → World → Prop} {R : World → World → Prop}
/-- Two may come up. -/
theorem bothM (i k : Nat) {oi ok : Oper} {fuel : Nat} {listed : Array Bool} {a : Act} {w : World} (hi : (ops.toList.drop i).head? = some oi) (hk : (ops.toList.drop k).head? = some ok)
    (hr : Region.ready md ops listed = [i, k]) (hw : Region.wanted oi (yielded ops a.tmps) = true) (hw2 : Region.wanted ok (yielded ops a.tmps) = true)
    (h1 : ∀ K : Act → World → Prop, (∀ a' w', R w w' → wpAnyM P md ops Q R fuel (listed.setIfInBounds i true) a' w' → K a' w') → oi.wp P a w K Q)
    (h2 : ∀ K : Act → World → Prop, (∀ a' w', R w w' → wpAnyM P md ops Q R fuel (listed.setIfInBounds k true) a' w' → K a' w') → ok.wp P a w K Q) : wpAnyM P md ops Q R (fuel + 1) listed a w := by
  refine ⟨fun h0 => (by rw [hr] at h0; cases h0), fun j hj => ?_⟩
  rw [hr] at hj
  rcases List.mem_cons.1 hj with rfl | hj
  · refine wpOp_step (op_at hi) (fun K' hK => ?_)
    rw [if_pos hw]
    exact h1 K' (fun a' w' h1 h2 => hK _ _ ⟨h1, h2⟩)
  · obtain rfl : j = k := by simpa using hj
    refine wpOp_step (op_at hk) (fun K' hK => ?_)
    rw [if_pos hw2]
    exact h2 K' (fun a' w' h1 h2 => hK _ _ ⟨h1, h2⟩)
theorem relist {fuel : Nat} {L L' : Array Bool} {a : Act} {w : World} (h : L = L') (hw : wpAnyM P md ops Q R fuel L' a w) : wpAnyM P md ops Q R fuel L a w := h ▸ hw
theorem wp_alloc_agg {w : World} {o : Oper} {a : Act} {K : Act → World → Prop} (ty : TypeId) (ho : o.op = .alloc ty) (z : List Value)
    (hz : (P.info? ty).bind (fun i => i.zero.map (·.cells)) = some z.toArray)
    (h : K (a.put o.dst (.pointer (some ⟨w.heap.size, 0, none⟩))) (w.alloc (.cells z.toArray ty))) : o.wp P a w K Q := by
  obtain ⟨i, hi, hzz⟩ := Option.bind_eq_some_iff.1 hz
  obtain ⟨zv, hzv, hzc⟩ := Option.map_eq_some_iff.1 hzz
  unfold Oper.wp execOp
  simp only [ho, Instr.alloc, zeroValue, typeInfo, Sem.run_bind, run_program, Result.andThen_ok, hi, Sem.run_pure, hzv, newVar, newRow, hzc, run_newObj, World.alloc_eq]
  exact h
end
/-- One end for several ways. -/
theorem shared2 {Q : Prop} {A : Nat → Value → World → Prop} (J : Nat → Value → World → Prop) (h1 : (∀ g u w, J g u w → A g u w) → Q) (h2 : ∀ g u w, J g u w → A g u w) : Q := h1 h2
theorem shared3 {Q : Prop} {A : Nat → Value → Value → World → Prop} (J : Nat → Value → Value → World → Prop) (h1 : (∀ g u v w, J g u v w → A g u v w) → Q) (h2 : ∀ g u v w, J g u v w → A g u v w) : Q := h1 h2
theorem shared4 {Q : Prop} {A : Nat → Value → Value → Value → World → Prop} (J : Nat → Value → Value → Value → World → Prop) (h1 : (∀ g u v x w, J g u v x w → A g u v x w) → Q) (h2 : ∀ g u v x w, J g u v x w → A g u v x w) : Q := h1 h2
end
section
open Go.RowKit

section
variable {P : Program} {md : Region.Mode} {ops : Array Oper} {Q : Exit → Act → World → Prop} {R : World → World → Prop}
/-- Three may come up. -/
theorem triM (i k l : Nat) {oi ok ol : Oper} {fuel : Nat} {listed : Array Bool} {a : Act} {w : World} (hi : (ops.toList.drop i).head? = some oi) (hk : (ops.toList.drop k).head? = some ok) (hl : (ops.toList.drop l).head? = some ol)
    (hr : Region.ready md ops listed = [i, k, l]) (hw : Region.wanted oi (yielded ops a.tmps) = true) (hw2 : Region.wanted ok (yielded ops a.tmps) = true) (hw3 : Region.wanted ol (yielded ops a.tmps) = true)
    (h1 : ∀ K : Act → World → Prop, (∀ a' w', R w w' → wpAnyM P md ops Q R fuel (listed.setIfInBounds i true) a' w' → K a' w') → oi.wp P a w K Q)
    (h2 : ∀ K : Act → World → Prop, (∀ a' w', R w w' → wpAnyM P md ops Q R fuel (listed.setIfInBounds k true) a' w' → K a' w') → ok.wp P a w K Q)
    (h3 : ∀ K : Act → World → Prop, (∀ a' w', R w w' → wpAnyM P md ops Q R fuel (listed.setIfInBounds l true) a' w' → K a' w') → ol.wp P a w K Q) : wpAnyM P md ops Q R (fuel + 1) listed a w := by
  refine ⟨fun h0 => (by rw [hr] at h0; cases h0), fun j hj => ?_⟩
  rw [hr] at hj
  rcases List.mem_cons.1 hj with rfl | hj
  · refine wpOp_step (op_at hi) (fun K' hK => ?_)
    rw [if_pos hw]
    exact h1 K' (fun a' w' h1 h2 => hK _ _ ⟨h1, h2⟩)
  rcases List.mem_cons.1 hj with rfl | hj
  · refine wpOp_step (op_at hk) (fun K' hK => ?_)
    rw [if_pos hw2]
    exact h2 K' (fun a' w' h1 h2 => hK _ _ ⟨h1, h2⟩)
  · obtain rfl : j = l := by simpa using hj
    refine wpOp_step (op_at hl) (fun K' hK => ?_)
    rw [if_pos hw3]
    exact h3 K' (fun a' w' h1 h2 => hK _ _ ⟨h1, h2⟩)
end
end
section

/-- A number's bytes, the highest first. -/
def be : Nat → Nat → List UInt8
  | 0, _ => []
  | k + 1, n => UInt8.ofNat (n / 256 ^ k) :: be k n
theorem be_length : ∀ (k n : Nat), (be k n).length = k
  | 0, _ => rfl
  | k + 1, n => by simp [be, be_length k n]
/-- The first of them: all but the last j. -/
def beTop (size j n : Nat) : List UInt8 := (be size n).take (size - j)
theorem beTop_length (size j n : Nat) : (beTop size j n).length = size - j := by simp [beTop, be_length]
theorem be_get : ∀ (k n i : Nat), i < k → (be k n)[i]? = some (UInt8.ofNat (n / 256 ^ (k - 1 - i)))
  | 0, _, _, h => by omega
  | k + 1, n, 0, _ => by simp [be]
  | k + 1, n, i + 1, h => by
    rw [be, List.getElem?_cons_succ, be_get k n i (by omega)]
    rw [show k + 1 - 1 - (i + 1) = k - 1 - i by omega]
theorem beTop_step (size j n : Nat) (h0 : 0 < j) (hj : j ≤ size) : beTop size (j - 1) n = beTop size j n ++ [UInt8.ofNat (n / 256 ^ (j - 1))] := by
  unfold beTop
  rw [show size - (j - 1) = (size - j) + 1 by omega, List.take_add_one, be_get size n (size - j) (by omega), show size - 1 - (size - j) = j - 1 by omega]
  rfl
theorem be_byte (n j : Nat) : (n : Int) / 2 ^ (8 * (j - 1)) % 256 = ((UInt8.ofNat (n / 256 ^ (j - 1))).toNat : Int) := by
  rw [UInt8.toNat_ofNat', show (256 : Nat) ^ (j - 1) = 2 ^ (8 * (j - 1)) by rw [Nat.pow_mul], Int.natCast_emod, Int.natCast_ediv, Int.natCast_pow]
  rfl
theorem be_flat (k : Nat) (l : List Nat) : (l.flatMap (be k)).length = k * l.length := by
  induction l with
  | nil => rfl
  | cons a l ih => rw [List.flatMap_cons, List.length_append, ih, be_length, List.length_cons, Nat.mul_add]; omega
theorem flat_step {α β : Type} (f : α → List β) (l : List α) (k : Nat) (h : k < l.length) : (l.take (k + 1)).flatMap f = (l.take k).flatMap f ++ f l[k] := by
  rw [List.take_add_one, List.getElem?_eq_getElem h, Option.toList_some, List.flatMap_append, List.flatMap_singleton]
/-- A blob: how long, then the bytes. -/
def blob (p : List UInt8) : List UInt8 := be 4 p.length ++ p
theorem flat_len_step {α β : Type} (f : α → List β) (l : List α) (k : Nat) (h : k < l.length) : ((l.take k).flatMap f).length + (f l[k]).length ≤ (l.flatMap f).length := by
  have e : l.flatMap f = (l.take (k + 1)).flatMap f ++ (l.drop (k + 1)).flatMap f := by rw [← List.flatMap_append, List.take_append_drop]
  rw [e, flat_step f l k h, List.length_append, List.length_append]
  omega
theorem be_low (size j n : Nat) (h0 : 0 < j) (hj : j ≤ size) : (be size n).drop (j - 1) = UInt8.ofNat (n / 256 ^ (size - j)) :: (be size n).drop j := by
  have hl : j - 1 < (be size n).length := by rw [be_length]; omega
  rw [List.drop_eq_getElem_cons hl, show j - 1 + 1 = j by omega]
  congr 1
  have := be_get size n (j - 1) (by omega)
  rw [List.getElem?_eq_getElem hl] at this
  rw [Option.some.inj this, show size - 1 - (j - 1) = size - j by omega]
/-- A row that is filled from its end. -/
def beFill (size j n : Nat) : List UInt8 := List.replicate j 0 ++ (be size n).drop j
theorem beFill_length (size j n : Nat) (hj : j ≤ size) : (beFill size j n).length = size := by simp [beFill, be_length]; omega
theorem beFill_step (size j n : Nat) (h0 : 0 < j) (hj : j ≤ size) : (beFill size j n).set (j - 1) (UInt8.ofNat (n / 256 ^ (size - j))) = beFill size (j - 1) n := by
  unfold beFill
  rw [be_low size j n h0 hj]
  obtain ⟨k, rfl⟩ : ∃ k, j = k + 1 := ⟨j - 1, by omega⟩
  rw [List.replicate_succ', List.append_assoc, Nat.add_sub_cancel, List.set_append_right _ _ (by simp)]
  simp
theorem be_rest (n size j : Nat) (h0 : 0 < j) (hj : j ≤ size) : n / 256 ^ (size - j) / 256 = n / 256 ^ (size - (j - 1)) := by
  rw [Nat.div_div_eq_div_mul, show size - (j - 1) = size - j + 1 by omega, Nat.pow_succ]
theorem be_mod4 (n : Nat) : be 4 (n % 4294967296) = be 4 n := by
  have e : ∀ k, k < 4 → UInt8.ofNat (n % 4294967296 / 256 ^ k) = UInt8.ofNat (n / 256 ^ k) := by
    intro k hk
    apply UInt8.toNat_inj.1
    rw [UInt8.toNat_ofNat', UInt8.toNat_ofNat']
    match k, hk with
    | 0, _ => omega
    | 1, _ => omega
    | 2, _ => omega
    | 3, _ => omega
  simp only [be, e 3 (by omega), e 2 (by omega), e 1 (by omega), e 0 (by omega)]
/-- The number that bytes are. -/
def beNum (bs : List UInt8) : Nat := bs.foldl (fun n b => n * 256 + b.toNat) 0
theorem beNum_snoc (bs : List UInt8) (b : UInt8) : beNum (bs ++ [b]) = beNum bs * 256 + b.toNat := by simp [beNum, List.foldl_append]
theorem beNum_lt_aux : ∀ (n : Nat) (bs : List UInt8), bs.length = n → beNum bs < 256 ^ n
  | 0, bs, h => by obtain rfl := List.eq_nil_of_length_eq_zero h; simp [beNum]
  | n + 1, bs, h => by
    have hne : bs ≠ [] := by rintro rfl; simp at h
    have hl : bs.dropLast.length = n := by simp [h]
    have ih := beNum_lt_aux n bs.dropLast hl
    have e := List.dropLast_concat_getLast hne
    rw [← e, beNum_snoc, Nat.pow_succ]
    have := (bs.getLast hne).toNat_lt
    omega
theorem beNum_lt (bs : List UInt8) : beNum bs < 256 ^ bs.length := beNum_lt_aux _ bs rfl
theorem beNum_step (bs : List UInt8) (k : Nat) (h : k < bs.length) : beNum (bs.take (k + 1)) = beNum (bs.take k) * 256 + bs[k].toNat := by
  rw [List.take_add_one, List.getElem?_eq_getElem h, Option.toList_some, beNum_snoc]
end
section
open Go.RowKit

theorem u8_info : (Try.prog.info? 5).map (fun i => (i.zero, i.size, i.bytes)) = some (some (.int .u8 0), 1, 1) := by kernel_rfl
def OwnB (w : World) (v : Value) (bs : List UInt8) : Prop := Own w 5 1 v bs.length (bv bs)
theorem OwnB.ext {w w' : World} {v : Value} {bs : List UInt8} (h : OwnB w v bs) (hg : Ext w w') : OwnB w' v bs := Own.ext h hg
theorem OwnB.keep {w w' : World} {v : Value} {bs : List UInt8} {row : Option Nat} (h : OwnB w v bs) (hg : w.grownBy w' row) (hne : v.ownBlock = none ∨ v.ownBlock ≠ row) : OwnB w' v bs := Own.keep h hg hne
theorem OwnB.snoc {w : World} {v : Value} {bs : List UInt8} {x : Int} {b : UInt8} (h : Own w 5 1 v (bs.length + 1) (bv bs ++ [.int .u8 x])) (hx : x = b.toNat) : OwnB w v (bs ++ [b]) := by
  subst hx
  unfold OwnB
  rw [bv_append, List.length_append]
  exact h
/-- What is read of a byte slice. -/
theorem src_bytes {w : World} {F : Fp} {A : Option Addr} {c : Nat} {l : List UInt8} (h : (Ty.sl .u8).holds w F [.slice A l.length c] l) : Src w A l.length (bv l) := by
  obtain ⟨A', c', xs, hv, _, _, _, hcell, hall⟩ := h
  cases hv
  intro hn
  obtain ⟨ad, rfl, _, hc⟩ := hcell (by rintro rfl; simp at hn)
  exact ⟨ad, rfl, by rw [← AllH.bytes.1 hall]; exact hc⟩
theorem OwnB.app {w : World} {v : Value} {a b : List UInt8} (h : Own w 5 1 v (a.length + b.length) (bv a ++ bv b)) : OwnB w v (a ++ b) := by
  unfold OwnB; rw [bv_append, List.length_append]; exact h
theorem src_new (w : World) (cs : List Value) (t : TypeId) (m : Nat) : Src (w.alloc (.cells cs.toArray t)) (some ⟨w.heap.size, 0, none⟩) m cs :=
  fun _ => ⟨_, rfl, by have := Cells.of_block (heap_alloc_new w (.cells cs.toArray t)); simpa using this⟩
theorem one_nat {w : World} {F : Fp} {q : IntKind} {n : Nat} (hw : (Lit.int q (n : Int)).wf = true) : AllH ((Ty.nat q).holds w F) [.int q (n : Int)] [n] := AllH.one (R := (Ty.nat q).holds w F) ⟨rfl, hw⟩
theorem OwnB.form {w : World} {v : Value} {bs : List UInt8} (h : OwnB w v bs) : ∃ A c, v = .slice A bs.length c := by
  rcases h.2 with ⟨rfl, h0⟩ | ⟨g, cap, cur, rfl, _⟩
  · exact ⟨none, 0, by rw [h0]⟩
  · exact ⟨_, _, rfl⟩
theorem OwnB.src {w : World} {A : Option Addr} {c : Nat} {bs : List UInt8} (h : OwnB w (.slice A bs.length c) bs) : Src w A bs.length (bv bs) := by
  intro hn
  rcases h.2 with ⟨hv, h0⟩ | ⟨g, cap, cur, hv, _⟩
  · omega
  · cases hv
    exact ⟨_, rfl, World.ownsRow.cells h rfl⟩
theorem OwnB.holds {w : World} {v : Value} {bs : List UInt8} (h : OwnB w v bs) : (Ty.sl .u8).holds w (fun b => v.ownBlock = some b) [v] bs := by
  have hl := h.1
  rcases h.2 with ⟨rfl, h0⟩ | ⟨g, cap, cur, rfl, _, hg, hnc, hcm, _, _⟩
  · obtain rfl : bs = [] := List.eq_nil_of_length_eq_zero h0
    exact ⟨none, 0, [], rfl, by simp, by simp [maxLen], fun _ => rfl, fun h => absurd rfl h, rfl⟩
  · refine ⟨_, cap, bv bs, rfl, hnc, hcm, by simp, fun _ => ⟨_, rfl, rfl, World.ownsRow.cells h rfl⟩, AllH.bytes.2 rfl⟩
theorem OwnB.lt {w : World} {v : Value} {bs : List UInt8} (h : OwnB w v bs) : ∀ g, v.ownBlock = some g → g < w.heap.size := fun g hg => (World.ownsRow.lt h g hg).2
theorem OwnB.new {w : World} {v : Value} {bs : List UInt8} (h : OwnB w v bs) (o : Obj) : ∀ b, b = w.heap.size → b < (w.alloc o).heap.size ∧ v.ownBlock ≠ some b := by
  rintro b rfl
  exact ⟨by simp, fun e => by have := h.lt _ e; omega⟩
/-- Two rows that aren't one. -/
def Apart (u v : Value) : Prop := ∀ g, u.ownBlock = some g → v.ownBlock ≠ some g
theorem Apart.nil (v : Value) : Apart (.slice none 0 0) v := fun g e => by simp [Value.ownBlock] at e
theorem Apart.symm {u v : Value} (h : Apart u v) : Apart v u := fun g e k => h g k e
theorem Apart.moved {w w' : World} {v v' u : Value} (h : Apart v u) (hm : Moved w w' v v') (hu : ∀ g, u.ownBlock = some g → g < w.heap.size) : Apart v' u := by
  intro g e k
  rcases hm.at_ with e' | hn
  · exact h g (e'.symm.trans e) k
  · have := hn g e; have := hu g k; omega
theorem OwnB.moved {w w' : World} {u v v' : Value} {bs : List UInt8} (h : OwnB w u bs) (hm : Moved w w' v v') (ha : Apart v u) : OwnB w' u bs := by
  refine h.keep hm.grown ?_
  cases hu : u.ownBlock with
  | none => exact .inl rfl
  | some g => exact .inr fun e => ha g e.symm hu
theorem Moved.keepF {w w' w1 : World} {v : Value} (h : Fresh w w' v) (hx : Ext w w1) : Fresh w w1 v := ⟨hx.any _, h.at_⟩
theorem Moved.farF {w w' : World} {v : Value} {F : Fp} (h : Fresh w w' v) (hF : ∀ b, F b → b < w.heap.size) : Far F w' v := fun b hb => ⟨Nat.lt_of_lt_of_le (hF b hb) h.grown.size, fun e => by have := Fresh.new h b e; have := hF b hb; omega⟩
/-- A block that is known whole. -/
def Blk (w : World) (g : Nat) (t : TypeId) (cs : List Value) : Prop := w.heap[g]? = some (.cells cs.toArray t (0, 0))
theorem Blk.lt {w : World} {g : Nat} {t : TypeId} {cs : List Value} (h : Blk w g t cs) : g < w.heap.size := (Array.getElem?_eq_some_iff.1 h).1
theorem Blk.cell {w : World} {g : Nat} {t : TypeId} {cs : List Value} (h : Blk w g t cs) (i : Nat) : w.cell? ⟨g, i, none⟩ = cs[i]? := by rw [cell_of_row w g i cs.toArray t (0, 0) h]; simp
theorem Blk.free {w : World} {g : Nat} {t : TypeId} {cs : List Value} (h : Blk w g t cs) (i : Nat) : w.frozen? ⟨g, i, none⟩ = false := frozen_of_row w g i cs.toArray t h
theorem Blk.new (w : World) (t : TypeId) (cs : List Value) : Blk (w.alloc (.cells cs.toArray t)) w.heap.size t cs := heap_alloc_new w _
theorem Blk.set {w : World} {g : Nat} {t : TypeId} {cs : List Value} (h : Blk w g t cs) (i : Nat) (u : Value) : Blk (w.setCell ⟨g, i, none⟩ u) g t (cs.set i u) := by
  have := heap_setCell_same w g i cs.toArray t u h
  unfold Blk; rw [this]; simp
theorem Blk.keep {w w' : World} {g : Nat} {t : TypeId} {cs : List Value} {row : Option Nat} (h : Blk w g t cs) (hg : w.grownBy w' row) (hne : some g ≠ row) : Blk w' g t cs := (hg.block g h.lt hne).trans h
theorem Blk.cells {w : World} {g : Nat} {t : TypeId} {cs : List Value} (h : Blk w g t cs) : Cells w ⟨g, 0, none⟩ cs := by have := Cells.of_block h; simpa using this
theorem only_set {w : World} {g : Nat} (i : Nat) (u : Value) : w.grownBy (w.setCell ⟨g, i, none⟩ u) (some g) :=
  ⟨rfl, rfl, rfl, by simp, fun k _ hk => heap_setCell_other w ⟨g, i, none⟩ k u (fun e => hk (by rw [e]))⟩
theorem fresh_empty (w : World) (e : TypeId) : Fresh w (w.alloc (.cells #[] e)) (.slice (some ⟨w.heap.size, 0, none⟩) 0 0) :=
  ⟨((Ext.refl w).alloc _).any _, .inr (by rintro g ⟨⟩; exact Nat.le_refl _)⟩
theorem own_src {w : World} {e : TypeId} {size : Nat} {A : Option Addr} {n c : Nat} {xs : List Value} (h : Own w e size (.slice A n c) n xs) : Src w A n xs := by
  intro hn
  rcases h.2 with ⟨hv, h0⟩ | ⟨g, cap, cur, hv, _⟩
  · omega
  · cases hv
    exact ⟨_, rfl, World.ownsRow.cells h rfl⟩

theorem bv_set (bs : List UInt8) (i : Nat) (b : UInt8) : bv (bs.set i b) = (bv bs).set i (.int .u8 (b.toNat : Int)) := by simp [bv]
theorem bv_ne (bs : List UInt8) : bs.length ≠ 0 → bv bs ≠ [] := by rintro h e; apply h; have := congrArg List.length e; simpa using this
theorem Src.alloc {w : World} {A : Option Addr} {m : Nat} {news : List Value} (h : Src w A m news) (hn : m ≠ 0 → news ≠ []) (o : Obj) : Src (w.alloc o) A m news := fun hm => by
  obtain ⟨ad, e, hc⟩ := h hm
  exact ⟨ad, e, hc.keep (Below.heap_alloc w o _ (hc.lt (hn hm)))⟩
end
section
open Go.RowKit

/-- v is a list of byte slices in memory of its own, from block B0 on; beside it another list, a. -/
def LAt (W : World) (B0 : Nat) (v : Value) (L : List (List UInt8)) (a : Value) : Prop :=
  ∃ (xs : List Value) (G : Fp), Own W 55 1 v L.length xs ∧ AllH ((Ty.sl .u8).holds W G) xs L ∧ (∀ b, G b → B0 ≤ b ∧ b < W.heap.size ∧ v.ownBlock ≠ some b ∧ a.ownBlock ≠ some b) ∧ (∀ b, v.ownBlock = some b → B0 ≤ b) ∧ Apart v a
theorem LAt.nil (W : World) (B0 : Nat) (a : Value) : LAt W B0 (.slice none 0 0) [] a :=
  ⟨[], fun _ => False, Own.nil _ _ _, rfl, fun _ h => h.elim, by simp [Value.ownBlock], Apart.nil _⟩
theorem LAt.form {W : World} {B0 : Nat} {v : Value} {L : List (List UInt8)} {a : Value} (h : LAt W B0 v L a) : ∃ A c, v = .slice A L.length c := by
  obtain ⟨xs, G, h1, _⟩ := h; exact h1.form
theorem LAt.ext {W W' : World} {B0 : Nat} {v : Value} {L : List (List UInt8)} {a : Value} (h : LAt W B0 v L a) (hx : Ext W W') : LAt W' B0 v L a := by
  obtain ⟨xs, G, h1, h2, h3, h4, h5⟩ := h
  exact ⟨xs, G, h1.ext hx, AllH.mono (fun c t _ hh => Ty.keep (t := .sl .u8) (fun b hb => hx.block b (h3 b hb).2.1 (by simp)) (fun _ h => h) hh) h2, fun b hb => ⟨(h3 b hb).1, Nat.lt_of_lt_of_le (h3 b hb).2.1 hx.size, (h3 b hb).2.2⟩, h4, h5⟩
/-- The list beside it is appended to. -/
theorem LAt.all {W W' : World} {B0 : Nat} {v : Value} {L : List (List UInt8)} {a a' : Value} (h : LAt W B0 v L a) (hm : Moved W W' a a') : LAt W' B0 v L a' := by
  obtain ⟨xs, G, h1, h2, h3, h4, h5⟩ := h
  have hvl := fun b e => (World.ownsRow.lt h1 b e).2
  refine ⟨xs, G, h1.keep hm.grown ?_, AllH.mono (fun c t _ hh => Ty.keep (t := .sl .u8) (fun b hb => hm.grown.block b (h3 b hb).2.1 (fun e => (h3 b hb).2.2.2 e.symm)) (fun _ h => h) hh) h2, fun b hb => ⟨(h3 b hb).1, Nat.lt_of_lt_of_le (h3 b hb).2.1 hm.grown.size, (h3 b hb).2.2.1, fun e => ?_⟩, h4, fun b e k => ?_⟩
  · cases e : v.ownBlock with
    | none => exact .inl rfl
    | some b => exact .inr fun e2 => h5 b e e2.symm
  · rcases hm.at_ with e2 | hn
    · exact (h3 b hb).2.2.2 (e2.symm.trans e)
    · have := hn b e; have := (h3 b hb).2.1; omega
  · rcases hm.at_ with e2 | hn
    · exact h5 b e (e2.symm.trans k)
    · have := hn b k; have := hvl b e; omega
/-- One slice more. -/
theorem LAt.snoc {W W' : World} {B0 : Nat} {v v' u : Value} {L : List (List UInt8)} {t : List UInt8} {a : Value} {xs : List Value} {G : Fp} (h2 : AllH ((Ty.sl .u8).holds W G) xs L) (h3 : ∀ b, G b → B0 ≤ b ∧ b < W.heap.size ∧ v.ownBlock ≠ some b ∧ a.ownBlock ≠ some b) (h4 : ∀ b, v.ownBlock = some b → B0 ≤ b) (h5 : Apart v a)
    (hal : ∀ b, a.ownBlock = some b → b < W.heap.size) (hB : B0 ≤ W.heap.size) (ho : Own W' 55 1 v' (L.length + 1) (xs ++ [u])) (hm : Moved W W' v v')
    (hu : (Ty.sl .u8).holds W (fun b => u.ownBlock = some b) [u] t) (hub : ∀ b, u.ownBlock = some b → B0 ≤ b ∧ b < W.heap.size ∧ v.ownBlock ≠ some b ∧ a.ownBlock ≠ some b) : LAt W' B0 v' (L ++ [t]) a := by
  have hg : ∀ b, (B0 ≤ b ∧ b < W.heap.size ∧ v.ownBlock ≠ some b ∧ a.ownBlock ≠ some b) → W'.heap[b]? = W.heap[b]? := fun b hb => hm.grown.block b hb.2.1 (fun e => hb.2.2.1 e.symm)
  refine ⟨xs ++ [u], fun b => G b ∨ u.ownBlock = some b, by simpa using ho, AllH.append (AllH.mono (fun c t _ hh => Ty.keep (t := .sl .u8) (fun b hb => hg b (h3 b hb)) (fun _ h => .inl h) hh) h2)
    (AllH.one (R := (Ty.sl .u8).holds _ _) (Ty.keep (t := .sl .u8) (fun b hb => hg b (hub b hb)) (fun _ h => .inr h) hu)), fun b hb => ?_, fun b e => ?_, fun b e k => ?_⟩
  · have hb' : B0 ≤ b ∧ b < W.heap.size ∧ v.ownBlock ≠ some b ∧ a.ownBlock ≠ some b := hb.elim (h3 b) (hub b)
    refine ⟨hb'.1, Nat.lt_of_lt_of_le hb'.2.1 hm.grown.size, fun e => ?_, hb'.2.2.2⟩
    rcases hm.at_ with e2 | hn
    · exact hb'.2.2.1 (e2.symm.trans e)
    · have := hn b e; omega
  · rcases hm.at_ with e2 | hn
    · exact h4 b (e2.symm.trans e)
    · have := hn b e; omega
  · rcases hm.at_ with e2 | hn
    · exact h5 b (e2.symm.trans e) k
    · have := hn b e; have := hal b k; omega
theorem LAt.weak {W : World} {B B0 : Nat} {v : Value} {L : List (List UInt8)} {a : Value} (h : LAt W B0 v L a) (hb : B ≤ B0) : LAt W B v L (.slice none 0 0) := by
  obtain ⟨xs, G, h1, h2, h3, h4, h5⟩ := h
  exact ⟨xs, G, h1, h2, fun b hG => ⟨Nat.le_trans hb (h3 b hG).1, (h3 b hG).2.1, (h3 b hG).2.2.1, by simp [Value.ownBlock]⟩, fun b e => Nat.le_trans hb (h4 b e), fun b e k => by simp [Value.ownBlock] at k⟩
/-- Two new variables, made in whatever order. -/
structure TN (w0 : World) (T : TypeId) (Z : List Value) (a b : Option Value) (W : World) : Prop where
  ext : Ext w0 W
  pa : ∀ x, a = some x → ∃ g, x = .pointer (some ⟨g, 0, none⟩) ∧ Blk W g T Z ∧ w0.heap.size ≤ g
  pb : ∀ x, b = some x → ∃ g, x = .pointer (some ⟨g, 0, none⟩) ∧ Blk W g T Z ∧ w0.heap.size ≤ g
  ne : ∀ x y, a = some x → b = some y → x ≠ y
section
variable {w0 W W' : World} {T : TypeId} {Z : List Value} {a b : Option Value} {P : Program} {o : Oper} {a0 : Act} {K : Act → World → Prop} {Q : Exit → Act → World → Prop} {B : Nat → Prop}
theorem TN.start (w0 : World) (T : TypeId) (Z : List Value) : TN w0 T Z none none w0 := ⟨Ext.refl _, fun _ h => (by cases h), fun _ h => (by cases h), fun _ _ h => (by cases h)⟩
theorem TN.step (h : TN w0 T Z a b W) (hx : Ext W W') : TN w0 T Z a b W' :=
  ⟨h.ext.trans hx, fun x e => (let ⟨g, e1, e2, e3⟩ := h.pa x e; ⟨g, e1, e2.keep hx (by simp), e3⟩), fun x e => (let ⟨g, e1, e2, e3⟩ := h.pb x e; ⟨g, e1, e2.keep hx (by simp), e3⟩), h.ne⟩
theorem TN.swap (h : TN w0 T Z a b W) : TN w0 T Z b a W := ⟨h.ext, h.pb, h.pa, fun x y e1 e2 e => h.ne y x e2 e1 e.symm⟩
theorem TN.new (h : TN w0 T Z none b W) : TN w0 T Z (some (.pointer (some ⟨W.heap.size, 0, none⟩))) b (W.alloc (.cells Z.toArray T)) := by
  have hx : Ext W (W.alloc (.cells Z.toArray T)) := (Ext.refl W).alloc _
  refine ⟨h.ext.trans hx, fun x e => (by cases e; exact ⟨_, rfl, Blk.new W T Z, h.ext.size⟩), fun x e => (let ⟨g, e1, e2, e3⟩ := h.pb x e; ⟨g, e1, e2.keep hx (by simp), e3⟩), fun x y e1 e2 e => ?_⟩
  cases e1
  obtain ⟨g, rfl, hg, _⟩ := h.pb y e2
  cases e
  have := hg.lt
  omega
theorem wp_tn_a (h : TN w0 T Z none b W) (hB : ∀ g, B g → g < w0.heap.size) (ho : o.op = .alloc T) (hz : (P.info? T).bind (fun i => i.zero.map (·.cells)) = some Z.toArray) (hk : ∀ x W', TN w0 T Z (some x) b W' → KeepB B W W' → K (a0.put o.dst x) W') : o.wp P a0 W K Q :=
  wp_alloc_agg T ho Z hz (hk _ _ h.new (fun g hg => Below.heap_alloc _ _ _ (Nat.lt_of_lt_of_le (hB g hg) h.ext.size)))
theorem wp_tn_b (h : TN w0 T Z a none W) (hB : ∀ g, B g → g < w0.heap.size) (ho : o.op = .alloc T) (hz : (P.info? T).bind (fun i => i.zero.map (·.cells)) = some Z.toArray) (hk : ∀ x W', TN w0 T Z a (some x) W' → KeepB B W W' → K (a0.put o.dst x) W') : o.wp P a0 W K Q :=
  wp_tn_a h.swap hB ho hz fun x W' h1 h2 => hk x W' h1.swap h2
theorem KeepB.of_ext (hB : ∀ g, B g → g < w0.heap.size) (h : Ext w0 W) (hx : Ext W W') : KeepB B W W' := fun g hg => hx.block g (Nat.lt_of_lt_of_le (hB g hg) h.size) (by simp)
end
theorem sharedN {Q : Prop} {A : Value → Value → World → Prop} (J : Value → Value → World → Prop) (h1 : (∀ a b w, J a b w → A a b w) → Q) (h2 : ∀ a b w, J a b w → A a b w) : Q := h1 h2
end
section
open Go.RowKit

/-- Is it the operation that fills this slot? (Ahead of an arm, 'with_reducible'.) -/
theorem wpDst {P : Program} {w : World} {ops : Array Oper} {rest : List Oper} {o : Oper} {a : Act} {Q : Exit → Act → World → Prop} (n : Nat) (_ : o.dst = some n) (h : wpList P ops Q (o :: rest) a w) : wpList P ops Q (o :: rest) a w := h
/-- Is it the store of this slot at that one? -/
theorem wpSto {P : Program} {w : World} {ops : Array Oper} {rest : List Oper} {o : Oper} {a : Act} {Q : Exit → Act → World → Prop} {ty : TypeId} (p x : Nat) (_ : o.op = .store ty (.tmp p) (.tmp x)) (h : wpList P ops Q (o :: rest) a w) : wpList P ops Q (o :: rest) a w := h
/-- A load of a whole struct or array, named by the slot that it fills. -/
theorem wpList_loadD {P : Program} {w : World} {ops : Array Oper} {rest : List Oper} {o : Oper} {a : Act} {Q : Exit → Act → World → Prop} (dst : Nat) (hdst : o.dst = some dst) (hgd : o.guard = none) (ty : TypeId) (x : Operand) (ho : o.op = .load ty x)
    (ad : Addr) (hx : a.eval x = .pointer (some ad)) (cs : List Value) (d : TypeDesc) (hu : P.underlying ty = some d) (hd : isAggD d = true) (hi : (P.info? ty).map (·.size) = some cs.length) (hc : Cells w ad cs)
    (h : wpList P ops Q rest (a.put o.dst (.agg cs.toArray)) w) : wpList P ops Q (o :: rest) a w := wpList_load_agg w hgd ty x ho ad hx cs d hu hd hi hc h
/-- A store into the variable that was made last. -/
theorem wpList_storeN {P : Program} {w : World} {ops : Array Oper} {rest : List Oper} {o : Oper} {a : Act} {Q : Exit → Act → World → Prop} (hgd : o.guard = none) (ty : TypeId) (p x : Operand) (ho : o.op = .store ty p x)
    (w0 : World) (hp : a.eval p = .pointer (some ⟨w0.heap.size, 0, none⟩)) (old cs : List Value) (t : TypeId) (hw : w = w0.alloc (.cells old.toArray t)) (hx : a.eval x = .agg cs.toArray)
    (hi : (P.info? ty).map (·.size) = some cs.length) (hl : cs.length = old.length) (h1 : ∀ u ∈ cs, u.oneCell' = true)
    (h : wpList P ops Q rest (a.put o.dst undef) (w0.alloc (.cells cs.toArray t))) : wpList P ops Q (o :: rest) a w := by
  subst hw
  refine wpList_store_row _ hgd ty p x ho w0.heap.size hp old cs t hx (heap_alloc_new w0 _) hi hl h1 ?_
  rw [setRow_new w0 (.cells old.toArray t) old.toArray cs.toArray t rfl]
  exact h
end
section

/-- A word turned to the right. -/
def rotr (x n : Nat) : Nat := x / 2 ^ n + x % 2 ^ n * 2 ^ (32 - n)
def threeM (x a b c : Nat) (falls : Bool) : Nat := rotr x a ^^^ rotr x b ^^^ (if falls then x / 2 ^ c else rotr x c)
def pickM (e f g : Nat) : Nat := g ^^^ (e &&& (f ^^^ g))
def mostM (a b c : Nat) : Nat := (a &&& b) ||| (c &&& (a ||| b))

def firstK : List Nat := [1779033703, 3144134277, 1013904242, 2773480762, 1359893119, 2600822924, 528734635, 1541459225]
def stirK : List Nat := [
  1116352408, 1899447441, 3049323471, 3921009573, 961987163, 1508970993, 2453635748, 2870763221,
  3624381080, 310598401, 607225278, 1426881987, 1925078388, 2162078206, 2614888103, 3248222580,
  3835390401, 4022224774, 264347078, 604807628, 770255983, 1249150122, 1555081692, 1996064986,
  2554220882, 2821834349, 2952996808, 3210313671, 3336571891, 3584528711, 113926993, 338241895,
  666307205, 773529912, 1294757372, 1396182291, 1695183700, 1986661051, 2177026350, 2456956037,
  2730485921, 2820302411, 3259730800, 3345764771, 3516065817, 3600352804, 4094571909, 275423344,
  430227734, 506948616, 659060556, 883997877, 958139571, 1322822218, 1537002063, 1747873779,
  1955562222, 2024104815, 2227730452, 2361852424, 2428436474, 2756734187, 3204031479, 3329325298]

/-- One word more. -/
def wordMix (a b c d : Nat) : Nat := (a + threeM b 7 18 3 true + c + threeM d 17 19 10 true) % 4294967296
def wordNext (w : List Nat) (i : Nat) : Nat := wordMix (w.getD i 0) (w.getD (i + 1) 0) (w.getD (i + 9) 0) (w.getD (i + 14) 0)
/-- The first 16 + n words. -/
def sched (b : List Nat) : Nat → List Nat
  | 0 => b
  | n + 1 => sched b n ++ [wordNext (sched b n) n]
def roundM (s : List Nat) (k w : Nat) : List Nat :=
  match s with
  | [a, b, c, d, e, f, g, h] => [(h + threeM e 6 11 25 false + pickM e f g + k + w + threeM a 2 13 22 false + mostM a b c) % 4294967296, a, b, c, (d + (h + threeM e 6 11 25 false + pickM e f g + k + w)) % 4294967296, e, f, g]
  | _ => s
/-- The words behind the first n rounds. -/
def rounds (s : List Nat) (w : List Nat) : Nat → List Nat
  | 0 => s
  | n + 1 => roundM (rounds s w n) (stirK.getD n 0) (w.getD n 0)
def words (b : List UInt8) (n : Nat) : List Nat := (List.range n).map fun i => beNum ((b.drop (4 * i)).take 4)
def block (s : List Nat) (b : List UInt8) : List Nat := List.zipWith (fun x y => (x + y) % 4294967296) s (rounds s (sched (words b 16) 48) 64)
/-- The words behind the first n blocks. -/
def blocks (b : List UInt8) : Nat → List Nat
  | 0 => firstK
  | n + 1 => block (blocks b n) ((b.drop (64 * n)).take 64)
/-- What fills up the last block but for the length. -/
def fill (n : Nat) : List UInt8 := 128 :: List.replicate (63 - (n + 8) % 64) 0
def padded (b : List UInt8) : List UInt8 := b ++ fill b.length ++ be 8 (b.length * 8)
def sha (b : List UInt8) : List UInt8 := (blocks (padded b) ((padded b).length / 64)).flatMap (be 4)
end
end Go.Proofs.Ytfoomnibfibfnaa

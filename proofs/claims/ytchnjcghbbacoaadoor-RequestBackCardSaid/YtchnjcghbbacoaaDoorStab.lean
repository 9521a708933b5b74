/- A drawn region in which memory is made in any order: each operation has what its value says, stable in all later worlds; one obligation for each operation. The last one may write. No condition but what each names. -/
import Derived.Test.YtchnjcghbbacoaaDoorMono
import Derived.Test.YtchnjcghbbacoaaDoorByt
set_option linter.unusedVariables false
set_option linter.unusedSimpArgs false
set_option linter.unnecessarySimpa false
namespace Go.Proofs.YtchnjcghbbacoaaDoor
open Go.RowKit

theorem count_lt {p q : Nat → Bool} {i : Nat} (hpi : p i = true) (hqi : q i = false) (hle : ∀ j, q j = true → p j = true) : ∀ {l : List Nat}, i ∈ l → (l.filter q).length < (l.filter p).length
  | [], h => by cases h
  | a :: l, h => by
    have mono : ∀ l : List Nat, (l.filter q).length ≤ (l.filter p).length := by
      intro l
      induction l with
      | nil => simp
      | cons b l ih =>
        by_cases hb : q b = true
        · simp [List.filter_cons, hb, hle b hb, ih]
        · have hb' : q b = false := by simpa using hb
          by_cases hp : p b = true
          · simp [List.filter_cons, hb', hp]; omega
          · simp [List.filter_cons, hb', hp, ih]
    rcases List.mem_cons.1 h with rfl | h'
    · have := mono l
      simp [List.filter_cons, hpi, hqi]; omega
    · have ih := count_lt hpi hqi hle h'
      by_cases hb : q a = true
      · simp [List.filter_cons, hb, hle a hb, ih]
      · have hb' : q a = false := by simpa using hb
        by_cases hp : p a = true
        · simp [List.filter_cons, hb', hp]; omega
        · simp [List.filter_cons, hb', hp, ih]
/-- A value more. -/
def upd (s : Nat → Value) (i : Nat) (v : Value) : Nat → Value := fun k => if k = i then v else s k
theorem upd_self (s : Nat → Value) (i : Nat) (v : Value) : upd s i v i = v := if_pos rfl
theorem upd_ne (s : Nat → Value) {i k : Nat} (v : Value) (h : k ≠ i) : upd s i v k = s k := if_neg h
/-- What is asked of the region's text. -/
def stabB (md : Region.Mode) (ops : Array Oper) (rem : List Nat) (D : Nat → List Nat) : Bool :=
  rem.all fun i => decide (i < ops.size) && (D i).contains i &&
    match ops[i]? with
    | none => false
    | some o => (D i).all (fun k => rem.contains k && (k == i || o.after.any fun e => Region.binds md e && rem.contains e.on && (D e.on).contains k)) && o.after.all fun e => !(Region.binds md e) || decide (e.on < i)
structure Stab (R : World → World → Prop) (P : Program) (md : Region.Mode) (ops : Array Oper) (Q : Exit → Act → World → Prop) (w0 : World) (rem : List Nat) (L : Nat) (mk : (Nat → Value) → Act) (D : Nat → List Nat) (Post : Nat → (Nat → Value) → World → Prop) : Prop where
  text : stabB md ops rem D = true
  put : ∀ i ∈ rem, ∀ o, ops[i]? = some o → ∀ s v, (mk s).put o.dst v = mk (upd s i v)
  st : ∀ i s w w', Post i s w → R w w' → Post i s w'
  loc : ∀ i ∈ rem, ∀ s s' w, (∀ k ∈ D i, s k = s' k) → Post i s w → Post i s' w
  op : ∀ i ∈ rem, i ≠ L → ∀ o, ops[i]? = some o → ∀ s w, R w0 w → (∀ k ∈ D i, k ≠ i → Post k s w) → ∀ K : Act → World → Prop, (∀ v w', R w w' → Post i (upd s i v) w' → K ((mk s).put o.dst v) w') →
    if Region.wanted o (yielded ops (mk s).tmps) = true then o.wp P (mk s) w K Q else K ((mk s).put o.dst undef) w
  last : L ∈ rem → (∀ k ∈ rem, k ∈ D L) ∧ ∀ o, ops[L]? = some o → ∀ s w, R w0 w → (∀ k ∈ rem, k ≠ L → Post k s w) → ∀ K : Act → World → Prop, (∀ a' w', Q .normal a' w' → K a' w') →
    if Region.wanted o (yielded ops (mk s).tmps) = true then o.wp P (mk s) w K Q else K ((mk s).put o.dst undef) w
  fin : L ∉ rem → ∀ s w, R w0 w → (∀ k ∈ rem, Post k s w) → Q .normal (mk s) w
section
variable {R : World → World → Prop} {P : Program} {md : Region.Mode} {ops : Array Oper} {Q : Exit → Act → World → Prop} {w0 : World} {rem : List Nat} {L : Nat} {mk : (Nat → Value) → Act} {D : Nat → List Nat} {Post : Nat → (Nat → Value) → World → Prop}
theorem stabB_spec (h : stabB md ops rem D = true) {i : Nat} (hi : i ∈ rem) : i < ops.size ∧ i ∈ D i ∧ ∀ o, ops[i]? = some o → (∀ k ∈ D i, k ∈ rem ∧ (k = i ∨ ∃ e ∈ o.after, Region.binds md e = true ∧ e.on ∈ rem ∧ k ∈ D e.on)) ∧ ∀ e ∈ o.after, Region.binds md e = true → e.on < i := by
  have h1 := (List.all_eq_true.1 h) i hi
  simp only [Bool.and_eq_true, decide_eq_true_eq] at h1
  obtain ⟨⟨h2, h3⟩, h4⟩ := h1
  refine ⟨h2, by simpa using h3, fun o ho => ?_⟩
  rw [ho] at h4
  simp only [Bool.and_eq_true] at h4
  obtain ⟨h5, h6⟩ := h4
  refine ⟨fun k hk => ?_, fun e he hb => ?_⟩
  · have h7 := (List.all_eq_true.1 h5) k hk
    simp only [Bool.and_eq_true, Bool.or_eq_true] at h7
    obtain ⟨h8, h9⟩ := h7
    refine ⟨by simpa using h8, ?_⟩
    rcases h9 with h9 | h9
    · exact .inl (by simpa using h9)
    · obtain ⟨j, hj, h10⟩ := Array.any_eq_true.1 h9
      simp only [Bool.and_eq_true] at h10
      exact .inr ⟨_, Array.getElem_mem _, h10.1.1, by simpa using h10.1.2, by simpa using h10.2⟩
  · obtain ⟨j, hj, rfl⟩ := Array.getElem_of_mem he
    have h7 := (Array.all_eq_true.1 h6) j hj
    rw [hb] at h7
    simpa using h7
theorem stab_all {fuel : Nat} {listed : Array Bool} {a : Act} {w : World} (h : ∀ i, i < ops.size → listed.getD i true = true) (hq : Q .normal a w) : wpAny P md ops Q fuel listed a w := by
  have hr : Region.ready md ops listed = [] := by
    refine List.eq_nil_iff_forall_not_mem.2 fun j hj => ?_
    obtain ⟨h1, o, h2, _⟩ := Go.mem_ready.1 hj
    have := h j (Array.getElem?_eq_some_iff.1 h2).1
    rw [h1] at this; cases this
  cases fuel with
  | zero => exact ⟨hr, hq⟩
  | succ n => exact ⟨fun _ => hq, by rw [hr]; simp⟩
theorem set_listed {listed : Array Bool} {i j : Nat} (h : listed.getD j true = true) : (listed.setIfInBounds i true).getD j true = true := by
  by_cases e : i = j
  · subst e
    rcases Nat.lt_or_ge i listed.size with h' | h'
    · simp [h']
    · simp [h']
  · rw [getD_set_ne true e]; exact h
theorem set_listed_self {listed : Array Bool} {i : Nat} : (listed.setIfInBounds i true).getD i true = true := by
  rcases Nat.lt_or_ge i listed.size with h' | h'
  · simp [h']
  · simp [h']
theorem getD_both {listed : Array Bool} {j : Nat} (h : listed.getD j false = true) : listed.getD j true = true := by
  rcases Nat.lt_or_ge j listed.size with h' | h'
  · simp [h'] at h ⊢; exact h
  · simp [h'] at h
theorem getD_both' {listed : Array Bool} {j : Nat} (hj : j < listed.size) (h : listed.getD j true = true) : listed.getD j false = true := by
  simp [hj] at h ⊢; exact h
theorem Stab.run (htr : ∀ a b c, R a b → R b c → R a c) (h : Stab R P md ops Q w0 rem L mk D Post) : ∀ (fuel : Nat) (listed : Array Bool) (s : Nat → Value) (w : World), R w0 w → listed.size = ops.size → (∀ i, i < ops.size → listed.getD i true = false → i ∈ rem) →
    (∀ i ∈ rem, listed.getD i true = true → i ≠ L ∧ Post i s w ∧ ∀ k ∈ D i, listed.getD k true = true) → (rem.filter (fun i => !(listed.getD i true))).length ≤ fuel → wpAny P md ops Q fuel listed (mk s) w := by
  intro fuel
  induction fuel with
  | zero =>
    intro listed s w hx hsz hrem hinv hct
    have hall : ∀ i ∈ rem, listed.getD i true = true := by
      intro i hi
      have := List.eq_nil_of_length_eq_zero (Nat.le_zero.1 hct)
      have := (List.filter_eq_nil_iff.1 this) i hi
      simpa using this
    refine stab_all (fun i hi => ?_) (h.fin (fun hL => (hinv L hL (hall L hL)).1 rfl) s w hx fun k hk => (hinv k hk (hall k hk)).2.1)
    cases hb : listed.getD i true with
    | true => rfl
    | false => rw [← hb]; exact hall i (hrem i hi hb)
  | succ fuel ih =>
    intro listed s w hx hsz hrem hinv hct
    refine ⟨fun hr => ?_, fun i hi => ?_⟩
    · have hno : ∀ n i, i < n → i < ops.size → listed.getD i true = true := by
        intro n
        induction n with
        | zero => intro i hi; omega
        | succ n ihn =>
          intro i hi hio
          cases hb : listed.getD i true with
          | true => rfl
          | false =>
            exfalso
            have him := hrem i hio hb
            obtain ⟨_, _, h3⟩ := stabB_spec h.text him
            obtain ⟨o, ho⟩ : ∃ o, ops[i]? = some o := ⟨_, Array.getElem?_eq_getElem hio⟩
            have hin : i ∈ Region.ready md ops listed := Go.mem_ready.2 ⟨hb, o, ho, fun e he hbd => getD_both' (by have := (h3 o ho).2 e he hbd; omega) (ihn _ (by have := (h3 o ho).2 e he hbd; omega) (by have := (h3 o ho).2 e he hbd; omega))⟩
            rw [hr] at hin; cases hin
      have hall : ∀ i ∈ rem, listed.getD i true = true := fun i hi => hno (i + 1) i (Nat.lt_succ_self i) (stabB_spec h.text hi).1
      exact h.fin (fun hL => (hinv L hL (hall L hL)).1 rfl) s w hx fun k hk => (hinv k hk (hall k hk)).2.1
    · obtain ⟨hun, o, ho, hall⟩ := Go.mem_ready.1 hi
      have hio : i < ops.size := (Array.getElem?_eq_some_iff.1 ho).1
      have him := hrem i hio hun
      obtain ⟨_, hself, h3⟩ := stabB_spec h.text him
      have hdep : ∀ k ∈ D i, k ≠ i → k ∈ rem ∧ listed.getD k true = true := by
        intro k hk hne
        obtain ⟨hkr, hk2⟩ := (h3 o ho).1 k hk
        rcases hk2 with rfl | ⟨e, he, hb, her, hke⟩
        · exact absurd rfl hne
        · exact ⟨hkr, (hinv e.on her (getD_both (hall e he hb))).2.2 k hke⟩
      refine wpOp_step ho fun K' hK => ?_
      by_cases hL : i = L
      · subst hL
        obtain ⟨hcov, hlast⟩ := h.last him
        refine hlast o ho s w hx (fun k hk hne => (hinv k hk (hdep k (hcov k hk) hne).2).2.1) K' fun a' w' hq => hK _ _ (stab_all (fun j hj => ?_) hq)
        by_cases e : i = j
        · subst e; exact set_listed_self
        · rw [getD_set_ne true e]
          cases hb : listed.getD j true with
          | true => rfl
          | false => rw [← hb]; exact (hdep j (hcov j (hrem j hj hb)) (Ne.symm e)).2
      · refine h.op i him hL o ho s w hx (fun k hk hne => (hinv k (hdep k hk hne).1 (hdep k hk hne).2).2.1) K' fun v w' hx' hp => hK _ _ ?_
        rw [h.put i him o ho s v]
        refine ih _ _ w' (htr _ _ _ hx hx') (by simpa using hsz) (fun j hj hb => ?_) (fun j hj hb => ?_) ?_
        · refine hrem j hj ?_
          cases hb2 : listed.getD j true with
          | false => rfl
          | true => rw [set_listed hb2] at hb; cases hb
        · by_cases e : i = j
          · subst e
            refine ⟨hL, hp, fun k hk => ?_⟩
            by_cases e2 : k = i
            · subst e2; exact set_listed_self
            · exact set_listed (hdep k hk e2).2
          · rw [getD_set_ne true e] at hb
            obtain ⟨g1, g2, g3⟩ := hinv j hj hb
            refine ⟨g1, h.loc j hj s _ w' (fun k hk => ?_) (h.st j s w w' g2 hx'), fun k hk => set_listed (g3 k hk)⟩
            rw [upd_ne]
            rintro rfl
            have := g3 k hk
            rw [hun] at this; cases this
        · have := count_lt (p := fun i => !(listed.getD i true)) (q := fun j => !((listed.setIfInBounds i true).getD j true)) (i := i) (by simp only [hun, Bool.not_false]) (by simp only [set_listed_self, Bool.not_true])
            (fun j hj => by
              cases hb2 : listed.getD j true with
              | false => rfl
              | true => simp only [set_listed hb2, Bool.not_true] at hj; cases hj) him
          omega
/-- From the start of the walk: what the quiet walk has taken is listed already. -/
theorem Stab.start {id : Nat} {a : Act} {w : World} (hrf : ∀ a, R a a) (htr : ∀ a b c, R a b → R b c → R a c) (s : Nat → Value) (hm : P.follows .mixedOrders = true) (h : Stab R P .any ops Q w.drew rem L mk D Post) (hs : a = mk s) (hrem : ∀ i, i < ops.size → i ∈ rem) (hct : rem.length ≤ ops.size) : (Code.region id ops true).wp P Q a w := by
  subst hs
  refine wp_region_any hm (h.run htr ops.size _ s w.drew (hrf _) (by simp) (fun i hi _ => hrem i hi) (fun i hi hb => ?_) ?_)
  · have := (stabB_spec h.text hi).1
    simp [this] at hb
  · exact Nat.le_trans (List.length_filter_le _ _) hct
theorem ext_refl (a : World) : Ext a a := Ext.refl a
theorem ext_trans (a b c : World) (h : Ext a b) (k : Ext b c) : Ext a c := h.trans k
/-- Later: what was there ahead of 'b0' stands; what came since stands, but where there was nothing. -/
structure Grew (b0 : Nat) (w w' : World) : Prop where
  os : w'.os = w.os
  tape : w'.tape = w.tape
  output : w'.output = w.output
  size : w.heap.size ≤ w'.heap.size
  block : ∀ b, b < w.heap.size → w'.heap[b]? = w.heap[b]? ∨ (b0 ≤ b ∧ ∃ t fr, w.heap[b]? = some (.cells #[] t fr))
theorem Grew.refl (b0 : Nat) (w : World) : Grew b0 w w := ⟨rfl, rfl, rfl, Nat.le_refl _, fun _ _ => .inl rfl⟩
theorem Grew.trans {b0 : Nat} {a b c : World} (h : Grew b0 a b) (k : Grew b0 b c) : Grew b0 a c :=
  ⟨k.os.trans h.os, k.tape.trans h.tape, k.output.trans h.output, Nat.le_trans h.size k.size, fun x hx => by
    rcases h.block x hx with h1 | h1
    · rcases k.block x (Nat.lt_of_lt_of_le hx h.size) with k1 | k1
      · exact .inl (k1.trans h1)
      · rw [h1] at k1; exact .inr k1
    · exact .inr h1⟩
theorem Grew.tr (b0 : Nat) (a b c : World) (h : Grew b0 a b) (k : Grew b0 b c) : Grew b0 a c := h.trans k
theorem Grew.of_ext {b0 : Nat} {w w' : World} (h : Ext w w') : Grew b0 w w' := ⟨h.os, h.tape, h.output, h.size, fun b hb => .inl (h.block b hb (by simp))⟩
theorem Grew.of_one {b0 g : Nat} {w w' : World} (h : w.grownBy w' (some g)) (hg : b0 ≤ g) {t : TypeId} {fr : Nat × Nat} (he : w.heap[g]? = some (.cells #[] t fr)) : Grew b0 w w' :=
  ⟨h.os, h.tape, h.output, h.size, fun b hb => by
    by_cases e : b = g
    · subst e; exact .inr ⟨hg, t, fr, he⟩
    · exact .inl (h.block b hb (by simpa using e))⟩
/-- .. as seen from ahead. -/
theorem Grew.ext {b0 : Nat} {a w w' : World} (h : Ext a w) (hb : a.heap.size ≤ b0) (k : Grew b0 w w') : Ext a w' :=
  ⟨k.os.trans h.os, k.tape.trans h.tape, k.output.trans h.output, Nat.le_trans h.size k.size, fun b hb2 hn => by
    rcases k.block b (Nat.lt_of_lt_of_le hb2 h.size) with h1 | h1
    · exact h1.trans (h.block b hb2 hn)
    · exact absurd h1.1 (by omega)⟩
theorem Grew.blk {b0 g : Nat} {w w' : World} {t : TypeId} {cs : List Value} (h : Blk w g t cs) (hn : cs ≠ []) (k : Grew b0 w w') : Blk w' g t cs := by
  have hg : g < w.heap.size := h.lt
  rcases k.block g hg with h1 | ⟨_, t', fr, h1⟩
  · exact h1.trans h
  · rw [show w.heap[g]? = _ from h] at h1
    simp at h1
    exact absurd h1.1 hn
theorem wanted_plain {o : Oper} {y : Nat → Option Bool} (h : o.guard = none) : Region.wanted o y = true := by simp [Region.wanted, h]
end
/-! ### The frame with the values in their slots -/
def mkOf (a : Act) : List (Option Nat) → Nat → (Nat → Value) → Act
  | [], _, _ => a
  | d :: ds, i, s => mkOf (a.put d (s i)) ds (i + 1) s
theorem mkOf_congr (s s' : Nat → Value) : ∀ (ds : List (Option Nat)) (i : Nat) (a : Act), (∀ j d, ds[j]? = some (some d) → s (i + j) = s' (i + j)) → mkOf a ds i s = mkOf a ds i s'
  | [], _, _, _ => rfl
  | d :: ds, i, a, h => by
    have e : a.put d (s i) = a.put d (s' i) := by
      cases d with
      | none => rfl
      | some x => rw [show s i = s' i from h 0 x rfl]
    unfold mkOf
    rw [e]
    exact mkOf_congr s s' ds (i + 1) _ fun j d hj => by have := h (j + 1) d hj; rwa [show i + (j + 1) = i + 1 + j by omega] at this
theorem put_comm {a : Act} {d e : Option Nat} {u v : Value} (h : ∀ x, d = some x → e ≠ some x) : (a.put d u).put e v = (a.put e v).put d u := by
  cases d with
  | none => rfl
  | some x =>
    cases e with
    | none => rfl
    | some y =>
      have hne : x ≠ y := fun e => h x rfl (by rw [e])
      simp only [Act.put]
      congr 1
      exact Array.setIfInBounds_comm _ _ hne
theorem put_same {a : Act} {d : Option Nat} {u v : Value} : (a.put d u).put d v = a.put d v := by
  cases d with
  | none => rfl
  | some x =>
    simp only [Act.put]
    congr 1
    apply Array.ext_getElem?
    intro k
    simp only [Array.getElem?_setIfInBounds, Array.size_setIfInBounds]
    by_cases hk : x = k <;> simp [hk]
theorem mkOf_comm (s : Nat → Value) (d : Nat) (v : Value) : ∀ (ds : List (Option Nat)) (i : Nat) (a : Act), some d ∉ ds → (mkOf a ds i s).put (some d) v = mkOf (a.put (some d) v) ds i s
  | [], _, _, _ => rfl
  | e :: ds, i, a, h => by
    unfold mkOf
    rw [mkOf_comm s d v ds (i + 1) _ (fun hm => h (List.mem_cons_of_mem _ hm)), put_comm]
    rintro x rfl he
    exact h (by rw [he]; simp)
def noTwice : List (Option Nat) → Bool
  | [] => true
  | none :: ds => noTwice ds
  | some d :: ds => !(ds.contains (some d)) && noTwice ds
theorem mkOf_put (s : Nat → Value) (v : Value) : ∀ (ds : List (Option Nat)) (i j : Nat) (a : Act) (d : Option Nat), noTwice ds = true → ds[j]? = some d → (mkOf a ds i s).put d v = mkOf a ds i (upd s (i + j) v)
  | [], _, _, _, _, _, h => by simp at h
  | e :: ds, i, 0, a, d, hn, h => by
    obtain rfl : e = d := by simpa using h
    cases e with
    | none =>
      refine (mkOf_congr _ _ _ _ _ fun j d hj => ?_)
      rw [upd_ne]
      rintro hij
      obtain rfl : j = 0 := by omega
      simp at hj
    | some x =>
      simp only [noTwice, Bool.and_eq_true] at hn
      unfold mkOf
      rw [mkOf_comm s x v ds (i + 1) _ (by simpa using hn.1), put_same, show i + 0 = i from rfl, upd_self]
      exact mkOf_congr _ _ _ _ _ fun j d _ => by rw [upd_ne]; omega
  | e :: ds, i, j + 1, a, d, hn, h => by
    have hn2 : noTwice ds = true := by
      cases e with
      | none => exact hn
      | some x => simp only [noTwice, Bool.and_eq_true] at hn; exact hn.2
    unfold mkOf
    rw [mkOf_put s v ds (i + 1) j _ d hn2 (by simpa using h), show i + 1 + j = i + (j + 1) by omega, upd_ne _ _ (by omega)]
/-- The frame as it is. -/
def nowOf (a : Act) (ds : List (Option Nat)) (i : Nat) : Value := match ds[i]? with
  | some (some d) => a.tmps.getD d undef
  | _ => undef
theorem put_now (a : Act) (d : Nat) : a.put (some d) (a.tmps.getD d undef) = a := by
  have h : a.tmps.setIfInBounds d (a.tmps.getD d undef) = a.tmps := by
    apply Array.ext_getElem?
    intro k
    simp only [Array.getElem?_setIfInBounds]
    by_cases hk : d = k
    · subst hk
      by_cases hd : d < a.tmps.size <;> simp [hd]
    · simp [hk]
  simp only [Act.put, h]
theorem mkOf_now : ∀ (ds : List (Option Nat)) (i : Nat) (a : Act) (s : Nat → Value), (∀ j d, ds[j]? = some (some d) → s (i + j) = a.tmps.getD d undef) → mkOf a ds i s = a
  | [], _, _, _, _ => rfl
  | d :: ds, i, a, s, h => by
    have e : a.put d (s i) = a := by
      cases d with
      | none => rfl
      | some x => rw [show s i = _ from h 0 x rfl, put_now]
    unfold mkOf
    rw [e]
    exact mkOf_now ds (i + 1) a s fun j d hj => by have := h (j + 1) d hj; rwa [show i + (j + 1) = i + 1 + j by omega] at this
theorem mkOf_start (a : Act) (ds : List (Option Nat)) : a = mkOf a ds 0 (nowOf a ds) := (mkOf_now ds 0 a _ fun j d hj => by simp [nowOf, hj]).symm
/-- What is asked of one operation. -/
def StabOp (R : World → World → Prop) (P : Program) (ops : Array Oper) (Q : Exit → Act → World → Prop) (w0 : World) (mk : (Nat → Value) → Act) (Pi : Nat → Value → World → Prop) (D : List Nat) (i : Nat) (o : Oper) : Prop :=
  ∀ s w, R w0 w → (∀ k ∈ D, k ≠ i → Pi k (s k) w) → ∀ K : Act → World → Prop, (∀ v w', R w w' → Pi i v w' → K ((mk s).put o.dst v) w') →
    if Region.wanted o (yielded ops (mk s).tmps) = true then o.wp P (mk s) w K Q else K ((mk s).put o.dst undef) w
def StabLast (R : World → World → Prop) (P : Program) (ops : Array Oper) (Q : Exit → Act → World → Prop) (w0 : World) (mk : (Nat → Value) → Act) (Pi : Nat → Value → World → Prop) (L : Nat) (o : Oper) : Prop :=
  ∀ s w, R w0 w → (∀ k, k < L → Pi k (s k) w) → ∀ K : Act → World → Prop, (∀ a' w', Q .normal a' w' → K a' w') →
    if Region.wanted o (yielded ops (mk s).tmps) = true then o.wp P (mk s) w K Q else K ((mk s).put o.dst undef) w
section
variable {P : Program} {Q : Exit → Act → World → Prop}
theorem op_of {l : List Oper} {i : Nat} {o : Oper} (h : l.toArray[i]? = some o) : (l.drop i).head? = some o := by rw [List.head?_drop]; simpa using h
/-- THE WALK, the last operation a store: 'ops' the obligations, one for each but the last. -/
theorem stab_store {id : Nat} {l : List Oper} {a : Act} {w : World} (R : World → World → Prop) (hrf : ∀ a, R a a) (htr : ∀ a b c, R a b → R b c → R a c) (Ds : List (List Nat)) (Pi : Nat → Value → World → Prop) (hm : P.follows .mixedOrders = true)
    (ht : stabB .any l.toArray (List.range l.length) (fun i => Ds.getD i []) = true) (hn : noTwice (l.map (·.dst)) = true) (hc : (List.range l.length).all (fun k => (Ds.getD (l.length - 1) []).contains k) = true) (hl0 : l ≠ [])
    (hst : ∀ i v w w', Pi i v w → R w w' → Pi i v w')
    (hop : ∀ i, i < l.length - 1 → ∀ o, (l.drop i).head? = some o → StabOp R P l.toArray Q w.drew (mkOf a (l.map (·.dst)) 0) Pi (Ds.getD i []) i o)
    (hlast : ∀ o, (l.drop (l.length - 1)).head? = some o → StabLast R P l.toArray Q w.drew (mkOf a (l.map (·.dst)) 0) Pi (l.length - 1) o) : (Code.region id l.toArray true).wp P Q a w := by
  have hpos : 0 < l.length := List.length_pos_iff.2 hl0
  refine Stab.start (R := R) hrf htr (rem := List.range l.length) (L := l.length - 1) (mk := mkOf a (l.map (·.dst)) 0) (D := fun i => Ds.getD i []) (Post := fun i s w => Pi i (s i) w) (nowOf a (l.map (·.dst))) hm
    ⟨ht, fun i hi o ho s v => ?_, fun i s w w' => hst i (s i) w w', fun i hi s s' w hk h => ?_, fun i hi hL o ho s w hx hd K hK => ?_, fun _ => ⟨fun k hk => ?_, fun o ho s w hx hd K hK => ?_⟩, fun hL => ?_⟩ (mkOf_start a _) (fun i hi => by simpa using hi) (by simp)
  · have := mkOf_put s v (l.map (·.dst)) 0 i a o.dst hn (by rw [List.getElem?_map, show l[i]? = some o by simpa using ho]; rfl)
    rw [Nat.zero_add] at this
    exact this
  · rw [← hk i (stabB_spec ht hi).2.1]; exact h
  · refine hop i (by have := List.mem_range.1 hi; omega) o (op_of ho) s w hx hd K fun v w' h1 h2 => hK v w' h1 (by rw [upd_self]; exact h2)
  · have := (List.all_eq_true.1 hc) k hk
    simpa using this
  · exact hlast o (op_of ho) s w hx (fun k hk => hd k (List.mem_range.2 (by omega)) (by omega)) K hK
  · exact absurd (List.mem_range.2 (by omega)) hL
/-- THE WALK, no store. -/
theorem stab_plain {id : Nat} {l : List Oper} {a : Act} {w : World} (R : World → World → Prop) (hrf : ∀ a, R a a) (htr : ∀ a b c, R a b → R b c → R a c) (Ds : List (List Nat)) (Pi : Nat → Value → World → Prop) (hm : P.follows .mixedOrders = true)
    (ht : stabB .any l.toArray (List.range l.length) (fun i => Ds.getD i []) = true) (hn : noTwice (l.map (·.dst)) = true)
    (hst : ∀ i v w w', Pi i v w → R w w' → Pi i v w')
    (hop : ∀ i, i < l.length → ∀ o, (l.drop i).head? = some o → StabOp R P l.toArray Q w.drew (mkOf a (l.map (·.dst)) 0) Pi (Ds.getD i []) i o)
    (hfin : ∀ s w1, R w.drew w1 → (∀ k, k < l.length → Pi k (s k) w1) → Q .normal (mkOf a (l.map (·.dst)) 0 s) w1) : (Code.region id l.toArray true).wp P Q a w := by
  refine Stab.start (R := R) hrf htr (rem := List.range l.length) (L := l.length) (mk := mkOf a (l.map (·.dst)) 0) (D := fun i => Ds.getD i []) (Post := fun i s w => Pi i (s i) w) (nowOf a (l.map (·.dst))) hm
    ⟨ht, fun i hi o ho s v => ?_, fun i s w w' => hst i (s i) w w', fun i hi s s' w hk h => ?_, fun i hi hL o ho s w hx hd K hK => ?_, fun hL => absurd hL (by simp), fun hL s w hx hd => ?_⟩ (mkOf_start a _) (fun i hi => by simpa using hi) (by simp)
  · have := mkOf_put s v (l.map (·.dst)) 0 i a o.dst hn (by rw [List.getElem?_map, show l[i]? = some o by simpa using ho]; rfl)
    rw [Nat.zero_add] at this
    exact this
  · rw [← hk i (stabB_spec ht hi).2.1]; exact h
  · refine hop i (List.mem_range.1 hi) o (op_of ho) s w hx hd K fun v w' h1 h2 => hK v w' h1 (by rw [upd_self]; exact h2)
  · exact hfin s w hx fun k hk => hd k (List.mem_range.2 hk)
end
end Go.Proofs.YtchnjcghbbacoaaDoor

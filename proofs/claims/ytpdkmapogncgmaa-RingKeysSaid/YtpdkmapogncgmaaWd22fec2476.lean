/- Walks and plain laws, put together in build order. Conditions: what each of them names. -/
import Derived.Test.YtpdkmapogncgmaaW962dd1d1af
set_option linter.unusedVariables false
set_option linter.unusedSimpArgs false
set_option linter.unnecessarySimpa false
namespace Go.Proofs.Ytpdkmapogncgmaa
section
open Go.RowKit

section
variable {P : Program} {md : Region.Mode} {ops : Array Oper} {Q : Exit → Act → World → Prop} {R : World → World → Prop} {late : Nat}
/-- Whatever order is picked from here on; each step but one leads to a later world. -/
def wpAnyL (P : Program) (md : Region.Mode) (ops : Array Oper) (Q : Exit → Act → World → Prop) (late : Nat) (R : World → World → Prop) : Nat → Array Bool → Act → World → Prop
  | 0, listed, a, w => Region.ready md ops listed = [] ∧ Q .normal a w
  | fuel + 1, listed, a, w =>
    (Region.ready md ops listed = [] → Q .normal a w) ∧
    ∀ i ∈ Region.ready md ops listed, wpOp P ops Q i (fun a' w' => (i ≠ late → R w w') ∧ wpAnyL P md ops Q late R fuel (listed.setIfInBounds i true) a' w') a w
theorem wpAny_of_late : ∀ (fuel : Nat) (listed : Array Bool) (a : Act) (w : World), wpAnyL P md ops Q late R fuel listed a w → wpAny P md ops Q fuel listed a w
  | 0, _, _, _, h => h
  | fuel + 1, _, _, _, h => ⟨h.1, fun i hi => wpOp_mono (fun a' w' h' => wpAny_of_late fuel _ a' w' h'.2) (h.2 i hi)⟩
/-- A chain of operations, each of which waits for the one before it; none has come. -/
def chainB (md : Region.Mode) (ops : Array Oper) (listed : Array Bool) : Nat → List Nat → Bool
  | _, [] => true
  | i, k :: l => (listed.getD k true == false) && (match ops[k]? with | some o => o.after.any (fun e => Region.binds md e && e.on == i) | none => false) && chainB md ops listed k l
theorem chain_ready {listed : Array Bool} : ∀ {path : List Nat} {i : Nat}, chainB md ops listed i path = true → listed.getD i true = false → ∀ k ∈ path, k ∉ Region.ready md ops listed
  | [], _, _, _, k, hk => by cases hk
  | p :: l, i, h, hi, k, hk => by
    simp only [chainB, Bool.and_eq_true, beq_iff_eq] at h
    obtain ⟨⟨h1, h2⟩, h3⟩ := h
    rcases List.mem_cons.1 hk with rfl | hk
    · intro hr
      obtain ⟨_, ok, hok, hall⟩ := Go.mem_ready.1 hr
      rw [hok] at h2
      obtain ⟨e, he, hb⟩ := Array.any_eq_true'.1 h2
      simp only [Bool.and_eq_true, beq_iff_eq] at hb
      have h4 := hall e he hb.1
      rw [hb.2] at h4
      rcases Nat.lt_or_ge i listed.size with h' | h'
      · simp [h'] at hi h4; rw [hi] at h4; cases h4
      · simp [Array.getElem?_eq_none h'] at h4
    · exact chain_ready h3 h1 k hk
theorem chain_step {listed : Array Bool} {j : Nat} : ∀ {path : List Nat} {i : Nat}, chainB md ops listed i path = true → (∀ k ∈ path, k ≠ j) → chainB md ops (listed.setIfInBounds j true) i path = true
  | [], _, _, _ => rfl
  | p :: l, i, h, hj => by
    simp only [chainB, Bool.and_eq_true, beq_iff_eq] at h ⊢
    obtain ⟨⟨h1, h2⟩, h3⟩ := h
    refine ⟨⟨?_, h2⟩, chain_step h3 fun k hk => hj k (List.mem_cons_of_mem _ hk)⟩
    have hne : j ≠ p := fun e => hj p (List.mem_cons_self ..) e.symm
    simpa [Array.getElem?_setIfInBounds_ne hne] using h1
theorem wpAnyL_first (hrf : ∀ a, R a a) {i : Nat} {oi : Oper} {v : Value} (hi : ops[i]? = some oi) (hsel : ∀ (j : Nat) (o : Oper) cs b, ops[j]? = some o → o.op ≠ .select cs b)
    (hQ : ∀ c a w, Q (.panic c) (a.put oi.dst v) w → Q (.panic c) a w) (S : World → Prop) (hS' : ∀ a b, S a → R a b → S b) (path : List Nat) (hlp : late ∈ path ∨ ∀ b, S b) :
    ∀ (fuel : Nat) (listed : Array Bool) (a : Act) (w : World),
      (∀ j oj, ops[j]? = some oj → j ≠ i → listed.getD j true = false → (∀ e ∈ oj.after, Region.binds md e = true → e.on ≠ i) → oi.apart ops oj = true) →
      chainB md ops listed i path = true →
      i ∈ Region.ready md ops listed → YieldsIf P ops S oi v a → S w →
      wpAnyL P md ops Q late R fuel (listed.setIfInBounds i true) (a.put oi.dst v) w → wpAnyL P md ops Q late R (fuel + 1) listed a w := by
  intro fuel
  induction fuel with
  | zero =>
    intro listed a w _ _ hr hy hS H
    refine ⟨fun h => (by rw [h] at hr; cases hr), fun j hj => ?_⟩
    by_cases hji : j = i
    · subst hji; exact hy.wpOp hi hS ⟨fun _ => hrf _, H⟩
    · have := readyM_mono hj hji
      rw [H.1] at this
      cases this
  | succ fuel ih =>
    intro listed a w hfree hch hr hy hS H
    refine ⟨fun h => (by rw [h] at hr; cases hr), fun j hj => ?_⟩
    by_cases hji : j = i
    · subst hji; exact hy.wpOp hi hS ⟨fun _ => hrf _, H⟩
    · have h1 := H.2 j (readyM_mono hj hji)
      obtain ⟨hjun, oj, hoj, hall⟩ := Go.mem_ready.1 hj
      have hiun := (Go.mem_ready.1 hr).1
      have hnp : ∀ k ∈ path, k ≠ j := fun k hk e => chain_ready hch hiun k hk (e ▸ hj)
      have hnot : ∀ e ∈ oj.after, Region.binds md e = true → e.on ≠ i := fun e he hb heq => by
        have h1 := hall e he hb
        have h0 := hiun
        rw [heq] at h1
        rcases Nat.lt_or_ge i listed.size with h' | h'
        · simp [h'] at h0 h1; rw [h0] at h1; cases h1
        · simp [Array.getElem?_eq_none h'] at h1
      have h2 := wpOp_putIf hoj (hfree j oj hoj hji hjun hnot) (fun cs b => hsel i oi cs b hi) (fun cs b => hsel j oj cs b hoj) hQ hy h1
      have hfree' : ∀ k ok, ops[k]? = some ok → k ≠ i → (listed.setIfInBounds j true).getD k true = false →
          (∀ e ∈ ok.after, Region.binds md e = true → e.on ≠ i) → oi.apart ops ok = true := fun k ok hk hki hun hno => by
        refine hfree k ok hk hki ?_ hno
        by_cases hjk : j = k
        · subst hjk; exact hjun
        · rw [getD_set_ne true hjk] at hun; exact hun
      refine wpOp_mono (fun a' w' h3 => ⟨h3.2.1, ih (listed.setIfInBounds j true) a' w' hfree' (chain_step hch hnp) (readyM_mono hr (Ne.symm hji)) h3.1 ?_ ?_⟩) h2
      · rcases hlp with hl | hl
        · exact hS' _ _ hS (h3.2.1 fun e => hnp _ hl e.symm)
        · exact hl _
      · rw [Array.setIfInBounds_comm _ _ hji]
        exact h3.2.2
/-- Number i is taken first; it is bound to come ahead of 'late'. -/
theorem takeL (hrf : ∀ a, R a a) (htr : ∀ a b c, R a b → R b c → R a c) (i : Nat) (path : List Nat) {oi : Oper} {fuel : Nat} {listed : Array Bool} {a : Act} {w : World} (hi : (ops.toList.drop i).head? = some oi)
    (hs : Region.noSelect ops = true) (hf : Region.free md ops listed i = true) (hr : (Region.ready md ops listed).contains i = true) (hch : (chainB md ops listed i path && path.contains late) = true) (hc : valB oi.op = true)
    (hQ : ∀ v c a w, Q (.panic c) (a.put oi.dst v) w → Q (.panic c) a w) (hw : Region.wanted oi (yielded ops a.tmps) = true)
    (h : ∀ K : Act → Prop, (∀ a', wpAnyL P md ops Q late R fuel (listed.setIfInBounds i true) a' w → K a') → oi.quiet P a (R w) K) : wpAnyL P md ops Q late R (fuel + 1) listed a w := by
  rw [Bool.and_eq_true] at hch
  obtain ⟨v, h1, h2⟩ := quiet_val hc (h _ (fun _ h => h))
  exact wpAnyL_first hrf (op_at hi) (Region.noSelect_spec hs) (hQ v) (R w) (fun b c h1 h2 => htr _ _ _ h1 h2) path (.inl (by simpa using hch.2)) fuel listed a w (Region.free_spec (op_at hi) hf) hch.1 (by simpa using hr) (.inl ⟨hw, h1⟩) (hrf w) h2
/-- .. it asks no world. -/
theorem takeN (hrf : ∀ a, R a a) (i : Nat) {oi : Oper} {fuel : Nat} {listed : Array Bool} {a : Act} {w : World} (hi : (ops.toList.drop i).head? = some oi)
    (hs : Region.noSelect ops = true) (hf : Region.free md ops listed i = true) (hr : (Region.ready md ops listed).contains i = true) (hc : valB oi.op = true)
    (hQ : ∀ v c a w, Q (.panic c) (a.put oi.dst v) w → Q (.panic c) a w) (hw : Region.wanted oi (yielded ops a.tmps) = true)
    (h : ∀ K : Act → Prop, (∀ a', wpAnyL P md ops Q late R fuel (listed.setIfInBounds i true) a' w → K a') → oi.quiet P a (Any w) K) : wpAnyL P md ops Q late R (fuel + 1) listed a w := by
  obtain ⟨v, h1, h2⟩ := quiet_val hc (h _ (fun _ h => h))
  exact wpAnyL_first hrf (op_at hi) (Region.noSelect_spec hs) (hQ v) (Any w) (fun _ _ _ _ => trivial) [] (.inr fun _ => trivial) fuel listed a w (Region.free_spec (op_at hi) hf) rfl (by simpa using hr) (.inl ⟨hw, h1⟩) trivial h2
/-- A nil check of an address. -/
theorem nilL (hrf : ∀ a, R a a) (i : Nat) {oi : Oper} {fuel : Nat} {listed : Array Bool} {a : Act} {w : World} (hi : (ops.toList.drop i).head? = some oi)
    (hs : Region.noSelect ops = true) (hf : Region.free md ops listed i = true) (hr : (Region.ready md ops listed).contains i = true) (x : Operand) (ho : oi.op = .nilCheck x) (ad : Addr) (hx : a.eval x = .pointer (some ad))
    (hQ : ∀ v c a w, Q (.panic c) (a.put oi.dst v) w → Q (.panic c) a w) (hw : Region.wanted oi (yielded ops a.tmps) = true)
    (h : wpAnyL P md ops Q late R fuel (listed.setIfInBounds i true) (a.put oi.dst (.pointer (some ad))) w) : wpAnyL P md ops Q late R (fuel + 1) listed a w := by
  have h1 : ∀ w', Any w w' → (execOp a.eval oi).run P w' = .ok (.value (.pointer (some ad))) w' := fun w' _ => by
    unfold execOp
    simp only [ho, hx]
    rfl
  exact wpAnyL_first hrf (op_at hi) (Region.noSelect_spec hs) (hQ _) (Any w) (fun _ _ _ _ => trivial) [] (.inr fun _ => trivial) fuel listed a w (Region.free_spec (op_at hi) hf) rfl (by simpa using hr) (.inl ⟨hw, h1⟩) trivial h
theorem skipL (hrf : ∀ a, R a a) (i : Nat) {oi : Oper} {fuel : Nat} {listed : Array Bool} {a : Act} {w : World} (hi : (ops.toList.drop i).head? = some oi)
    (hs : Region.noSelect ops = true) (hf : Region.free md ops listed i = true) (hr : (Region.ready md ops listed).contains i = true)
    (hQ : ∀ v c a w, Q (.panic c) (a.put oi.dst v) w → Q (.panic c) a w) (hw : Region.wanted oi (yielded ops a.tmps) = false)
    (h : wpAnyL P md ops Q late R fuel (listed.setIfInBounds i true) (a.put oi.dst undef) w) : wpAnyL P md ops Q late R (fuel + 1) listed a w :=
  wpAnyL_first hrf (op_at hi) (Region.noSelect_spec hs) (hQ _) (fun _ => True) (fun _ _ _ _ => trivial) [] (.inr fun _ => trivial) fuel listed a w (Region.free_spec (op_at hi) hf) rfl (by simpa using hr) (.inr ⟨hw, rfl⟩) trivial h
theorem stepL (i : Nat) {oi : Oper} {fuel : Nat} {listed : Array Bool} {a : Act} {w : World} (hi : (ops.toList.drop i).head? = some oi) (hr : Region.ready md ops listed = [i]) (hw : Region.wanted oi (yielded ops a.tmps) = true)
    (h : ∀ K : Act → World → Prop, (∀ a' w', (i ≠ late → R w w') → wpAnyL P md ops Q late R fuel (listed.setIfInBounds i true) a' w' → K a' w') → oi.wp P a w K Q) : wpAnyL P md ops Q late R (fuel + 1) listed a w := by
  refine ⟨fun h0 => (by rw [hr] at h0; cases h0), fun j hj => ?_⟩
  rw [hr] at hj
  obtain rfl : j = i := by simpa using hj
  refine wpOp_step (op_at hi) (fun K' hK => ?_)
  rw [if_pos hw]
  exact h K' (fun a' w' h1 h2 => hK _ _ ⟨h1, h2⟩)
theorem doneL {listed : Array Bool} {a : Act} {w : World} (hr : Region.ready md ops listed = []) (h : Q .normal a w) : ∀ fuel, wpAnyL P md ops Q late R fuel listed a w
  | 0 => ⟨hr, h⟩
  | _ + 1 => ⟨fun _ => h, by rw [hr]; simp⟩
theorem startL {id : Nat} {a : Act} {w : World} (late : Nat) (R : World → World → Prop) (hm : P.follows .mixedOrders = true)
    (h : wpAnyL P .any ops Q late R ops.size (Array.replicate ops.size false) a w.drew) : (Code.region id ops true).wp P Q a w :=
  wp_region_any hm (wpAny_of_late _ _ _ _ h)
end
end
section
open Go.RowKit

section
variable {P : Program} (w : World)
/-- '[]T{x}' where x is a struct or an array. -/
theorem wp_one {o : Oper} {a : Act} {K : Act → World → Prop} {Q : Exit → Act → World → Prop} (t : TypeId) (x : Operand) (ho : o.op = .buildSlice t 1 #[(0, x)])
    (e : TypeId) (cs : List Value) (ht : P.underlying t = some (.slice e)) (hx : a.eval x = .agg cs.toArray) (hi : (P.info? e).map (·.size) = some cs.length) (hz : ((P.info? e).bind (·.zero)).isSome = true) (hl : cs.length ≤ 16777216) (hn : 0 < cs.length)
    (h : K (a.put o.dst (.slice (some ⟨w.heap.size, 0, none⟩) 1 1)) (w.alloc (.cells cs.toArray e))) : o.wp P a w K Q := by
    obtain ⟨i, hi', hs⟩ := Option.map_eq_some_iff.1 hi
    rw [hi', Option.bind_some] at hz
    obtain ⟨z, hz⟩ := Option.isSome_iff_exists.1 hz
    have hfill : ∀ (c : Array Value), c.size = cs.length → Instr.fill (fun i => some (i * cs.length, cs.length)) c [(0, .agg cs.toArray)] = some cs.toArray := by
      intro c hc
      rw [fill_list _ c 0 (.agg cs.toArray) cs 0 [] rfl (by simp) (by omega)]
      simp only [Instr.fill, List.take_zero, List.nil_append, Nat.zero_add]
      rw [List.drop_eq_nil_of_le (by rw [Array.length_toList]; omega), List.append_nil]
    unfold Oper.wp execOp
    have hrun : (Instr.buildSlice t 1 #[(0, .agg cs.toArray)]).run P w = .ok (.slice (some ⟨w.heap.size, 0, none⟩) 1 1) (w.alloc (.cells cs.toArray e)) := by
      unfold Instr.buildSlice
      simp only [Sem.run_bind, run_underlying ht, Result.andThen_ok, sizeOf, typeInfo, run_program, hi', Sem.run_pure, hs, Nat.one_mul]
      rw [if_neg (by omega)]
      have h0 : ¬ cs.length = 0 := by omega
      simp only [h0, if_false, Sem.run_bind, Sem.run_pure, Result.andThen_ok, zeroValue, typeInfo, run_program, hi', hz]
      have := hfill ((Array.range cs.length).map fun x => z.cells[x % z.cells.size]!) (by simp)
      simp only [this]
      simp [newRow]
    simp only [ho, List.map_toArray, List.map_cons, List.map_nil, hx, Sem.run_bind, hrun, Result.andThen_ok, Sem.run_pure]
    exact h
end
end
section
open Go.RowKit

/-! ### What is carried while an alloc may come at any time beside calls that only make memory -/
structure AJ (w0 : World) (t : TypeId) (Z : List Value) (al : Option Nat) (W : World) : Prop where
  ext : Ext w0 W
  blk : ∀ g, al = some g → w0.heap.size ≤ g ∧ Blk W g t Z
theorem AJ.start (w0 : World) (t : TypeId) (Z : List Value) : AJ w0 t Z none w0 := ⟨Ext.refl _, fun g h => (by cases h)⟩
theorem AJ.alloc {w0 W : World} {t : TypeId} {Z : List Value} (h : AJ w0 t Z none W) : AJ w0 t Z (some W.heap.size) (W.alloc (.cells Z.toArray t)) :=
  ⟨h.ext.trans ((Ext.refl W).alloc _), by rintro g ⟨⟩; exact ⟨h.ext.size, Blk.new _ _ _⟩⟩
theorem AJ.keepAlloc {w0 W : World} {t : TypeId} {Z : List Value} {al : Option Nat} (h : AJ w0 t Z al W) (o : Obj) : KeepB (fun b => b < w0.heap.size) W (W.alloc o) := fun b hb =>
  ((Ext.refl W).alloc o).block b (Nat.lt_of_lt_of_le hb h.ext.size) (by simp)
theorem AJ.step {w0 W W' : World} {t : TypeId} {Z : List Value} {al : Option Nat} (h : AJ w0 t Z al W) (hx : Ext W W') : AJ w0 t Z al W' ∧ KeepB (fun b => b < w0.heap.size) W W' :=
  ⟨⟨h.ext.trans hx, fun g hg => ⟨(h.blk g hg).1, (h.blk g hg).2.keep hx (by simp)⟩⟩, fun b hb => hx.block b (Nat.lt_of_lt_of_le hb h.ext.size) (by simp)⟩
theorem sharedA {Q : Prop} {A : Nat → World → Prop} (J : Nat → World → Prop) (h1 : (∀ g w, J g w → A g w) → Q) (h2 : ∀ g w, J g w → A g w) : Q := h1 h2
/-! ### Sums, one behind the other -/
abbrev Dg := List UInt8
def DigT : Ty := .arr 32 .u8
abbrev Ways (w : World) (F : Fp) (v : Value) (ds : List Dg) : Prop := (Ty.sl DigT).holds w F [v] ds
theorem digT_iff {w : World} {F : Fp} {cs : List Value} {d : Dg} : DigT.holds w F cs d ↔ cs = bv d ∧ List.length (α := UInt8) d = 32 := by
  constructor
  · rintro ⟨h1, h2⟩; exact ⟨AllH.bytes.1 h2, h1⟩
  · rintro ⟨h1, h2⟩; exact ⟨h2, AllH.bytes.2 h1⟩
theorem digs_iff {w : World} {F : Fp} : ∀ {l : List Dg} {xs : List Value}, AllH (DigT.holds w F) xs l ↔ xs = l.flatMap bv ∧ ∀ d ∈ l, List.length (α := UInt8) d = 32
  | [], xs => by simp [AllH]
  | c :: l, xs => by
    constructor
    · rintro ⟨c1, c2, rfl, h1, h2⟩
      obtain ⟨rfl, ok⟩ := digT_iff.1 h1
      obtain ⟨rfl, oks⟩ := digs_iff.1 h2
      refine ⟨rfl, fun x hx => ?_⟩
      rcases List.mem_cons.1 hx with rfl | hx
      · exact ok
      · exact oks x hx
    · rintro ⟨rfl, ok⟩
      exact ⟨_, _, rfl, digT_iff.2 ⟨rfl, ok c (by simp)⟩, digs_iff.2 ⟨rfl, fun x hx => ok x (by simp [hx])⟩⟩
theorem ways_open {w : World} {F : Fp} {v : Value} {ds : List Dg} (h : Ways w F v ds) : ∃ (A : Option Addr) (c : Nat) (xs : List Value), v = .slice A (List.length (α := Dg) ds) c ∧ List.length (α := Dg) ds ≤ c ∧ c ≤ maxLen ∧ (A = none → c = 0) ∧ (0 < List.length (α := Dg) ds → ∃ ad, A = some ad ∧ F ad.block ∧ Cells w ad xs) ∧ AllH (DigT.holds w F) xs ds := by
  obtain ⟨A, c, xs, hv, h1, h2, h3, h4, h5⟩ := h
  cases hv
  exact ⟨A, c, xs, rfl, h1, h2, h3, fun h => h4 (by intro e; rw [e] at h; exact absurd h (Nat.lt_irrefl _)), h5⟩
theorem digs_at {w w' : World} {F : Fp} {xs : List Value} {l : List Dg} {ad : Addr} {k : Nat} (hall : AllH (DigT.holds w F) xs l) (hc : Cells w' ad xs) (hk : k < l.length) : Cells w' (ad.add (k * 32)) (bv l[k]) ∧ List.length (α := UInt8) l[k] = 32 := by
  have h := AllH.elem hall hk
  obtain ⟨h1, h2⟩ := digT_iff.1 h
  have e : DigT.size = 32 := rfl
  rw [e] at h1
  have h3 := (hc.drop (k * 32)).take 32
  rw [h1] at h3
  exact ⟨h3, h2⟩
def OwnD (e : TypeId) (w : World) (v : Value) (ds : List Dg) : Prop := (∀ d ∈ ds, List.length (α := UInt8) d = 32) ∧ Own w e 32 v (List.length (α := Dg) ds) (ds.flatMap bv)
theorem OwnD.ext {e : TypeId} {w w' : World} {v : Value} {ds : List Dg} (h : OwnD e w v ds) (hx : Ext w w') : OwnD e w' v ds := ⟨h.1, h.2.ext hx⟩
theorem OwnD.lt {e : TypeId} {w : World} {v : Value} {ds : List Dg} (h : OwnD e w v ds) : ∀ g, v.ownBlock = some g → g < w.heap.size := fun g hg => (World.ownsRow.lt h.2 g hg).2
theorem OwnD.holds {e : TypeId} {w : World} {v : Value} {ds : List Dg} (h : OwnD e w v ds) : Ways w (fun b => v.ownBlock = some b) v ds := by
  obtain ⟨hok, h⟩ := h
  rcases h.2 with ⟨rfl, h0⟩ | ⟨g, cap, cur, rfl, _, hg, hnc, hcm, _, _⟩
  · obtain rfl : ds = [] := List.eq_nil_of_length_eq_zero h0
    exact ⟨none, 0, [], rfl, Nat.le_refl 0, by simp [maxLen], fun _ => rfl, fun h => absurd rfl h, rfl⟩
  · exact ⟨_, cap, _, rfl, hnc, hcm, by simp, fun _ => ⟨_, rfl, rfl, World.ownsRow.cells h rfl⟩, digs_iff.2 ⟨rfl, hok⟩⟩
/-- A signature's cells: the pieces, the key's number, the way. -/
def sigC (C : List Value) (key : Nat) (v : Value) : List Value := C ++ [.int .u32 (key : Int), v]
theorem sigC_len {C : List Value} (h : C.length = 1024) (key : Nat) (v : Value) : (sigC C key v).length = 1026 := by simp [sigC, h]
theorem sigC_take {C : List Value} (h : C.length = 1024) (key : Nat) (v : Value) : (sigC C key v).take 1024 = C := List.take_left' h
theorem sigC_key {C : List Value} (h : C.length = 1024) (key : Nat) (v : Value) : (sigC C key v)[1024]? = some (.int .u32 (key : Int)) := by rw [sigC, List.getElem?_append_right (by omega), h]; rfl
theorem sigC_way {C : List Value} (h : C.length = 1024) (key : Nat) (v : Value) : (sigC C key v)[1025]? = some v := by rw [sigC, List.getElem?_append_right (by omega), h]; rfl
theorem sigC_set {C : List Value} (h : C.length = 1024) (key : Nat) (v u : Value) : (sigC C key v).set 1025 u = sigC C key u := by rw [sigC, List.set_append_right _ _ (by omega), h]; rfl
theorem sigC_one {C : List Value} (h : ∀ u ∈ C, u.oneCell' = true) (key : Nat) (A : Option Addr) (n c : Nat) : ∀ u ∈ sigC C key (.slice A n c), u.oneCell' = true := by
  intro u hu
  rcases List.mem_append.1 hu with hu | hu
  · exact h u hu
  · simp only [List.mem_cons, List.not_mem_nil, or_false] at hu
    rcases hu with rfl | rfl <;> rfl
theorem src_at {w : World} {g : Nat} (hg : w.heap.size = g) (cs : List Value) (t : TypeId) (m : Nat) : Src (w.alloc (.cells cs.toArray t)) (some ⟨g, 0, none⟩) m cs := by
  subst hg; exact src_new w cs t m
theorem szInTo05 {n : Nat} (h : n = 1024) : (Try.prog.info? 26).map (·.size) = some n := by subst h; kernel_rfl
theorem szOutTo05 {n : Nat} (h : n = 1026) : (Try.prog.info? 39).map (·.size) = some n := by subst h; kernel_rfl
theorem szElTo05 {n : Nat} (h : n = 32) : (Try.prog.info? 31).map (·.size) = some n := by subst h; kernel_rfl
theorem szEbTo05 {n : Nat} (h : n = 32) : (Try.prog.info? 55).map (·.size) = some n := by subst h; kernel_rfl
theorem zElTo05 : (Try.prog.info? 31).bind (fun i => i.zero.map (·.cells)) = some (List.replicate 32 (Value.int .u8 0)).toArray := by kernel_rfl
theorem zEbTo05 : ((Try.prog.info? 55).bind (·.zero)).isSome = true := by kernel_rfl
theorem zOutTo05 : (Try.prog.info? 39).bind (fun i => i.zero.map (·.cells)) = some (List.replicate 1024 (Value.int .u8 0) ++ [Value.int .u32 0, Value.slice none 0 0]).toArray := by kernel_rfl
theorem fieldsTo05 : ∃ fields, Try.prog.underlying 39 = some (.struct fields) ∧ fields.toList.mapM (fun f => (Try.prog.info? f.type).map fun i => (f.offset, i.size)) = some [(0, 1024), (1024, 1), (1025, 1)] :=
  ⟨_, Try.underlying39, by kernel_rfl⟩
theorem partsTo05 : ∃ (i : TypeInfo) (z : Value), Try.prog.info? 55 = some i ∧ i.zero = some z ∧ i.size = 32 ∧ i.bytes = 32 ∧ z.cells.size = 32 := by
  have h : ((Try.prog.info? 55).bind fun i => i.zero.map fun z => (i.size, i.bytes, z.cells.size)) = some (32, 32, 32) := by kernel_rfl
  obtain ⟨i, hi, h2⟩ := Option.bind_eq_some_iff.1 h
  obtain ⟨z, hz, h3⟩ := Option.map_eq_some_iff.1 h2
  have h4 : i.size = 32 ∧ i.bytes = 32 ∧ z.cells.size = 32 := by simpa using h3
  exact ⟨i, z, hi, hz, h4⟩
set_option maxRecDepth 100000 in
set_option maxHeartbeats 8000000 in
theorem To05 (C : List Value) (key : Nat) (u : Value) (ds : List Dg) (w : World) (F : Fp) (hC : C.length = 1024) (hone : ∀ u ∈ C, u.oneCell' = true) (hc : Ways w F u ds) (hF : ∀ b, F b → b < w.heap.size) (hlen : List.length (α := Dg) ds ≤ 1099511627776) :
    Calls Try.prog 10 #[.agg (sigC C key u).toArray] w fun e w' => ∃ v, e = .returned (.agg (sigC C key v).toArray) ∧ OwnD 55 w' v ds ∧ Ext w w' ∧ ∀ b, v.ownBlock = some b → w.heap.size ≤ b := by
  obtain ⟨i1, z1, hi1, hz1, hi2, hi3, hi4⟩ := partsTo05
  obtain ⟨fields, hfu, hfp⟩ := fieldsTo05
  obtain ⟨A, c, xs, rfl, hlc, hcm, hA, hcell, hall⟩ := ways_open hc
  clear hc
  unfold maxLen at hcm
  obtain ⟨ZR, hzr, hzl, hfl⟩ : ∃ ZR : List Value, (Try.prog.info? 39).bind (fun i => i.zero.map (·.cells)) = some ZR.toArray ∧ ZR.length = 1026 ∧ fillL ([(0, 1024), (1024, 1), (1025, 1)].toArray[·]?) ZR [(0, C), (1, [.int .u32 (key : Int)])] = some (sigC C key (.slice none 0 0)) := by
    refine ⟨_, zOutTo05, by simp, ?_⟩
    simp [fillL, hC, sigC, List.drop_append]
  obtain ⟨ZE, hze, hzel⟩ : ∃ ZE : List Value, (Try.prog.info? 31).bind (fun i => i.zero.map (·.cells)) = some ZE.toArray ∧ ZE.length = 32 := ⟨_, zElTo05, List.length_replicate⟩
  have HCL := Lib.hid hC
  have HZL := Lib.hid hzl
  have HFL := Lib.hid hfl
  have HZE := Lib.hid hzel
  generalize hU : Value.slice A (List.length (α := Dg) ds) c = u at *
  have hb1 : Blk ((w.alloc (.cells (sigC C key u).toArray 30)).alloc (.cells ZR.toArray 39)) w.heap.size 30 (sigC C key u) := (Blk.new _ _ _).keep ((Ext.refl _).alloc _) (by simp)
  have hb2 : Blk ((w.alloc (.cells (sigC C key u).toArray 30)).alloc (.cells ZR.toArray 39)) (w.heap.size + 1) 39 ZR := Blk.fresh (by simp) _ _
  have hx0 : Ext w ((w.alloc (.cells (sigC C key u).toArray 30)).alloc (.cells ZR.toArray 39)) := ((Ext.refl w).alloc _).alloc _
  have hsl : (sigC C key u)[1025]? = some (.slice A (List.length (α := Dg) ds) c) := by rw [hU]; exact sigC_way hC key u
  have hky := sigC_key hC key u
  have htk := sigC_take hC key u
  have hsl9 := sigC_len hC key u
  generalize sigC C key u = SC at *
  have HSL := Lib.hid hsl
  have HKEY := Lib.hid hky
  have HTK := Lib.hid htk
  have HB1 := Lib.hid hb1
  have HB2 := Lib.hid hb2
  have HX0 := Lib.hid hx0
  clear hC hzl hfl hzel hb1 hb2 hx0 hsl hky htk hU
  go_enter Try.func10, Try.ntmps10
  go_wp2_with (first
    | (refine wpList_alloc _ rfl 39 rfl _ hzr ?_)
    | fail)
  have hx : Ext w ((w.alloc (.cells SC.toArray 30)).alloc (.cells ZR.toArray 39)).drew := HX0.out.drew
  have hb1 : Blk ((w.alloc (.cells SC.toArray 30)).alloc (.cells ZR.toArray 39)).drew w.heap.size 30 SC := HB1.out
  have hb2 : Blk ((w.alloc (.cells SC.toArray 30)).alloc (.cells ZR.toArray 39)).drew (w.heap.size + 1) 39 ZR := HB2.out
  refine startM (KeepB fun b => b < ((w.alloc (.cells SC.toArray 30)).alloc (.cells ZR.toArray 39)).drew.heap.size) (by kernel_rfl) ?_
  (try simp only [Act.put, List.setIfInBounds_toArray, List.set_cons_succ, List.set_cons_zero])
  generalize ((w.alloc (.cells SC.toArray 30)).alloc (.cells ZR.toArray 39)).drew = w0 at *
  have hcc : Cells w0 ⟨w.heap.size, 0, none⟩ C := by have h := hb1.cells.take 1024; rw [HTK.out] at h; exact h
  have hky : w0.cell? ⟨w.heap.size, 1024, none⟩ = some (.int .u32 (key : Int)) := (hb1.cell 1024).trans HKEY.out
  have HBL := Lib.hid hb1.lt
  have HCC := Lib.hid hcc
  have HKY := Lib.hid hky
  have HB1 := Lib.hid hb1
  have HB2 := Lib.hid hb2
  have HX := Lib.hid hx
  have hJ := AJ.start w0 39 ZR
  have HJ := Lib.hid hJ
  clear hx hb1 hb2 hcc hky hJ
  apply sharedA (fun g W => AJ w0 39 ZR (some g) W)
  · intro hM
    refine takeK 0 rfl (by kernel_rfl) (by kernel_rfl) (by kernel_rfl) rfl (fun _ _ _ _ h => h) rfl (fun K hK => ?_)
    go_big_quiet_op
    first | refine hK _ ?_ | refine ⟨_, fun _ _ => rfl, hK _ ?_⟩
    clear hK K
    refine takeK 1 rfl (by kernel_rfl) (by kernel_rfl) (by kernel_rfl) rfl (fun _ _ _ _ h => h) rfl (fun K hK => ?_)
    refine quiet_agg 26 (.tmp 6) rfl _ rfl C _ Try.underlying26 rfl (szInTo05 HCL.out) (fun W' h => KeepB.cells h HCC.out HBL.out) ?_
    refine hK _ ?_
    simp only [Act.put, List.setIfInBounds_toArray, List.set_cons_succ, List.set_cons_zero]
    clear hK K
    refine takeK 3 rfl (by kernel_rfl) (by kernel_rfl) (by kernel_rfl) rfl (fun _ _ _ _ h => h) rfl (fun K hK => ?_)
    go_big_quiet_op
    first | refine hK _ ?_ | refine ⟨_, fun _ _ => rfl, hK _ ?_⟩
    clear hK K
    refine takeK 4 rfl (by kernel_rfl) (by kernel_rfl) (by kernel_rfl) rfl (fun _ _ _ _ h => h) rfl (fun K hK => ?_)
    refine quiet_cell _ _ rfl _ rfl _ _ Try.underlying27 rfl (fun W' h => KeepB.cell h HKY.out HBL.out) ?_
    refine hK _ ?_
    simp only [Act.put, List.setIfInBounds_toArray, List.set_cons_succ, List.set_cons_zero]
    clear hK K
    refine bothM 2 6 rfl rfl (by kernel_rfl) rfl rfl (fun K hK => ?_) (fun K hK => ?_)
    · go_simp
      refine (To04 C _ HCL.out hone).mono ?_
      rintro e w6 ⟨rfl, hx6⟩
      have hkb := (HJ.out.step hx6).2
      have HJ := Lib.hid (HJ.out.step hx6).1
      refine hK _ _ (hkb) ?_
      clear hK K
      refine takeK 5 rfl (by kernel_rfl) (by kernel_rfl) (by kernel_rfl) rfl (fun _ _ _ _ h => h) rfl (fun K hK => ?_)
      refine quiet_build_st 39 #[(0, .tmp 8), (1, .tmp 10)] rfl fields ZR (sigC C key (.slice none 0 0)) _ _ hfu hzr hfp (by simp [Value.cells, Act.eval]) HFL.out ?_
      refine hK _ ?_
      simp only [Act.put, List.setIfInBounds_toArray, List.set_cons_succ, List.set_cons_zero]
      clear hK K
      refine stepM 6 rfl (by kernel_rfl) rfl (fun K hK => ?_)
      refine wp_alloc_agg 39 rfl ZR hzr ?_
      refine hK _ _ (HJ.out.keepAlloc _) ?_
      clear hK K
      (try simp only [Act.put, List.setIfInBounds_toArray, List.set_cons_succ, List.set_cons_zero])
      have HJ := Lib.hid HJ.out.alloc
      have hJf := HJ.out
      revert hJf
      generalize w6.alloc (.cells ZR.toArray 39) = W9
      generalize w6.heap.size = g9
      intro hJf
      exact hM g9 W9 hJf
    · refine wp_alloc_agg 39 rfl ZR hzr ?_
      refine hK _ _ (HJ.out.keepAlloc _) ?_
      clear hK K
      (try simp only [Act.put, List.setIfInBounds_toArray, List.set_cons_succ, List.set_cons_zero])
      have HJ := Lib.hid HJ.out.alloc
      refine stepM 2 rfl (by kernel_rfl) rfl (fun K hK => ?_)
      go_simp
      refine (To04 C _ HCL.out hone).mono ?_
      rintro e w6 ⟨rfl, hx6⟩
      have hkb := (HJ.out.step hx6).2
      have HJ := Lib.hid (HJ.out.step hx6).1
      refine hK _ _ (hkb) ?_
      clear hK K
      refine takeK 5 rfl (by kernel_rfl) (by kernel_rfl) (by kernel_rfl) rfl (fun _ _ _ _ h => h) rfl (fun K hK => ?_)
      refine quiet_build_st 39 #[(0, .tmp 8), (1, .tmp 10)] rfl fields ZR (sigC C key (.slice none 0 0)) _ _ hfu hzr hfp (by simp [Value.cells, Act.eval]) HFL.out ?_
      refine hK _ ?_
      simp only [Act.put, List.setIfInBounds_toArray, List.set_cons_succ, List.set_cons_zero]
      clear hK K
      refine relist (by kernel_rfl) (hM _ _ HJ.out)
  rintro g W hJ
  have HGB := Lib.hid (hJ.blk g rfl)
  have HJ := Lib.hid hJ
  clear hJ
  refine stepM 7 rfl (by kernel_rfl) rfl (fun K hK => ?_)
  refine wp_store_row 39 (.tmp 3) (.tmp 11) rfl g rfl ZR (sigC C key (.slice none 0 0)) _ rfl HGB.out.2 (szOutTo05 (sigC_len HCL.out _ _)) (by rw [sigC_len HCL.out, HZL.out]) (sigC_one hone _ _ _ _) ?_
  refine hK _ _ (fun b hb => (setRow_only _).block _ (Nat.lt_of_lt_of_le hb HJ.out.ext.size) (by have := HGB.out.1; simp; omega)) ?_
  clear hK K
  (try simp only [Act.put, List.setIfInBounds_toArray, List.set_cons_succ, List.set_cons_zero])
  refine doneM (by kernel_rfl) ?_ _
  have hg0 := HGB.out.1
  have hx0 := HX.out.size
  have hbl := HB2.out.lt
  have hx9 : Ext w (W.setRow g (sigC C key (.slice none 0 0)).toArray) := grown_then (HX.out.trans HJ.out.ext) (setRow_only _) (.inr (by rintro b ⟨⟩; omega))
  have hb1 : Blk (W.setRow g (sigC C key (.slice none 0 0)).toArray) w.heap.size 30 SC := (HB1.out.keep HJ.out.ext (by simp)).keep (setRow_only _) (by simp; omega)
  have hb2 : Blk (W.setRow g (sigC C key (.slice none 0 0)).toArray) (w.heap.size + 1) 39 ZR := (HB2.out.keep HJ.out.ext (by simp)).keep (setRow_only _) (by simp; omega)
  have hb3 : Blk (W.setRow g (sigC C key (.slice none 0 0)).toArray) g 39 (sigC C key (.slice none 0 0)) := setRow_at HGB.out.2
  have hgg : w.heap.size + 1 < g := by omega
  generalize W.setRow g (sigC C key (.slice none 0 0)).toArray = w1 at *
  have c13 : w1.cell? ⟨w.heap.size, 1025, none⟩ = some (.slice A (List.length (α := Dg) ds) c) := (hb1.cell 1025).trans HSL.out
  have HX1 := Lib.hid hx9
  have HB91 := Lib.hid hb1
  have HB92 := Lib.hid hb2
  have HB93 := Lib.hid hb3
  clear hx9 hb1 hb2 hb3 HX HB1 HB2 HJ HGB HCC HKY HBL hg0 hx0 hbl
  go_wp2
  go_loopw [5, 15] (fun p i wr => ∃ (k : Nat) (v : Value), k ≤ List.length (α := Dg) ds ∧ i = .int .i64 k ∧ Ext w wr ∧ Blk wr (w.heap.size + 1) 39 ZR ∧ Blk wr g 39 (sigC C key v) ∧ OwnD 55 wr v (ds.take k) ∧ (∀ b, v.ownBlock = some b → w.heap.size + 2 ≤ b ∧ b ≠ g) ∧ ∃ q, p = q) (fun _ i _ => List.length (α := Dg) ds - (intOf i).toNat)
  case atStart => exact ⟨0, .slice none 0 0, by omega, rfl, HX1.out, HB92.out, HB93.out, ⟨by simp, Own.nil _ _ _⟩, by simp [Value.ownBlock], _, rfl⟩
  case round =>
    clear HX1 HB91 HB92 HB93 c13
    obtain ⟨k, v, hk, rfl, hx, hb2, hb3, hov, hfar, q, rfl⟩ := hrel
    by_cases hlt : k < List.length (α := Dg) ds
    · obtain ⟨ad, rfl, hf, hcells⟩ := hcell (by omega)
      obtain ⟨hcc, hdl⟩ := digs_at hall (hcells.keep (hx.same hF _ hf)) hlt
      have htk : ds.take (k + 1) = ds.take k ++ [ds[k]] := List.take_succ_eq_append_getElem hlt
      have htl : List.length (α := Dg) (ds.take k) = k := by rw [List.length_take]; omega
      have hone3 := bv_one ds[k]
      have hD : (bv ds[k]).length = 32 := by simpa using hdl
      generalize hdk : ds[k] = dk at *
      generalize hDE : bv dk = D at *
      have hvw := (hb3.cell 1025).trans (sigC_way HCL.out key v)
      have hb3' : Blk (wr.alloc (.cells D.toArray 31)) g 39 (sigC C key v) := hb3.keep ((Ext.refl _).alloc _) (by simp)
      have hvw' : (wr.alloc (.cells D.toArray 31)).cell? ⟨g, 1025, none⟩ = some v := (hb3'.cell 1025).trans (sigC_way HCL.out key v)
      have hcd : Cells (wr.alloc (.cells D.toArray 31)) ⟨wr.heap.size, 0, none⟩ D := (Blk.new wr 31 D).cells
      have hxa : Ext wr ((wr.alloc (.cells D.toArray 31)).alloc (.cells D.toArray 55)) := ((Ext.refl wr).alloc _).alloc _
      have HXA := Lib.hid hxa
      have HX := Lib.hid hx
      have HB2 := Lib.hid hb2
      have HB3 := Lib.hid hb3
      have HOV := Lib.hid hov
      have HFAR := Lib.hid hfar
      have HDL := Lib.hid hD
      have HTK := Lib.hid htk
      have how : Own wr 55 32 v k ((ds.take k).flatMap bv) := by have h := HOV.out.2; rw [htl] at h; exact h
      have HOW := Lib.hid how
      have HTL := Lib.hid htl
      have HDE := Lib.hid hDE
      have HDL2 := Lib.hid hdl
      clear how hx hb2 hb3 hov hfar hD htk htl hDE hdl hcells hb3' hxa hvw hdk
      go_wp2_with (first
        | (refine wpList_load_agg _ rfl 31 (.tmp 17) rfl _ rfl D _ Try.underlying31 rfl (szElTo05 HDL.out) hcc ?_)
        | (refine wpList_alloc _ rfl 31 rfl _ hze ?_)
        | (refine wpList_store_new _ rfl 31 (.tmp 5) (.tmp 18) rfl rfl ZE D _ rfl (szElTo05 HDL.out) (by rw [HDL.out, HZE.out]) hone3 ?_)
        | (refine wpList_load_agg _ rfl 31 (.tmp 5) rfl _ rfl D _ Try.underlying31 rfl (szElTo05 HDL.out) hcd ?_)
        | (refine wpList_one _ rfl 37 (.tmp 21) rfl 55 D Try.underlying37 rfl (szEbTo05 HDL.out) zEbTo05 (by rw [HDL.out]; decide) (by rw [HDL.out]; decide) ?_)
        | (at_builtin
           go_must (refine wpList_app _ rfl (.tmp 20) (.tmp 22) _ _ rfl 55 55 i1 z1 32 32 Try.underlying37 Try.underlying37 hi1 hz1 hi2 hi3 hi4 (by decide) v _ _ rfl (HOW.out.ext HXA.out) _ 1 1 D rfl (by rw [HDL.out]) (src_at rfl D _ 1) hone3 (by unfold maxLen; omega) (by omega) ?_)
           intro v7 w7 ho7 hm7
           obtain ⟨A7, c7, hv7⟩ := Own.form ho7
           subst hv7
           have HB7 := Lib.hid ((HB3.out.keep HXA.out (by simp)).keep hm7.grown (fun e => (HFAR.out _ e.symm).2 rfl))
           have s9 : w7.cell? ⟨g, 1025, none⟩ = some v := (HB7.out.cell 1025).trans (sigC_way HCL.out key v)
           have f9 : w7.frozen? ⟨g, 1025, none⟩ = false := HB7.out.free 1025)
        | fail)
      have far7 : ∀ b, (Value.slice A7 (k + 1) c7).ownBlock = some b → w.heap.size + 2 ≤ b ∧ b ≠ g := fun b hb => by
        rcases hm7.at_ with e | hn
        · exact HFAR.out b (e.symm.trans hb)
        · have h1 := hn b hb
          have h2 := HB3.out.lt
          have h3 := HX.out.size
          simp at h1
          omega
      have ne : ∀ x, (x < w.heap.size + 2 ∨ x = g) → some x ≠ v.ownBlock := fun x hx e => by have := HFAR.out x e.symm; omega
      have hx8 : Ext w (w7.setCell ⟨g, 1025, none⟩ (.slice A7 (k + 1) c7)) := grown_then (grown_then (HX.out.trans HXA.out) hm7.grown (.inr fun x hx => by have := HFAR.out x hx; omega)) (only_set 1025 _) (.inr (by rintro b ⟨⟩; omega))
      have hb28 : Blk (w7.setCell ⟨g, 1025, none⟩ (.slice A7 (k + 1) c7)) (w.heap.size + 1) 39 ZR := ((HB2.out.keep HXA.out (by simp)).keep hm7.grown (ne _ (.inl (by omega)))).keep (only_set 1025 _) (by simp; omega)
      have hb38 : Blk (w7.setCell ⟨g, 1025, none⟩ (.slice A7 (k + 1) c7)) g 39 (sigC C key (.slice A7 (k + 1) c7)) := by
        have := HB7.out.set 1025 (.slice A7 (k + 1) c7)
        rwa [sigC_set HCL.out] at this
      have ho8 : OwnD 55 (w7.setCell ⟨g, 1025, none⟩ (.slice A7 (k + 1) c7)) (.slice A7 (k + 1) c7) (ds.take (k + 1)) := by
        rw [HTK.out]
        refine ⟨fun d hd => ?_, ?_⟩
        · rcases List.mem_append.1 hd with hd | hd
          · exact HOV.out.1 d hd
          · rw [List.mem_singleton.1 hd]; exact HDL2.out
        · have e1 : (ds.take k ++ [dk]).flatMap bv = (ds.take k).flatMap bv ++ D := by rw [← HDE.out]; simp
          have e2 : List.length (α := Dg) (ds.take k ++ [dk]) = k + 1 := by rw [List.length_append, HTL.out]; rfl
          rw [e1, e2]
          refine ho7.keep (row := some g) (only_set 1025 _) ?_
          cases hvb : (Value.slice A7 (k + 1) c7).ownBlock with
          | none => exact .inl rfl
          | some b => exact .inr (by have := (far7 b hvb).2; simpa using this)
      have HX8 := Lib.hid hx8
      have HB28 := Lib.hid hb28
      have HB38 := Lib.hid hb38
      have HO8 := Lib.hid ho8
      have HF8 := Lib.hid far7
      go_roundw
      case rel => exact ⟨k + 1, _, by omega, by go_num, HX8.out, HB28.out, HB38.out, HO8.out, HF8.out, _, rfl⟩
      case measure => simp [intOf]; omega
    · obtain rfl : k = List.length (α := Dg) ds := by omega
      have htk : ds.take (List.length (α := Dg) ds) = ds := List.take_length
      rw [htk] at hov
      have hcm := hb3.cells
      have hr2 : wr.heap[w.heap.size + 1]? = some (.cells ZR.toArray 39 (0, 0)) := hb2
      have hml := sigC_len HCL.out key v
      have hmone : ∀ u ∈ sigC C key v, u.oneCell' = true := by obtain ⟨A2, c2, h⟩ := hov.2.form; rw [h]; exact sigC_one hone _ _ _ _
      obtain ⟨M, hM⟩ : ∃ M, M = sigC C key v := ⟨_, rfl⟩
      rw [← hM] at hcm hml hmone
      have HM := Lib.hid hM
      have HX := Lib.hid hx
      have HOV := Lib.hid hov
      have HML := Lib.hid hml
      have HFAR := Lib.hid hfar
      clear hx hb2 hb3 hov hml hM hfar htk
      go_wp2_with (first
        | (refine wpList_load_agg _ rfl 39 (.tmp 3) rfl _ rfl M _ Try.underlying39 rfl (szOutTo05 HML.out) hcm ?_)
        | (refine wpList_store_row _ rfl 39 (.tmp 2) (.tmp 26) rfl (w.heap.size + 1) rfl ZR M _ rfl hr2 (szOutTo05 HML.out) (by rw [HML.out, HZL.out]) hmone ?_)
        | fail)
      have hc9 := Blk.cells (t := 39) (setRow_at (cs' := M.toArray) hr2)
      (try simp only [Exit.inBlock, Exit.then])
      refine bodyPost_ret (results_agg rfl _ _ _ _ _ rfl Try.underlying39 rfl (szOutTo05 HML.out) hc9) rfl ?_
      refine ⟨v, by rw [HM.out], ⟨HOV.out.1, HOV.out.2.keep (row := some (w.heap.size + 1)) (setRow_only _) ?_⟩, grown_then HX.out (setRow_only _) (.inr (by rintro b ⟨⟩; omega)), fun b hb => by have := HFAR.out b hb; omega⟩
      cases hvb : v.ownBlock with
      | none => exact .inl rfl
      | some b => exact .inr (by have := (HFAR.out b hvb).1; simp; omega)
end
section

/-- What two sums are known by. -/
def aboveM (a b : Dg) : Dg := sha (textM 3 [a, b])
theorem aboveM_length (a b : Dg) : List.length (α := UInt8) (aboveM a b) = 32 := sha_length _
theorem leafM_length (seed : List UInt8) (n : Nat) : (leafM seed n).length = 32 := leafOf_length _
/-- The row above. -/
def upM (l : List Dg) : List Dg := (List.range (l.length / 2)).map fun i => aboveM (l.getD (2 * i) []) (l.getD (2 * i + 1) [])
/-- The rows of a ring. -/
def levM (seed : List UInt8) (tall : Nat) : Nat → List Dg
  | 0 => (List.range (2 ^ tall)).map (leafM seed)
  | j + 1 => upM (levM seed tall j)
def levsM (seed : List UInt8) (tall : Nat) : List (List Dg) := (List.range (tall + 1)).map (levM seed tall)
theorem upM_length (l : List Dg) : (upM l).length = l.length / 2 := by simp [upM]
theorem levM_length (seed : List UInt8) (tall : Nat) : ∀ j, j ≤ tall → List.length (α := Dg) (levM seed tall j) = 2 ^ (tall - j)
  | 0, _ => by simp [levM]
  | j + 1, h => by
    rw [levM, upM_length, levM_length seed tall j (by omega), show tall - j = (tall - (j + 1)) + 1 by omega, Nat.pow_succ]
    omega
theorem levM_len (seed : List UInt8) (tall : Nat) : ∀ j, ∀ d ∈ levM seed tall j, List.length (α := UInt8) d = 32
  | 0, d, h => by
    simp only [levM, List.mem_map] at h
    obtain ⟨k, _, rfl⟩ := h
    exact leafM_length _ _
  | j + 1, d, h => by
    simp only [levM, upM, List.mem_map] at h
    obtain ⟨k, _, rfl⟩ := h
    exact aboveM_length _ _
theorem upM_at (l : List Dg) {i : Nat} (h : i < l.length / 2) : (upM l).getD i [] = aboveM (l.getD (2 * i) []) (l.getD (2 * i + 1) []) := by
  simp [upM, List.getD, h]
theorem lev0_at (seed : List UInt8) (tall : Nat) {i : Nat} (h : i < 2 ^ tall) : (levM seed tall 0).getD i [] = leafM seed i := by
  simp [levM, List.getD, h]
def rootM (seed : List UInt8) (tall : Nat) : Dg := (levM seed tall tall).getD 0 []
/-- The other one of two. -/
def sideM (k : Nat) : Nat := if k % 2 = 1 then k - 1 else k + 1
/-- The way up from a key. -/
def wayM (seed : List UInt8) (tall key : Nat) : List Dg := (List.range tall).map fun j => (levM seed tall j).getD (sideM (key / 2 ^ j)) []
theorem wayM_length (seed : List UInt8) (tall key : Nat) : List.length (α := Dg) (wayM seed tall key) = tall := by simp [wayM]
theorem wayM_take (seed : List UInt8) (tall key : Nat) {j : Nat} (h : j < tall) : (wayM seed tall key).take (j + 1) = (wayM seed tall key).take j ++ [(levM seed tall j).getD (sideM (key / 2 ^ j)) []] := by
  rw [List.take_add_one]
  congr 1
  simp [wayM, h]
/-- So far up. -/
def climbM (key : Nat) (x : Dg) (ds : List Dg) : Nat → Dg
  | 0 => x
  | i + 1 => if key / 2 ^ i % 2 = 1 then aboveM (ds.getD i []) (climbM key x ds i) else aboveM (climbM key x ds i) (ds.getD i [])
theorem climbM_length (key : Nat) {x : Dg} (ds : List Dg) (hx : List.length (α := UInt8) x = 32) : ∀ i, List.length (α := UInt8) (climbM key x ds i) = 32
  | 0 => hx
  | i + 1 => by
    rw [climbM]
    split <;> exact aboveM_length _ _
theorem climb_way (seed : List UInt8) (tall key : Nat) (hk : key < 2 ^ tall) : ∀ i, i ≤ tall → climbM key (leafM seed key) (wayM seed tall key) i = (levM seed tall i).getD (key / 2 ^ i) []
  | 0, _ => by rw [climbM, Nat.pow_zero, Nat.div_one, lev0_at seed tall hk]
  | i + 1, h => by
    have ih := climb_way seed tall key hk i (by omega)
    have hw : (wayM seed tall key).getD i [] = (levM seed tall i).getD (sideM (key / 2 ^ i)) [] := by
      simp [wayM, List.getD, show i < tall by omega]
    have hpos : 0 < 2 ^ i := Nat.two_pow_pos i
    have hlt : key / 2 ^ i < 2 ^ (tall - i) := by
      rw [Nat.div_lt_iff_lt_mul hpos, ← Nat.pow_add, show tall - i + i = tall by omega]
      exact hk
    have hdd : key / 2 ^ (i + 1) = key / 2 ^ i / 2 := by rw [Nat.pow_succ, Nat.div_div_eq_div_mul]
    have hl := levM_length seed tall i (by omega)
    have hhalf : key / 2 ^ i / 2 < List.length (α := Dg) (levM seed tall i) / 2 := by
      rw [hl, show tall - i = (tall - (i + 1)) + 1 by omega, Nat.pow_succ] at *
      omega
    rw [climbM, ih, hw, hdd]
    show _ = (upM (levM seed tall i)).getD _ []
    rw [upM_at _ hhalf]
    generalize key / 2 ^ i = m
    unfold sideM
    by_cases hm : m % 2 = 1
    · rw [if_pos hm, if_pos hm, show 2 * (m / 2) + 1 = m by omega, show 2 * (m / 2) = m - 1 by omega]
    · rw [if_neg hm, if_neg hm, show 2 * (m / 2) + 1 = m + 1 by omega, show 2 * (m / 2) = m by omega]
theorem climb_root (seed : List UInt8) (tall key : Nat) (hk : key < 2 ^ tall) : climbM key (leafM seed key) (wayM seed tall key) tall = rootM seed tall := by
  rw [climb_way seed tall key hk tall (Nat.le_refl _), Nat.div_eq_of_lt hk]; rfl
/-- Is a signature right? -/
def rightM (S : List UInt8) (keyS : Nat) (ds : List Dg) (root : Dg) (tall : Int) (key : Nat) (d : Dg) : Bool :=
  if tall < 0 ∨ ((List.length (α := Dg) ds : Nat) : Int) ≠ tall ∨ keyS ≠ key ∨ (tall < 32 ∧ key / 2 ^ tall.toNat ≠ 0) then false else decide (climbM key (fromS S d) ds (List.length (α := Dg) ds) = root)
theorem right_signed (seed : List UInt8) (tall key : Nat) (d : Dg) (hk : key < 2 ^ tall) : rightM (signM seed key d) key (wayM seed tall key) (rootM seed tall) (tall : Int) key d = true := by
  unfold rightM
  rw [if_neg, fromS_sign, wayM_length, climb_root seed tall key hk]
  · simp
  · rw [wayM_length, Int.toNat_natCast, Nat.div_eq_of_lt hk]
    omega
theorem levM_all (seed : List UInt8) (tall j i : Nat) (hj : j ≤ tall) (hi : i < 2 ^ (tall - j)) : List.length (α := UInt8) ((levM seed tall j).getD i []) = 32 := by
  have hl := levM_length seed tall j hj
  have hi' : i < List.length (α := Dg) (levM seed tall j) := by rw [hl]; exact hi
  have : (levM seed tall j).getD i [] = (levM seed tall j)[i] := by simp [List.getD, hi']
  rw [this]
  exact levM_len seed tall j _ (List.getElem_mem _)
theorem rootM_length (seed : List UInt8) (tall : Nat) : List.length (α := UInt8) (rootM seed tall) = 32 := levM_all seed tall tall 0 (Nat.le_refl _) (by simp)
end
section
open Go.RowKit

/-- Is it the operation that fills this slot? (Ahead of an arm, 'with_reducible'.) -/
theorem wpDst {P : Program} {w : World} {ops : Array Oper} {rest : List Oper} {o : Oper} {a : Act} {Q : Exit → Act → World → Prop} (n : Nat) (_ : o.dst = some n) (h : wpList P ops Q (o :: rest) a w) : wpList P ops Q (o :: rest) a w := h
/-- Is it the store of this slot at that one? -/
theorem wpSto {P : Program} {w : World} {ops : Array Oper} {rest : List Oper} {o : Oper} {a : Act} {Q : Exit → Act → World → Prop} {ty : TypeId} (p x : Nat) (_ : o.op = .store ty (.tmp p) (.tmp x)) (h : wpList P ops Q (o :: rest) a w) : wpList P ops Q (o :: rest) a w := h
/-- A load of a whole struct or array, named by the slot that it fills. -/
theorem wpList_loadD {P : Program} {w : World} {ops : Array Oper} {rest : List Oper} {o : Oper} {a : Act} {Q : Exit → Act → World → Prop} (dst : Nat) (hdst : o.dst = some dst) (hgd : o.guard = none) (ty : TypeId) (x : Operand) (ho : o.op = .load ty x)
    (ad : Addr) (hx : a.eval x = .pointer (some ad)) (cs : List Value) (d : TypeDesc) (hu : P.underlying ty = some d) (hd : isAggD d = true) (hi : (P.info? ty).map (·.size) = some cs.length) (hc : Cells w ad cs)
    (h : wpList P ops Q rest (a.put o.dst (.agg cs.toArray)) w) : wpList P ops Q (o :: rest) a w := wpList_load_agg w hgd ty x ho ad hx cs d hu hd hi hc h
/-- A store into the variable that was made last. -/
theorem wpList_storeN {P : Program} {w : World} {ops : Array Oper} {rest : List Oper} {o : Oper} {a : Act} {Q : Exit → Act → World → Prop} (hgd : o.guard = none) (ty : TypeId) (p x : Operand) (ho : o.op = .store ty p x)
    (w0 : World) (hp : a.eval p = .pointer (some ⟨w0.heap.size, 0, none⟩)) (old cs : List Value) (t : TypeId) (hw : w = w0.alloc (.cells old.toArray t)) (hx : a.eval x = .agg cs.toArray)
    (hi : (P.info? ty).map (·.size) = some cs.length) (hl : cs.length = old.length) (h1 : ∀ u ∈ cs, u.oneCell' = true)
    (h : wpList P ops Q rest (a.put o.dst undef) (w0.alloc (.cells cs.toArray t))) : wpList P ops Q (o :: rest) a w := by
  subst hw
  refine wpList_store_row _ hgd ty p x ho w0.heap.size hp old cs t hx (heap_alloc_new w0 _) hi hl h1 ?_
  rw [setRow_new w0 (.cells old.toArray t) old.toArray cs.toArray t rfl]
  exact h
end
section
open Go.RowKit

theorem two_parts {w : World} {a b : Value} {p q : List UInt8} {F G : Fp} {T : TypeId} (ha : (Ty.sl .u8).holds w F [a] p) (hF : ∀ x, F x → x < w.heap.size) (hb : (Ty.sl .u8).holds w G [b] q) (hG : ∀ x, G x → x < w.heap.size) :
    ∃ F', (Ty.sl (.sl .u8)).holds (w.alloc (.cells #[a, b] T)) F' [.slice (some ⟨w.heap.size, 0, none⟩) 2 2] [p, q] ∧ ∀ x, F' x → x < (w.alloc (.cells #[a, b] T)).heap.size := by
  refine ⟨_, parts_new (w := w) (vs := [a, b]) (F := fun x => F x ∨ G x) rfl rfl (by simp [maxLen]) ?_ ?_, ?_⟩
  · exact ⟨[a], [b], rfl, Ty.keep (fun _ _ => rfl) (fun _ h => .inl h) _ ha, [b], [], rfl, Ty.keep (fun _ _ => rfl) (fun _ h => .inr h) _ hb, rfl⟩
  · rintro x (h | h)
    · exact hF x h
    · exact hG x h
  · rintro x ((h | h) | rfl)
    · have := hF x h; simp; omega
    · have := hG x h; simp; omega
    · simp
theorem blk_slice {w : World} {g : Nat} {t : TypeId} {bs : List UInt8} (h : Blk w g t (bv bs)) {n : Nat} (hn : bs.length = n) (hm : n ≤ maxLen) : (Ty.sl .u8).holds w (fun b => b = g) [.slice (some ⟨g, 0, none⟩) n n] bs ∧ ∀ b, b = g → b < w.heap.size := by
  subst hn
  exact ⟨⟨_, _, bv bs, rfl, Nat.le_refl _, hm, by simp, fun _ => ⟨_, rfl, rfl, h.cells⟩, AllH.bytes.2 rfl⟩, by rintro b rfl; exact h.lt⟩
set_option maxRecDepth 100000 in
set_option maxHeartbeats 4000000 in
theorem Above (a b : Dg) (ha : List.length (α := UInt8) a = 32) (hb : List.length (α := UInt8) b = 32) (w : World) :
    Calls Try.prog 38 #[.agg (bv a).toArray, .agg (bv b).toArray] w fun e w' => e = .returned (.agg (bv (aboveM a b)).toArray) ∧ Ext w w' := by
  have hzd := digest_zero
  have hdl : (bv (List.replicate 32 0)).length = 32 := by simp
  generalize bv (List.replicate 32 0) = D at hzd hdl
  have hx0 : Ext w (((w.alloc (.cells (bv a).toArray 55)).alloc (.cells (bv b).toArray 55)).alloc (.cells D.toArray 55)).drew := ((((Ext.refl w).alloc _).alloc _).alloc _).trans (Ext.refl _).drew
  have hb0 : Blk (((w.alloc (.cells (bv a).toArray 55)).alloc (.cells (bv b).toArray 55)).alloc (.cells D.toArray 55)).drew w.heap.size 55 (bv a) := (((Blk.new _ _ _).keep ((Ext.refl _).alloc _) (by simp)).keep ((Ext.refl _).alloc _) (by simp)).keep (Ext.refl _).drew (by simp)
  have hb1 : Blk (((w.alloc (.cells (bv a).toArray 55)).alloc (.cells (bv b).toArray 55)).alloc (.cells D.toArray 55)).drew (w.heap.size + 1) 55 (bv b) := ((Blk.fresh (by simp) _ _).keep ((Ext.refl _).alloc _) (by simp)).keep (Ext.refl _).drew (by simp)
  have hb4 : Blk (((w.alloc (.cells (bv a).toArray 55)).alloc (.cells (bv b).toArray 55)).alloc (.cells D.toArray 55)).drew (w.heap.size + 2) 55 D := (Blk.fresh (by simp) _ _).keep (Ext.refl _).drew (by simp)
  have hsa : ∀ W, Ext (((w.alloc (.cells (bv a).toArray 55)).alloc (.cells (bv b).toArray 55)).alloc (.cells D.toArray 55)).drew W → (Ty.sl .u8).holds W (fun b => b = w.heap.size) [.slice (some ⟨w.heap.size, 0, none⟩) 32 32] a ∧ ∀ b, b = w.heap.size → b < W.heap.size := fun W hX => blk_slice (hb0.keep hX (by simp)) ha (by simp [maxLen])
  have hsb : ∀ W, Ext (((w.alloc (.cells (bv a).toArray 55)).alloc (.cells (bv b).toArray 55)).alloc (.cells D.toArray 55)).drew W → (Ty.sl .u8).holds W (fun b => b = w.heap.size + 1) [.slice (some ⟨w.heap.size + 1, 0, none⟩) 32 32] b ∧ ∀ b, b = w.heap.size + 1 → b < W.heap.size := fun W hX => blk_slice (hb1.keep hX (by simp)) hb (by simp [maxLen])
  have hbl : (List.flatMap blob [a, b]).length < 288230376151711744 := by simp [blob, be_length, ha, hb]
  have hrl : (bv (aboveM a b)).length = 32 := by rw [bv_length, aboveM_length]
  have hro := bv_one (aboveM a b)
  have hR : bv (sha (textM 3 [a, b])) = bv (aboveM a b) := rfl
  generalize bv (aboveM a b) = R at hrl hro hR ⊢
  have HSA := Lib.hid hsa
  have HSB := Lib.hid hsb
  have HBL := Lib.hid hbl
  have HR := Lib.hid hR
  have HRL := Lib.hid hrl
  have HDL := Lib.hid hdl
  have HB4 := Lib.hid hb4
  have HX0 := Lib.hid hx0
  clear hb0 hb1 hb4 hx0 hsa hsb hbl hR hrl hdl
  generalize bv a = AC at *
  generalize bv b = BC at *
  go_enter Try.func38, Try.ntmps38
  go_wp2_with (first
    | (refine wpList_alloc _ rfl 55 rfl _ hzd ?_)
    | fail)
  simp only [World.size_alloc]
  refine stab_store Ext ext_refl ext_trans [[0], [1], [0, 1, 2], [0, 1, 2, 3], [0, 1, 2, 3, 4]] (fun i v wv => match i with | 0 => v = .slice (some ⟨w.heap.size, 0, none⟩) 32 32 | 1 => v = .slice (some ⟨w.heap.size + 1, 0, none⟩) 32 32 | 2 => ∃ F, (Ty.sl (.sl .u8)).holds wv F [v] [a, b] ∧ ∀ b, F b → b < wv.heap.size | 3 => v = .agg R.toArray | _ => True) (by kernel_rfl) (by kernel_rfl) (by kernel_rfl) (by kernel_rfl) (by simp) ?_ ?_ ?_
  · intro i v w1 w2 h hx
    match i, h with
    | 0, h => exact h
    | 1, h => exact h
    | 2, h =>
      replace h : ∃ F, (Ty.sl (.sl .u8)).holds w1 F [v] [a, b] ∧ ∀ b, F b → b < w1.heap.size := h
      show ∃ F, (Ty.sl (.sl .u8)).holds w2 F [v] [a, b] ∧ ∀ b, F b → b < w2.heap.size
      obtain ⟨F, h1, h2⟩ := h
      exact ⟨F, hx.holds h2 h1, fun b hb => Nat.lt_of_lt_of_le (h2 b hb) hx.size⟩
    | 3, h => exact h
    | i + 4, h => trivial
  · intro i hi o ho
    match i, hi, ho with
    | 0, _, ho =>
      obtain rfl := Option.some.inj ho
      intro s W hX hd K hK
      rw [if_pos (wanted_plain rfl)]
      clear hd
      replace hK : ∀ (v : Value) (W' : World), Ext W W' → (v = .slice (some ⟨w.heap.size, 0, none⟩) 32 32) → _ := hK
      simp only [mkOf, List.map_cons, List.map_nil, Act.put, List.setIfInBounds_toArray, List.set_cons_succ, List.set_cons_zero, Nat.reduceAdd, Nat.zero_add] at hK ⊢
      go_simp
      exact hK _ _ (Ext.refl _) rfl
    | 1, _, ho =>
      obtain rfl := Option.some.inj ho
      intro s W hX hd K hK
      rw [if_pos (wanted_plain rfl)]
      clear hd
      replace hK : ∀ (v : Value) (W' : World), Ext W W' → (v = .slice (some ⟨w.heap.size + 1, 0, none⟩) 32 32) → _ := hK
      simp only [mkOf, List.map_cons, List.map_nil, Act.put, List.setIfInBounds_toArray, List.set_cons_succ, List.set_cons_zero, Nat.reduceAdd, Nat.zero_add] at hK ⊢
      go_simp
      exact hK _ _ (Ext.refl _) rfl
    | 2, _, ho =>
      obtain rfl := Option.some.inj ho
      intro s W hX hd K hK
      rw [if_pos (wanted_plain rfl)]
      have d5 : (s 0) = .slice (some ⟨w.heap.size, 0, none⟩) 32 32 := hd 0 (by decide) (by decide)
      have d6 : (s 1) = .slice (some ⟨w.heap.size + 1, 0, none⟩) 32 32 := hd 1 (by decide) (by decide)
      clear hd
      replace hK : ∀ (v : Value) (W' : World), Ext W W' → (∃ F, (Ty.sl (.sl .u8)).holds W' F [v] [a, b] ∧ ∀ b, F b → b < W'.heap.size) → _ := hK
      simp only [mkOf, List.map_cons, List.map_nil, Act.put, List.setIfInBounds_toArray, List.set_cons_succ, List.set_cons_zero, Nat.reduceAdd, Nat.zero_add] at hK ⊢
      simp only [d5, d6] at hK ⊢
      have h1 := HSA.out W hX
      have h2 := HSB.out W hX
      go_simp
      exact hK _ _ ((Ext.refl _).alloc _) (two_parts h1.1 h1.2 h2.1 h2.2)
    | 3, _, ho =>
      obtain rfl := Option.some.inj ho
      intro s W hX hd K hK
      rw [if_pos (wanted_plain rfl)]
      have d7 : ∃ F, (Ty.sl (.sl .u8)).holds W F [(s 2)] [a, b] ∧ ∀ b, F b → b < W.heap.size := hd 2 (by decide) (by decide)
      clear hd
      replace hK : ∀ (v : Value) (W' : World), Ext W W' → (v = .agg R.toArray) → _ := hK
      simp only [mkOf, List.map_cons, List.map_nil, Act.put, List.setIfInBounds_toArray, List.set_cons_succ, List.set_cons_zero, Nat.reduceAdd, Nat.zero_add] at hK ⊢
      obtain ⟨F, h1, h2⟩ := d7
      go_simp
      refine (For_i 3 3 rfl _ _ W F h1 h2 HBL.out).mono ?_
      rintro e w' ⟨rfl, hx⟩
      exact hK _ _ hx (by rw [HR.out])
    | i + 4, hi, _ => exact absurd hi (by simp)
  · intro o ho
    obtain rfl := Option.some.inj ho
    intro s W hX hd K hK
    rw [if_pos (wanted_plain rfl)]
    have d5 : (s 0) = .slice (some ⟨w.heap.size, 0, none⟩) 32 32 := hd 0 (by decide)
    have d6 : (s 1) = .slice (some ⟨w.heap.size + 1, 0, none⟩) 32 32 := hd 1 (by decide)
    have d7 : ∃ F, (Ty.sl (.sl .u8)).holds W F [(s 2)] [a, b] ∧ ∀ b, F b → b < W.heap.size := hd 2 (by decide)
    have d8 : (s 3) = .agg R.toArray := hd 3 (by decide)
    clear hd
    simp only [mkOf, List.map_cons, List.map_nil, Act.put, List.setIfInBounds_toArray, List.set_cons_succ, List.set_cons_zero, Nat.reduceAdd, Nat.zero_add]
    have hB := HB4.out.keep hX (by simp)
    refine wp_store_row 55 (.tmp 4) (.tmp 8) rfl (w.heap.size + 2) (by simp [Act.eval]) D R _ (by simpa [Act.eval] using d8) hB (digest_size HRL.out) (by rw [HRL.out, HDL.out]) hro ?_
    refine hK _ _ ?_
    have hxw : Ext w (W.setRow (w.heap.size + 2) R.toArray) := setRow_grown (HX0.out.trans hX) _ _ (by omega)
    have hc : Cells (W.setRow (w.heap.size + 2) R.toArray) ⟨w.heap.size + 2, 0, none⟩ R := Blk.cells (t := 55) (setRow_at hB)
    (try simp only [Exit.then])
    go_wp2_with fail
    (try simp only [Exit.inBlock, Exit.then])
    refine bodyPost_ret (results_agg rfl _ _ _ _ _ rfl Try.underlying55 rfl (digest_size HRL.out) hc) rfl ?_
    exact ⟨rfl, hxw⟩
end
section
open Go.RowKit

theorem rsz {n : Nat} (h : n = 1026) : (Try.prog.info? 39).map (·.size) = some n := by subst h; kernel_rfl
theorem tsig_size5 {n : Nat} (h : n = 1024) : (Try.prog.info? 36).map (·.size) = some n := by subst h; kernel_rfl
theorem and_one_u32 (m : Nat) (h : m < 4294967296) : bits .and .u32 (m : Int) 1 = ((m % 2 : Nat) : Int) := by
  have h1 := (bits_u32 m 1 h (by decide)).1
  rw [Nat.and_one_is_mod] at h1
  exact h1
theorem eqD_any (D E : List UInt8) (hD : D.length = 32) (hE : E.length = 32) : (∀ (x y : Operand) (w : World), (eqGuard .eql 55 x y (.agg (bv D).toArray) (.agg (bv E).toArray)).run Try.prog w = .ok () w) ∧ ∀ w, (binOp .eql 55 (.agg (bv D).toArray) (.agg (bv E).toArray)).run Try.prog w = .ok (.bool (D == E)) w :=
  ⟨fun x y w => run_eqGuard w .eql 55 x y _ _ (.inl rfl) (by kernel_rfl), fun w => run_eqD w 55 5 32 Try.underlying55 Try.underlying5 (by kernel_rfl) D E hD hE⟩
theorem shr_one (P : Program) (t : TypeId) (m : Nat) (w : World) : (binOp .shr t (.int .u32 (m : Int)) (.int .u64 1)).run P w = .ok (.int .u32 ((m / 2 : Nat) : Int)) w := by
  have h : (m : Int).fdiv (2 ^ min (Int.toNat 1) IntKind.u32.bits) = ((m / 2 : Nat) : Int) := by
    rw [Int.fdiv_eq_ediv_of_nonneg _ (by decide)]
    rfl
  show Sem.run P (Op.shift .shr .u32 (m : Int) .u64 1) w = _
  unfold Op.shift
  rw [if_neg (by decide)]
  show Sem.run P (pure (Value.int .u32 ((m : Int).fdiv (2 ^ min (Int.toNat 1) IntKind.u32.bits)))) w = _
  rw [h, Sem.run_pure]
theorem wpList_bin2 {P : Program} {w : World} {ops : Array Oper} {rest : List Oper} {o : Oper} {a : Act} {Q : Exit → Act → World → Prop} (hgd : o.guard = none) (op : BinOp) (t : TypeId) {t' : TypeId} (x y : Operand) (ho : o.op = .binOp op t x y t') (u v : Value) {r : Value} (hx : a.eval x = u) (hy : a.eval y = v)
    (hg : (eqGuard op t x y u v).run P w = .ok () w) (hb : (binOp op t u v).run P w = .ok r w) (h : wpList P ops Q rest (a.put o.dst r) w) : wpList P ops Q (o :: rest) a w :=
  wpList_plain hgd fun K hK => wp_bin2 op t x y ho u v hx hy hg hb (hK _ _ h)
set_option maxRecDepth 100000 in
set_option maxHeartbeats 8000000 in
theorem RightGood (S : List UInt8) (hS : S.length = 1024) (key : Nat) (u : Value) (ds : List Dg) (root : Dg) (hroot : List.length (α := UInt8) root = 32) (d : Dg) (hd : List.length (α := UInt8) d = 32) (F : Fp) (w : World)
    (hc : Ways w F u ds) (hF : ∀ b, F b → b < w.heap.size) (hlen : List.length (α := Dg) ds ≤ 1099511627776) (hkey : (Lit.int .u32 (key : Int)).wf = true) (hsh : List.length (α := Dg) ds < 32 → key / 2 ^ List.length (α := Dg) ds = 0) :
    Calls Try.prog 11 #[.agg (sigC (bv S) key u).toArray, .agg (bv root).toArray, .int .i64 ((List.length (α := Dg) ds : Nat) : Int), .int .u32 (key : Int), .agg (bv d).toArray] w fun e w' => e = .returned (.bool (climbM key (fromS S d) ds (List.length (α := Dg) ds) == root)) ∧ Ext w w' := by
  obtain ⟨A, c, xs, rfl, hlc, hcm, hA, hcell, hall⟩ := ways_open hc
  clear hc
  unfold maxLen at hcm
  have hk32 : key < 4294967296 := by have := bounds_u32 hkey; omega
  have hC : (bv S).length = 1024 := by rw [bv_length]; exact hS
  have hsl := sigC_way hC key (.slice A (List.length (α := Dg) ds) c)
  have hky := sigC_key hC key (.slice A (List.length (α := Dg) ds) c)
  have htk := sigC_take hC key (.slice A (List.length (α := Dg) ds) c)
  have hsl9 := sigC_len hC key (.slice A (List.length (α := Dg) ds) c)
  have hfr := fun W => From S hS d hd W
  have hcm0 := climbM_length key ds (show List.length (α := UInt8) (fromS S d) = 32 from leafOf_length _)
  generalize sigC (bv S) key (.slice A (List.length (α := Dg) ds) c) = SC at *
  have hzd := digest_zero
  have hdl : (bv (List.replicate 32 0)).length = 32 := by simp
  generalize bv (List.replicate 32 0) = Z at hzd hdl
  have hrl : (bv root).length = 32 := by rw [bv_length]; exact hroot
  have hdgl : (bv d).length = 32 := by rw [bv_length]; exact hd
  have hx0 : Ext w (((w.alloc (.cells SC.toArray 39)).alloc (.cells (bv root).toArray 55)).alloc (.cells (bv d).toArray 55)) := (((Ext.refl w).alloc _).alloc _).alloc _
  have hb0 : Blk (((w.alloc (.cells SC.toArray 39)).alloc (.cells (bv root).toArray 55)).alloc (.cells (bv d).toArray 55)) w.heap.size 39 SC := ((Blk.new _ _ _).keep ((Ext.refl _).alloc _) (by simp)).keep ((Ext.refl _).alloc _) (by simp)
  have hb1 : Blk (((w.alloc (.cells SC.toArray 39)).alloc (.cells (bv root).toArray 55)).alloc (.cells (bv d).toArray 55)) (w.heap.size + 1) 55 (bv root) := (Blk.fresh (by simp) _ _).keep ((Ext.refl _).alloc _) (by simp)
  have hb2 : Blk (((w.alloc (.cells SC.toArray 39)).alloc (.cells (bv root).toArray 55)).alloc (.cells (bv d).toArray 55)) (w.heap.size + 2) 55 (bv d) := Blk.fresh (by simp) _ _
  have c1025 : (((w.alloc (.cells SC.toArray 39)).alloc (.cells (bv root).toArray 55)).alloc (.cells (bv d).toArray 55)).cell? ⟨w.heap.size, 1025, none⟩ = some (.slice A (List.length (α := Dg) ds) c) := (hb0.cell 1025).trans hsl
  have c1024 : (((w.alloc (.cells SC.toArray 39)).alloc (.cells (bv root).toArray 55)).alloc (.cells (bv d).toArray 55)).cell? ⟨w.heap.size, 1024, none⟩ = some (.int .u32 (key : Int)) := (hb0.cell 1024).trans hky
  have hcs : Cells (((w.alloc (.cells SC.toArray 39)).alloc (.cells (bv root).toArray 55)).alloc (.cells (bv d).toArray 55)) ⟨w.heap.size, 0, none⟩ (bv S) := by have h := hb0.cells.take 1024; rw [htk] at h; exact h
  have hcd := hb2.cells
  generalize hFS : fromS S d = FS at *
  have HFR := Lib.hid hfr
  have HCM := Lib.hid hcm0
  have HX0 := Lib.hid hx0
  have HB0 := Lib.hid hb0
  have HB1 := Lib.hid hb1
  have HDL := Lib.hid hdl
  have HCL := Lib.hid hC
  have HRL := Lib.hid hrl
  have HDG := Lib.hid hdgl
  have HSL := Lib.hid hsl
  have HALL := Lib.hid hall
  have HRT := Lib.hid hroot
  clear hfr hcm0 hx0 hb0 hb1 hb2 hdl hC hrl hdgl hsl hky htk hsl9 hall hFS hroot hd
  generalize hn : List.length (α := Dg) ds = n at *
  generalize bv S = C at *
  generalize bv d = DC at *
  have HN := Lib.hid hn
  clear hn
  have hz : n < 32 → (key : Int) / 2 ^ n = 0 := fun h => by
    have e : (key : Int) / 2 ^ n = ((key / 2 ^ n : Nat) : Int) := by rw [Int.natCast_ediv, Int.natCast_pow]; rfl
    rw [e, hsh h]; rfl
  clear hsh
  obtain (⟨hz, h32⟩ | ⟨hz, h32⟩) : ((key : Int) / 2 ^ n = 0 ∧ n < 32) ∨ (True ∧ 32 ≤ n) := by
    rcases Nat.lt_or_ge n 32 with h | h
    · exact .inl ⟨hz h, h⟩
    · exact .inr ⟨trivial, h⟩
  all_goals
    go_enter Try.func11, Try.ntmps11
    go_wp2_with (first
      | (refine wpList_load_agg _ rfl 36 (.tmp 40) rfl _ rfl C _ Try.underlying36 rfl (tsig_size5 HCL.out) hcs ?_)
      | (refine wpList_load_agg _ rfl 55 (.tmp 9) rfl _ rfl DC _ Try.underlying55 rfl (digest_size HDG.out) hcd ?_)
      | fail)
  all_goals
    refine (HFR.out _).mono ?_
    rintro e w1 ⟨rfl, hx1⟩
    have hx2 : Ext _ (w1.alloc (.cells (bv FS).toArray 55)) := hx1.alloc _
    have hb0 := HB0.out.keep hx2 (by simp)
    have hb1 := HB1.out.keep hx2 (by simp)
    have hbx : Blk (w1.alloc (.cells (bv FS).toArray 55)) w1.heap.size 55 (bv FS) := Blk.new _ _ _
    have hxx := HX0.out.trans hx2
    have hfl : (bv FS).length = 32 := by rw [bv_length]; exact HCM.out 0
    have c2 : (w1.alloc (.cells (bv FS).toArray 55)).cell? ⟨w.heap.size, 1025, none⟩ = some (.slice A n c) := (hb0.cell 1025).trans HSL.out
    have hxg : w.heap.size + 2 < w1.heap.size := by have := hx1.size; simp at this; omega
    have HFL := Lib.hid hfl
    have HB1b := Lib.hid hb1
    have HBX := Lib.hid hbx
    have HXX := Lib.hid hxx
    clear hx1 hx2 hb0 hb1 hbx hxx hfl c1024 c1025 hcs hcd HB0 HB1 HX0
    go_wp2_with (first
      | (refine wpList_alloc _ rfl 55 rfl _ hzd ?_)
      | ((with_reducible refine wpSto 11 43 rfl ?_); refine wpList_storeN rfl 55 (.tmp 11) (.tmp 43) rfl w1 rfl Z (bv FS) 55 rfl rfl (digest_size HFL.out) (by rw [HFL.out, HDL.out]) (bv_one _) ?_)
      | fail)
    generalize w1.alloc (.cells (bv FS).toArray 55) = w2 at *
    go_loopw [12, 14, 48] (fun at_ y i wr => ∃ k : Nat, k ≤ n ∧ i = .int .i64 k ∧ at_ = .int .u32 ((key / 2 ^ k : Nat) : Int) ∧ Ext w wr ∧ Blk wr w1.heap.size 55 (bv (climbM key FS ds k)) ∧ Blk wr (w.heap.size + 1) 55 (bv root) ∧ ∃ q, y = q) (fun _ _ i _ => n - (intOf i).toNat)
    case atStart => exact ⟨0, by omega, rfl, by simp, HXX.out, HBX.out, HB1b.out, _, rfl⟩
    case round =>
      clear HXX HBX HB1b c2
      obtain ⟨k, hk, rfl, rfl, hx, hbx, hb1, q, rfl⟩ := hrel
      by_cases hlt : k < n
      · obtain ⟨ad, rfl, hf, hcells⟩ := hcell (by omega)
        have hkl : k < List.length (α := Dg) ds := by rw [HN.out]; exact hlt
        obtain ⟨hcc, hdl⟩ := digs_at HALL.out (hcells.keep (hx.same hF _ hf)) hkl
        have hst : climbM key FS ds (k + 1) = if key / 2 ^ k % 2 = 1 then aboveM ds[k] (climbM key FS ds k) else aboveM (climbM key FS ds k) ds[k] := by
          rw [climbM, show ds.getD k [] = ds[k] by simp [List.getD, hkl]]
        have hxl := HCM.out k
        have hm1 : key / 2 ^ k < 4294967296 := Nat.lt_of_le_of_lt (Nat.div_le_self _ _) hk32
        have hm2 : key / 2 ^ (k + 1) = key / 2 ^ k / 2 := by rw [Nat.pow_succ, Nat.div_div_eq_div_mul]
        obtain ⟨X1, hX1e⟩ : ∃ X1, X1 = climbM key FS ds (k + 1) := ⟨_, rfl⟩
        rw [← hX1e] at hst
        generalize climbM key FS ds k = X at *
        generalize ds[k] = Y at *
        obtain ⟨m2, hm2e⟩ : ∃ m2, m2 = key / 2 ^ (k + 1) := ⟨_, rfl⟩
        rw [← hm2e] at hm2
        have HX1E := Lib.hid hX1e
        have HM2E := Lib.hid hm2e
        clear hX1e hm2e
        generalize key / 2 ^ k = m at *
        have hyl : (bv Y).length = 32 := by rw [bv_length]; exact hdl
        have hxxl : (bv X).length = 32 := by rw [bv_length]; exact hxl
        have hby : Blk (wr.alloc (.cells (bv Y).toArray 55)) wr.heap.size 55 (bv Y) := Blk.new _ _ _
        have hbx2 := hbx.keep ((Ext.refl wr).alloc (.cells (bv Y).toArray 55)) (by simp)
        have hxy := hbx.lt
        have hx2 := hx.alloc (.cells (bv Y).toArray 55)
        have hb12 := hb1.keep ((Ext.refl wr).alloc (.cells (bv Y).toArray 55)) (by simp)
        have hand := and_one_u32 m hm1
        have HYL := Lib.hid hyl
        have HXL := Lib.hid hxxl
        have HBY := Lib.hid hby
        have HX2 := Lib.hid hx2
        have HB12 := Lib.hid hb12
        have HST := Lib.hid hst
        have HM2 := Lib.hid hm2
        have HYD := Lib.hid hdl
        have HXD := Lib.hid hxl
        have hcy := hby.cells
        have hcx := hbx2.cells
        clear hyl hxxl hby hx2 hb12 hst hm2 hx hbx hb1 hdl hxl
        have hne : w1.heap.size ≠ wr.heap.size := by omega
        have hw1 : w.heap.size + 2 < w1.heap.size := hxg
        have hx1l : (bv X1).length = 32 := by
          rw [bv_length, HST.out]
          split <;> exact aboveM_length _ _
        have HX1L := Lib.hid hx1l
        clear hx1l
        obtain hm | hm : m % 2 = 1 ∨ m % 2 = 0 := by omega
        · rw [hm] at hand
          rw [if_pos hm] at HST
          have hb5x : Blk ((wr.alloc (.cells (bv Y).toArray 55)).setRow w1.heap.size (bv Y).toArray) w1.heap.size 55 (bv Y) := setRow_at hbx2
          have hb5y : Blk ((wr.alloc (.cells (bv Y).toArray 55)).setRow w1.heap.size (bv Y).toArray) wr.heap.size 55 (bv Y) := HBY.out.keep (setRow_only _) (by simp; omega)
          have hb6x : Blk (((wr.alloc (.cells (bv Y).toArray 55)).setRow w1.heap.size (bv Y).toArray).setRow wr.heap.size (bv X).toArray) w1.heap.size 55 (bv Y) := Blk.keep hb5x (setRow_only _) (by simp; omega)
          have hb6y : Blk (((wr.alloc (.cells (bv Y).toArray 55)).setRow w1.heap.size (bv Y).toArray).setRow wr.heap.size (bv X).toArray) wr.heap.size 55 (bv X) := setRow_at hb5y
          have hb61 : Blk (((wr.alloc (.cells (bv Y).toArray 55)).setRow w1.heap.size (bv Y).toArray).setRow wr.heap.size (bv X).toArray) (w.heap.size + 1) 55 (bv root) := (HB12.out.keep (setRow_only (g := w1.heap.size) (bv Y).toArray) (by simp; omega)).keep (setRow_only _) (by have := HX2.out.size; simp; omega)
          have hx6 : Ext w (((wr.alloc (.cells (bv Y).toArray 55)).setRow w1.heap.size (bv Y).toArray).setRow wr.heap.size (bv X).toArray) := setRow_grown (setRow_grown HX2.out _ _ (by omega)) _ _ (by omega)
          have HC6X := Lib.hid hb6x.cells
          have HC6Y := Lib.hid hb6y.cells
          have HX6 := Lib.hid hx6
          have HB61 := Lib.hid hb61
          have HB6X := Lib.hid hb6x
          have HCC := Lib.hid hcc
          have HCY := Lib.hid hcy
          have HCX := Lib.hid hcx
          have HBX2 := Lib.hid hbx2
          have HB5Y := Lib.hid hb5y
          clear hb61 hx6 hb6x hb6y hcc hcy hcx hbx2 hb5y hb5x
          go_wp2_with (first
            | ((with_reducible refine wpDst 51 rfl ?_); refine wpList_load_agg _ rfl 55 (.tmp 50) rfl _ rfl (bv Y) _ Try.underlying55 rfl (digest_size HYL.out) (by exact HCC.out) ?_)
            | ((with_reducible refine wpDst 14 rfl ?_); refine wpList_alloc _ rfl 55 rfl _ hzd ?_)
            | ((with_reducible refine wpSto 14 51 rfl ?_); refine wpList_storeN rfl 55 (.tmp 14) (.tmp 51) rfl wr rfl Z (bv Y) 55 rfl rfl (digest_size HYL.out) (by rw [HYL.out, HDL.out]) (bv_one _) ?_)
            | ((with_reducible refine wpDst 55 rfl ?_); refine wpList_load_agg _ rfl 55 (.tmp 14) rfl _ rfl (bv Y) _ Try.underlying55 rfl (digest_size HYL.out) (by exact HCY.out) ?_)
            | ((with_reducible refine wpDst 56 rfl ?_); refine wpList_load_agg _ rfl 55 (.tmp 11) rfl _ rfl (bv X) _ Try.underlying55 rfl (digest_size HXL.out) (by exact HCX.out) ?_)
            | ((with_reducible refine wpSto 11 55 rfl ?_); refine wpList_store_row _ rfl 55 (.tmp 11) (.tmp 55) rfl w1.heap.size rfl (bv X) (bv Y) 55 rfl (by exact HBX2.out) (digest_size HYL.out) (by rw [HYL.out, HXL.out]) (bv_one _) ?_)
            | ((with_reducible refine wpSto 14 56 rfl ?_); refine wpList_store_row _ rfl 55 (.tmp 14) (.tmp 56) rfl wr.heap.size rfl (bv Y) (bv X) 55 rfl (by exact HB5Y.out) (digest_size HXL.out) (by rw [HYL.out, HXL.out]) (bv_one _) ?_)
            | ((with_reducible refine wpDst 57 rfl ?_); refine wpList_load_agg _ rfl 55 (.tmp 11) rfl _ rfl (bv Y) _ Try.underlying55 rfl (digest_size HYL.out) (by exact HC6X.out) ?_)
            | ((with_reducible refine wpDst 58 rfl ?_); refine wpList_load_agg _ rfl 55 (.tmp 14) rfl _ rfl (bv X) _ Try.underlying55 rfl (digest_size HXL.out) (by exact HC6Y.out) ?_)
            | (go_at_call 38; refine (Above Y X HYD.out HXD.out _).mono ?_; rintro e w6 ⟨rfl, hx6⟩; rw [← HST.out]; have hb6 := HB6X.out.keep hx6 (by simp))
            | ((with_reducible refine wpSto 11 59 rfl ?_); refine wpList_store_row _ rfl 55 (.tmp 11) (.tmp 59) rfl w1.heap.size rfl (bv Y) (bv X1) 55 rfl (by exact hb6) (digest_size HX1L.out) (by rw [HX1L.out, HYL.out]) (bv_one _) ?_)
            | ((with_reducible refine wpDst 61 rfl ?_); refine wpList_bin2 rfl .shr 27 (.tmp 60) _ rfl _ _ rfl rfl rfl (shr_one _ _ m _) ?_)
            | fail)
          go_roundw
          case rel =>
            have hx7 : Ext w (w6.setRow w1.heap.size (bv X1).toArray) := setRow_grown (HX6.out.trans hx6) _ _ (by omega)
            exact ⟨k + 1, by omega, by go_num, by rw [← HM2E.out, HM2.out]; rfl, hx7, (by rw [← HX1E.out]; exact setRow_at hb6), (HB61.out.keep hx6 (by simp)).keep (setRow_only _) (by simp; omega), _, rfl⟩
          case measure => simp [intOf]; omega

        · rw [hm] at hand
          rw [if_neg (by omega)] at HST
          have HCC := Lib.hid hcc
          have HCY := Lib.hid hcy
          have HCX := Lib.hid hcx
          have HBX2 := Lib.hid hbx2
          clear hcc hcy hcx hbx2
          go_wp2_with (first
            | ((with_reducible refine wpDst 51 rfl ?_); refine wpList_load_agg _ rfl 55 (.tmp 50) rfl _ rfl (bv Y) _ Try.underlying55 rfl (digest_size HYL.out) (by exact HCC.out) ?_)
            | ((with_reducible refine wpDst 14 rfl ?_); refine wpList_alloc _ rfl 55 rfl _ hzd ?_)
            | ((with_reducible refine wpSto 14 51 rfl ?_); refine wpList_storeN rfl 55 (.tmp 14) (.tmp 51) rfl wr rfl Z (bv Y) 55 rfl rfl (digest_size HYL.out) (by rw [HYL.out, HDL.out]) (bv_one _) ?_)
            | ((with_reducible refine wpDst 57 rfl ?_); refine wpList_load_agg _ rfl 55 (.tmp 11) rfl _ rfl (bv X) _ Try.underlying55 rfl (digest_size HXL.out) (by exact HCX.out) ?_)
            | ((with_reducible refine wpDst 58 rfl ?_); refine wpList_load_agg _ rfl 55 (.tmp 14) rfl _ rfl (bv Y) _ Try.underlying55 rfl (digest_size HYL.out) (by exact HCY.out) ?_)
            | (go_at_call 38; refine (Above X Y HXD.out HYD.out _).mono ?_; rintro e w6 ⟨rfl, hx6⟩; rw [← HST.out]; have hb6 := HBX2.out.keep hx6 (by simp))
            | ((with_reducible refine wpSto 11 59 rfl ?_); refine wpList_store_row _ rfl 55 (.tmp 11) (.tmp 59) rfl w1.heap.size rfl (bv X) (bv X1) 55 rfl (by exact hb6) (digest_size HX1L.out) (by rw [HX1L.out, HXL.out]) (bv_one _) ?_)
            | ((with_reducible refine wpDst 61 rfl ?_); refine wpList_bin2 rfl .shr 27 (.tmp 60) _ rfl _ _ rfl rfl rfl (shr_one _ _ m _) ?_)
            | fail)
          go_roundw
          case rel =>
            have hx7 : Ext w (w6.setRow w1.heap.size (bv X1).toArray) := setRow_grown (HX2.out.trans hx6) _ _ (by omega)
            exact ⟨k + 1, by omega, by go_num, by rw [← HM2E.out, HM2.out]; rfl, hx7, (by rw [← HX1E.out]; exact setRow_at hb6), (HB12.out.keep hx6 (by simp)).keep (setRow_only _) (by simp; omega), _, rfl⟩
          case measure => simp [intOf]; omega

      · obtain rfl : k = n := by omega
        have hcx := hbx.cells
        have hcr := hb1.cells
        have hxl : (bv (climbM key FS ds k)).length = 32 := by rw [bv_length]; exact HCM.out k
        have heq := eqD_any (climbM key FS ds k) root (HCM.out k) HRT.out
        obtain ⟨X, hXe⟩ : ∃ X, X = climbM key FS ds k := ⟨_, rfl⟩
        rw [← hXe] at hcx hxl heq
        have HXE := Lib.hid hXe
        clear hXe
        have HX := Lib.hid hx
        have HXL := Lib.hid hxl
        have HCX := Lib.hid hcx
        have HCR := Lib.hid hcr
        have HEQ := Lib.hid heq
        clear hx hxl hcx hcr heq hbx hb1
        go_wp2_with (first
          | ((with_reducible refine wpDst 63 rfl ?_); refine wpList_load_agg _ rfl 55 (.tmp 11) rfl _ rfl (bv X) _ Try.underlying55 rfl (digest_size HXL.out) (by exact HCX.out) ?_)
          | ((with_reducible refine wpDst 64 rfl ?_); refine wpList_load_agg _ rfl 55 (.tmp 6) rfl _ rfl (bv root) _ Try.underlying55 rfl (digest_size HRL.out) (by exact HCR.out) ?_)
          | ((with_reducible refine wpDst 65 rfl ?_); refine wpList_bin2 rfl .eql 55 (.tmp 63) (.tmp 64) rfl _ _ rfl rfl (HEQ.out.1 _ _ _) (HEQ.out.2 _) ?_)
          | fail)
        go_ret
        exact ⟨by rw [HXE.out]; rfl, HX.out⟩
end
section
open Go.RowKit

set_option maxRecDepth 100000 in
set_option maxHeartbeats 8000000 in
theorem RightBad (S : List UInt8) (hS : S.length = 1024) (keyS : Nat) (A : Option Addr) (n c : Nat) (hnm : n ≤ 1099511627776) (R D : List Value) (tall : Int) (htall : (Lit.int .i64 tall).wf = true) (key : Nat) (hkey : (Lit.int .u32 (key : Int)).wf = true) (hkeyS : (Lit.int .u32 (keyS : Int)).wf = true) (w : World)
    (hbad : tall < 0 ∨ (n : Int) ≠ tall ∨ keyS ≠ key ∨ (tall < 32 ∧ key / 2 ^ tall.toNat ≠ 0)) :
    Calls Try.prog 11 #[.agg (sigC (bv S) keyS (.slice A n c)).toArray, .agg R.toArray, .int .i64 tall, .int .u32 (key : Int), .agg D.toArray] w fun e w' => e = .returned (.bool false) ∧ Ext w w' := by
  have hC : (bv S).length = 1024 := by rw [bv_length]; exact hS
  have hsl := sigC_way hC keyS (.slice A n c)
  have hky := sigC_key hC keyS (.slice A n c)
  generalize sigC (bv S) keyS (.slice A n c) = SC at *
  have hx0 : Ext w (((w.alloc (.cells SC.toArray 39)).alloc (.cells R.toArray 55)).alloc (.cells D.toArray 55)) := (((Ext.refl w).alloc _).alloc _).alloc _
  have hb0 : Blk (((w.alloc (.cells SC.toArray 39)).alloc (.cells R.toArray 55)).alloc (.cells D.toArray 55)) w.heap.size 39 SC := ((Blk.new _ _ _).keep ((Ext.refl _).alloc _) (by simp)).keep ((Ext.refl _).alloc _) (by simp)
  have c1025 : (((w.alloc (.cells SC.toArray 39)).alloc (.cells R.toArray 55)).alloc (.cells D.toArray 55)).cell? ⟨w.heap.size, 1025, none⟩ = some (.slice A n c) := (hb0.cell 1025).trans hsl
  have c1024 : (((w.alloc (.cells SC.toArray 39)).alloc (.cells R.toArray 55)).alloc (.cells D.toArray 55)).cell? ⟨w.heap.size, 1024, none⟩ = some (.int .u32 (keyS : Int)) := (hb0.cell 1024).trans hky
  have HX0 := Lib.hid hx0
  clear hx0 hb0 hsl hky hC hS
  have hk32 : key < 4294967296 := by have := bounds_u32 hkey; omega
  by_cases h1 : tall < 0
  · clear hbad
    go_enter Try.func11, Try.ntmps11
    go_wp2_with fail
    go_ret
    exact ⟨rfl, HX0.out⟩
  obtain ⟨m, rfl⟩ : ∃ m : Nat, tall = m := ⟨tall.toNat, by omega⟩
  by_cases h2 : n = m
  case neg =>
    have h2' : (n : Int) ≠ (m : Int) := by omega
    clear hbad h2
    go_enter Try.func11, Try.ntmps11
    go_wp2_with fail
    go_ret
    exact ⟨rfl, HX0.out⟩
  subst h2
  by_cases h3 : keyS = key
  case neg =>
    have h3' : (keyS : Int) ≠ (key : Int) := by omega
    clear hbad h3
    go_enter Try.func11, Try.ntmps11
    go_wp2_with fail
    go_ret
    exact ⟨rfl, HX0.out⟩
  subst h3
  obtain ⟨h32, h4⟩ : n < 32 ∧ keyS / 2 ^ n ≠ 0 := by
    rcases hbad with h | h | h | ⟨h, h4⟩
    · exact absurd h h1
    · exact absurd rfl h
    · exact absurd rfl h
    · exact ⟨by omega, by rwa [Int.toNat_natCast] at h4⟩
  have h4' : (keyS : Int) / 2 ^ n ≠ 0 := by
    have e : (keyS : Int) / 2 ^ n = ((keyS / 2 ^ n : Nat) : Int) := by rw [Int.natCast_ediv, Int.natCast_pow]; rfl
    rw [e]; omega
  clear hbad h4
  go_enter Try.func11, Try.ntmps11
  go_wp2_with fail
  go_ret
  exact ⟨rfl, HX0.out⟩
theorem Right (S : List UInt8) (hS : S.length = 1024) (keyS : Nat) (u : Value) (ds : List Dg) (root : Dg) (hroot : List.length (α := UInt8) root = 32) (d : Dg) (hd : List.length (α := UInt8) d = 32) (F : Fp) (w : World)
    (hc : Ways w F u ds) (hF : ∀ b, F b → b < w.heap.size) (hlen : List.length (α := Dg) ds ≤ 1099511627776) (hkeyS : (Lit.int .u32 (keyS : Int)).wf = true) (tall : Int) (htall : (Lit.int .i64 tall).wf = true) (key : Nat) (hkey : (Lit.int .u32 (key : Int)).wf = true) :
    Calls Try.prog 11 #[.agg (sigC (bv S) keyS u).toArray, .agg (bv root).toArray, .int .i64 tall, .int .u32 (key : Int), .agg (bv d).toArray] w fun e w' => e = .returned (.bool (rightM S keyS ds root tall key d)) ∧ Ext w w' := by
  by_cases hbad : tall < 0 ∨ ((List.length (α := Dg) ds : Nat) : Int) ≠ tall ∨ keyS ≠ key ∨ (tall < 32 ∧ key / 2 ^ tall.toNat ≠ 0)
  · obtain ⟨A, c, xs, rfl, -⟩ := ways_open hc
    have h := RightBad S hS keyS A _ c hlen (bv root) (bv d) tall htall key hkey hkeyS w hbad
    rw [rightM, if_pos hbad]
    exact h
  · rw [rightM, if_neg hbad]
    have h1 : ((List.length (α := Dg) ds : Nat) : Int) = tall := Classical.byContradiction fun h => hbad (.inr (.inl h))
    have h2 : keyS = key := Classical.byContradiction fun h => hbad (.inr (.inr (.inl h)))
    have h3 : List.length (α := Dg) ds < 32 → key / 2 ^ List.length (α := Dg) ds = 0 := fun h => Classical.byContradiction fun h' => hbad (.inr (.inr (.inr (by
      refine ⟨by omega, ?_⟩
      rw [← h1, Int.toNat_natCast]; exact h'))))
    subst h2
    rw [← h1]
    have h := RightGood S hS keyS u ds root hroot d hd F w hc hF hlen hkey h3
    rw [show (climbM keyS (fromS S d) ds (List.length (α := Dg) ds) == root) = decide (climbM keyS (fromS S d) ds (List.length (α := Dg) ds) = root) from Bool.eq_iff_iff.2 (by simp)] at h
    exact h
end
end Go.Proofs.Ytpdkmapogncgmaa

/- From the reader's data to described values, with the bulk that the second form of a statement bounds. Condition: the described type fits the program's. -/
import Derived.Test.YtklljkfnlakdaaaRows
import Derived.Test.YtklljkfnlakdaaaOpen
set_option linter.unusedVariables false
set_option linter.unusedSimpArgs false
set_option linter.unnecessarySimpa false
namespace Go.Proofs.Ytklljkfnlakdaaa
open Go.RowKit Go.WideShapes Go.ChangeShapes

def sumOf {α : Type} (f : α → Nat) : List α → Nat
  | [] => 0
  | a :: l => f a + sumOf f l
/-- How many values a described value has, at the least. -/
def Ty.mass : (t : Ty) → t.Data → Nat
  | .arr _ t, l => sumOf t.mass l
  | .sl t, l => sumOf t.mass l + 1
  | .st t, d => t.mass d
  | .pair a b, d => a.mass d.1 + b.mass d.2
  | .unit, _ => 0
  | .u8, _ => 1 | .nat _, _ => 1 | .int _, _ => 1 | .bool, _ => 1 | .str, _ => 1
theorem one_bulk {H : Type} (d : DataW H) : 1 ≤ Rows.uptoBulk d := by
  cases d with
  | lit l => cases l <;> simp [Rows.uptoBulk]
  | nil => simp [Rows.uptoBulk]
  | ptr d => simp [Rows.uptoBulk]
  | slice elems spare => simp [Rows.uptoBulk]
  | agg parts => simp [Rows.uptoBulk]
  | iface t d => simp [Rows.uptoBulk]
  | map entries => simp [Rows.uptoBulk]
  | held h => simp [Rows.uptoBulk]
theorem mass_le {H α : Type} {f : α → Nat} : ∀ {l : List α} {ds : List (DataW H)}, l.length = ds.length → (∀ (i : Nat) (hi : i < l.length) y, ds[i]? = some y → f l[i] ≤ Rows.uptoBulk y) → sumOf f l ≤ Rows.uptoBulkAll ds
  | [], ds, _, _ => by simp [sumOf]
  | a :: l, [], h, _ => by simp at h
  | a :: l, d :: ds, h, hs => by
    have h0 := hs 0 (by simp) d rfl
    have h1 := mass_le (l := l) (ds := ds) (f := f) (by simpa using h) (fun i hi y hy => hs (i + 1) (by simpa using hi) y (by simpa using hy))
    simp only [sumOf, Rows.uptoBulkAll, List.getElem_cons_zero] at *
    omega
theorem sumOf_mem {α : Type} {f : α → Nat} : ∀ {l : List α} {a : α}, a ∈ l → f a ≤ sumOf f l
  | [], _, h => by cases h
  | b :: l, a, h => by
    simp only [sumOf]
    rcases List.mem_cons.1 h with rfl | h
    · omega
    · have := sumOf_mem (f := f) h; omega
theorem sumOf_len {α : Type} {f : α → Nat} (h : ∀ a, 1 ≤ f a) : ∀ (l : List α), l.length ≤ sumOf f l
  | [] => by simp
  | b :: l => by have := sumOf_len h l; have := h b; simp only [sumOf, List.length_cons]; omega

section
variable {H : Type} {enc : TypeId × Value → H} {P : Program} {w : World} {base : Nat} {spare : Nat → Bool} {held : Bool}
theorem allH_mk2 {α : Type} (R : List Value → α → Prop) (n : Nat) (S : Nat → α → Prop) : ∀ (k : Nat) (cs : List Value), cs.length = k * n → (∀ i, i < k → ∃ a, R ((cs.drop (i * n)).take n) a ∧ S i a) → ∃ l : List α, l.length = k ∧ AllH R cs l ∧ ∀ i (h : i < l.length), S i l[i]
  | 0, cs, hl, _ => ⟨[], rfl, List.eq_nil_of_length_eq_zero (by simpa using hl), by simp⟩
  | k + 1, cs, hl, h => by
    obtain ⟨a, ha, hs⟩ := h 0 (by omega)
    rw [Nat.zero_mul, List.drop_zero] at ha
    have hl' : (cs.drop n).length = k * n := by rw [List.length_drop, hl, Nat.add_mul]; omega
    obtain ⟨l, h1, h2, h3⟩ := allH_mk2 R n (fun i => S (i + 1)) k (cs.drop n) hl' (fun i hi => by
      have := h (i + 1) (by omega)
      rwa [Nat.add_mul, Nat.one_mul, Nat.add_comm, ← List.drop_drop] at this)
    refine ⟨a :: l, by simp [h1], ⟨cs.take n, cs.drop n, (List.take_append_drop n cs).symm, ha, h2⟩, fun i hi => ?_⟩
    cases i with
    | zero => exact hs
    | succ i => exact h3 i (by simpa using hi)
theorem Ty.openU_both : ∀ (ty : Ty),
    (∀ (t : TypeId), (ty.fits P).1 t = true → ∀ (n : Nat) (cs : List Value) (x : DataW H × List MemPlace), DataW.trod enc P w base spare held n t cs = some x → lightD P t x.1 → ∃ d, ty.holds w (fun b => b < w.heap.size) cs d ∧ ty.small d ∧ ty.mass d ≤ Rows.uptoBulk x.1) ∧
    (∀ (fs : List Field) (off : Nat), (ty.fits P).2 fs off = true → ∀ (m : Nat) (cs : List Value) (xs : List (DataW H × List MemPlace)), cs.length = off + ty.size → xs.length = fs.length →
      (∀ (i : Nat) (f : Field), fs[i]? = some f → DataW.trod enc P w base spare held m f.type ((cs.drop f.offset).take (P.cellsOf f.type)) = xs[i]?) →
      (DataW.weightsEach P (fs.map (·.type)) (xs.map (·.1))).all (fun x => decide (x ≤ reachBytes)) = true → ∃ d, ty.holds w (fun b => b < w.heap.size) (cs.drop off) d ∧ ty.small d ∧ ty.mass d ≤ Rows.uptoBulkAll (xs.map (·.1)))
  | .u8 => ⟨fun t hf n cs x h _ => by
      simp only [Ty.fits] at hf
      split at hf <;> simp at hf
      rename_i hu
      obtain ⟨m, rfl, _, hw⟩ := DataW.trod_int hu h
      obtain ⟨k, rfl⟩ := nat_of_wf (by rfl) hw
      have hb := bounds_u8 hw
      exact ⟨UInt8.ofNat k, by simp only [Ty.holds]; rw [UInt8.toNat_ofNat']; simp; omega, trivial, one_bulk _⟩, fun _ _ hf => by simp [Ty.fits] at hf⟩
  | .nat q => ⟨fun t hf n cs x h _ => by
      simp only [Ty.fits] at hf
      split at hf <;> simp only [Bool.false_eq_true, Bool.and_eq_true, beq_iff_eq] at hf
      rename_i hu
      obtain ⟨rfl, hk⟩ := hf
      obtain ⟨m, rfl, _, hw⟩ := DataW.trod_int hu h
      obtain ⟨k, rfl⟩ := nat_of_wf hk hw
      exact ⟨k, ⟨rfl, hw⟩, trivial, one_bulk _⟩, fun _ _ hf => by simp [Ty.fits] at hf⟩
  | .int q => ⟨fun t hf n cs x h _ => by
      simp only [Ty.fits] at hf
      split at hf <;> simp only [Bool.false_eq_true, beq_iff_eq] at hf
      rename_i hu
      subst hf
      obtain ⟨m, rfl, _, hw⟩ := DataW.trod_int hu h
      exact ⟨m, ⟨rfl, hw⟩, trivial, one_bulk _⟩, fun _ _ hf => by simp [Ty.fits] at hf⟩
  | .bool => ⟨fun t hf n cs x h _ => by
      simp only [Ty.fits] at hf
      split at hf <;> simp at hf
      rename_i hu
      obtain ⟨b, rfl, _⟩ := DataW.trod_bool hu h
      exact ⟨b, rfl, trivial, one_bulk _⟩, fun _ _ hf => by simp [Ty.fits] at hf⟩
  | .str => ⟨fun t hf n cs x h _ => by
      simp only [Ty.fits] at hf
      split at hf <;> simp at hf
      rename_i hu
      obtain ⟨b, rfl, hx, hs⟩ := DataW.trod_string hu h
      exact ⟨b, ⟨rfl, hs⟩, trivial, one_bulk _⟩, fun _ _ hf => by simp [Ty.fits] at hf⟩
  | .arr k a => ⟨fun t hf n cs x h hl => by
      simp only [Ty.fits] at hf
      split at hf <;> simp only [Bool.false_eq_true, Bool.and_eq_true, beq_iff_eq] at hf
      rename_i hu
      obtain ⟨⟨⟨rfl, hfa⟩, hce⟩, hct⟩ := hf
      obtain ⟨xs, m, _, rfl, hlen, hxl, hi⟩ := DataW.trod_array hu h
      simp only [lightD, DataW.weights, hu] at hl
      rw [hce] at hi
      obtain ⟨l, h1, h2, h3⟩ := allH_mk2 (a.holds w (fun b => b < w.heap.size)) a.size (fun i d => a.small d ∧ ∀ y, (xs.map (·.1))[i]? = some y → a.mass d ≤ Rows.uptoBulk y) _ cs (hlen.trans hct) (fun i hik => by
        have hx := hi i hik
        rw [List.getElem?_eq_getElem (by omega)] at hx
        obtain ⟨d, g1, g2, g3⟩ := (Ty.openU_both a).1 _ hfa m _ _ hx (weightsAll_mem hl (List.mem_map_of_mem (List.getElem_mem _)))
        exact ⟨d, g1, g2, fun y hy => by
          rw [List.getElem?_map, List.getElem?_eq_getElem (by omega)] at hy
          simp only [Option.map_some, Option.some.injEq] at hy
          rw [← hy]; exact g3⟩)
      refine ⟨l, ⟨h1, h2⟩, fun x hx => ?_, ?_⟩
      · obtain ⟨i, hi, rfl⟩ := List.getElem_of_mem hx
        exact (h3 i hi).1
      · refine Nat.le_trans (mass_le (by rw [List.length_map]; omega) fun i hi y hy => (h3 i hi).2 y hy) ?_
        simp only [Rows.uptoBulk]; omega, fun _ _ hf => by simp [Ty.fits] at hf⟩
  | .sl a => ⟨fun t hf n cs x h hl => by
      simp only [Ty.fits] at hf
      split at hf <;> simp only [Bool.false_eq_true, Bool.and_eq_true, beq_iff_eq, decide_eq_true_eq] at hf
      rename_i e hu
      obtain ⟨⟨⟨hfa, hce⟩, hwt⟩, hpos⟩ := hf
      rcases Deep.open_slice hu h with ⟨rfl, rfl⟩ | ⟨ad, len, cap, m, n', D, Pl, rfl, hb, hlc, hm, hmm, rfl, hi⟩
      · exact ⟨[], ⟨none, 0, [], rfl, by simp, by simp [maxLen], fun _ => rfl, fun h => absurd rfl h, rfl⟩, by simp [Ty.small], one_bulk _⟩
      · have hml : len ≤ m := by subst hmm; split <;> omega
        rw [hce] at hi
        simp only [lightD, DataW.weights, hu, List.all_cons, List.all_append, Bool.and_eq_true, decide_eq_true_eq, List.length_map, List.length_range] at hl
        obtain ⟨hl1, hl2, _⟩ := hl
        obtain ⟨xs, hx1, hx2⟩ := cells_join (w := w) (a := ad) (n := a.size) len (fun i hi' => by
          obtain ⟨cs', hc, _⟩ := hi i (by omega)
          obtain ⟨_, hcl, hat⟩ := World.cells?_some hc
          exact ⟨cs', hcl, fun j u hu => by
            have hj := (List.getElem?_eq_some_iff.1 hu).1
            rw [hat j (by omega)]; exact hu⟩)
        obtain ⟨l, h1, h2, h3⟩ := allH_mk2 (a.holds w (fun b => b < w.heap.size)) a.size (fun i d => a.small d ∧ a.mass d ≤ Rows.uptoBulk (D i)) len xs hx1 (fun i hik => by
          obtain ⟨cs', hc, ht⟩ := hi i (by omega)
          obtain ⟨_, hcl, hat⟩ := World.cells?_some hc
          have hc' : Cells w (ad.add (i * a.size)) cs' := fun j u hu => by
            have hj := (List.getElem?_eq_some_iff.1 hu).1
            rw [hat j (by omega)]; exact hu
          have hle : (i + 1) * a.size ≤ len * a.size := Nat.mul_le_mul_right _ (by omega)
          rw [Nat.add_mul, Nat.one_mul] at hle
          have e : (xs.drop (i * a.size)).take a.size = cs' := Cells.unique (w := w) (a := ad.add (i * a.size)) ((hx2.drop _).take _) hc' (by rw [List.length_take, List.length_drop, hx1, hcl]; omega)
          rw [e]
          exact (Ty.openU_both a).1 _ hfa n' _ _ ht (weightsAll_mem hl2 (List.mem_map_of_mem (by simpa using hik))))
        have hlw : len * a.wt ≤ reachBytes := Nat.le_trans (Nat.mul_le_mul (by omega) hwt) hl1
        subst h1
        refine ⟨l, ⟨some ad, cap, xs, rfl, hlc, hm, by simp, fun hne => ⟨ad, rfl, hx2.lt ?_, hx2⟩, h2⟩, ⟨hlw, fun x hx => ?_⟩, ?_⟩
        · rintro rfl
          have := Nat.mul_pos (List.length_pos_iff.2 hne) hpos
          simp at hx1
          omega
        · obtain ⟨i, hi, rfl⟩ := List.getElem_of_mem hx
          exact (h3 i hi).1
        · have hm := mass_le (f := a.mass) (l := l) (ds := (List.range l.length).map D) (by simp) (fun i hi y hy => by
            rw [List.getElem?_map, List.getElem?_range hi] at hy
            simp only [Option.map_some, Option.some.injEq] at hy
            rw [← hy]; exact (h3 i hi).2)
          simp only [Ty.mass, Rows.uptoBulk]; omega, fun _ _ hf => by simp [Ty.fits] at hf⟩
  | .st c => ⟨fun t hf n cs x h hl => by
      simp only [Ty.fits] at hf
      split at hf <;> simp only [Bool.false_eq_true, Bool.and_eq_true, beq_iff_eq] at hf
      rename_i fs hu
      obtain ⟨hfc, hct⟩ := hf
      obtain ⟨xs, m, _, rfl, hlen, hxl, hi⟩ := DataW.trod_struct hu h
      simp only [lightD, DataW.weights, hu] at hl
      have := (Ty.openU_both c).2 fs.toList 0 hfc m cs xs (by rw [Nat.zero_add, ← hct]; exact hlen) (by simpa using hxl) (fun i f hf => hi i f (by simpa using hf)) hl
      rw [List.drop_zero] at this
      obtain ⟨d, g1, g2, g3⟩ := this
      exact ⟨d, g1, g2, by simp only [Ty.mass, Rows.uptoBulk]; omega⟩, fun _ _ hf => by simp [Ty.fits] at hf⟩
  | .unit => ⟨fun _ hf => by simp [Ty.fits] at hf, fun fs off _ m cs xs hl _ _ _ => ⟨(), List.drop_eq_nil_of_le (by rw [hl]; simp [Ty.size]), trivial, by simp [Ty.mass]⟩⟩
  | .pair a b => ⟨fun _ hf => by simp [Ty.fits] at hf, fun fs off hf m cs xs hl hxl hi hw => by
      cases fs with
      | nil => simp [Ty.fits] at hf
      | cons f r =>
        simp only [Ty.fits, Bool.and_eq_true, beq_iff_eq] at hf
        obtain ⟨⟨⟨rfl, hfa⟩, hce⟩, hfb⟩ := hf
        cases xs with
        | nil => simp at hxl
        | cons x xs =>
          simp only [List.map_cons, DataW.weightsEach, List.all_append, Bool.and_eq_true] at hw
          have h0 := hi 0 f rfl
          rw [hce] at h0
          obtain ⟨d1, g1, s1, t1⟩ := (Ty.openU_both a).1 _ hfa m _ _ h0 hw.1
          obtain ⟨d2, g2, s2, t2⟩ := (Ty.openU_both b).2 r (f.offset + a.size) hfb m cs xs (by rw [hl, Ty.size]; omega) (by simpa using hxl) (fun i f' hf' => by simpa using hi (i + 1) f' (by simpa using hf')) hw.2
          refine ⟨(d1, d2), ⟨_, _, ?_, g1, g2⟩, ⟨s1, s2⟩, by simp only [Ty.mass, List.map_cons, Rows.uptoBulkAll]; omega⟩
          rw [← List.drop_drop, List.take_append_drop]⟩


theorem Ty.openU_arg (ty : Ty) {t : TypeId} {v : Value} {d : DataW H} {ps : List MemPlace} (hf : (ty.fits P).1 t = true) (h : DataW.Trod enc P w base spare held t v d ps) (hl : lightD P t d) : ∃ x, ty.holds w (fun b => b < w.heap.size) v.cells.toList x ∧ ty.small x ∧ ty.mass x ≤ Rows.uptoBulk d := by
  obtain ⟨n, h⟩ := h
  exact (Ty.openU_both ty).1 t hf n _ _ h hl
end
end Go.Proofs.Ytklljkfnlakdaaa

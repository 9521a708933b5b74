/- From the reader's data to described values: an argument that can be read holds a described value. Condition: the described type fits the program's. -/
import Derived.Test.YtchnjcghbbacoaaDoorLib
set_option linter.unusedVariables false
set_option linter.unusedSimpArgs false
set_option linter.unnecessarySimpa false
namespace Go.Proofs.YtchnjcghbbacoaaDoor
open Go.RowKit Go.WideShapes Go.ChangeShapes

/-- A bound from below on the bytes of a described type. -/
def Ty.wt : Ty → Nat
  | .u8 => 1 | .nat .u32 => 4 | .nat .u64 => 8 | .int .i64 => 8 | .nat _ => 1 | .int _ => 1 | .bool => 1 | .str => 16
  | .arr n t => n * t.wt | .sl _ => 24 | .st t => t.wt | .unit => 0 | .pair a b => a.wt + b.wt
/-- Does the described type fit the program's type of that number? (Second: the fields of a struct, from a place on.) -/
def Ty.fits (P : Program) : Ty → (TypeId → Bool) × (List Field → Nat → Bool)
  | .u8 => (fun t => match P.underlying t with | some (.int .u8) => true | _ => false, fun _ _ => false)
  | .nat k => (fun t => match P.underlying t with | some (.int k') => k' == k && (k == .u8 || k == .u16 || k == .u32 || k == .u64) | _ => false, fun _ _ => false)
  | .int k => (fun t => match P.underlying t with | some (.int k') => k' == k | _ => false, fun _ _ => false)
  | .bool => (fun t => match P.underlying t with | some .bool => true | _ => false, fun _ _ => false)
  | .str => (fun t => match P.underlying t with | some .string => true | _ => false, fun _ _ => false)
  | .arr n a => (fun t => match P.underlying t with | some (.array m e) => m == n && (a.fits P).1 e && P.cellsOf e == a.size && P.cellsOf t == n * a.size | _ => false, fun _ _ => false)
  | .sl a => (fun t => match P.underlying t with | some (.slice e) => (a.fits P).1 e && P.cellsOf e == a.size && decide (a.wt ≤ P.bytesOf e) && decide (0 < a.size) | _ => false, fun _ _ => false)
  | .st c => (fun t => match P.underlying t with | some (.struct fs) => (c.fits P).2 fs.toList 0 && P.cellsOf t == c.size | _ => false, fun _ _ => false)
  | .unit => (fun _ => false, fun fs _ => fs.isEmpty)
  | .pair a b => (fun _ => false, fun fs off => match fs with | f :: r => f.offset == off && (a.fits P).1 f.type && P.cellsOf f.type == a.size && (b.fits P).2 r (off + a.size) | [] => false)
/-- No slice takes more bytes than the form's reach. -/
def Ty.small : (t : Ty) → t.Data → Prop
  | .arr _ t, l => ∀ a ∈ l, t.small a
  | .sl t, l => l.length * t.wt ≤ reachBytes ∧ ∀ a ∈ l, t.small a
  | .st t, d => t.small d
  | .pair a b, d => a.small d.1 ∧ b.small d.2
  | .u8, _ => True | .nat _, _ => True | .int _, _ => True | .bool, _ => True | .str, _ => True | .unit, _ => True

section
variable {H : Type} {enc : TypeId × Value → H} {P : Program} {w : World} {base : Nat} {spare : Nat → Bool} {held : Bool}

def lightD (P : Program) (t : TypeId) (d : DataW H) : Prop := (d.weights P t).all (fun x => decide (x ≤ reachBytes)) = true
theorem weightsAll_mem {e : TypeId} : ∀ {l : List (DataW H)} {d : DataW H}, (DataW.weightsAll P e l).all (fun x => decide (x ≤ reachBytes)) = true → d ∈ l → lightD P e d
  | [], _, _, h => by cases h
  | x :: l, d, h, hd => by
    simp only [DataW.weightsAll, List.all_append, Bool.and_eq_true] at h
    rcases List.mem_cons.1 hd with rfl | hd
    · exact h.1
    · exact weightsAll_mem h.2 hd

/-- Lists, element by element. -/
theorem allH_mk {α : Type} (R : List Value → α → Prop) (n : Nat) (S : α → Prop) : ∀ (k : Nat) (cs : List Value), cs.length = k * n → (∀ i, i < k → ∃ a, R ((cs.drop (i * n)).take n) a ∧ S a) → ∃ l : List α, l.length = k ∧ AllH R cs l ∧ ∀ a ∈ l, S a
  | 0, cs, hl, _ => ⟨[], rfl, List.eq_nil_of_length_eq_zero (by simpa using hl), by simp⟩
  | k + 1, cs, hl, h => by
    obtain ⟨a, ha, hs⟩ := h 0 (by omega)
    rw [Nat.zero_mul, List.drop_zero] at ha
    have hl' : (cs.drop n).length = k * n := by rw [List.length_drop, hl, Nat.add_mul]; omega
    obtain ⟨l, h1, h2, h3⟩ := allH_mk R n S k (cs.drop n) hl' (fun i hi => by
      have := h (i + 1) (by omega)
      rwa [Nat.add_mul, Nat.one_mul, Nat.add_comm, ← List.drop_drop] at this)
    exact ⟨a :: l, by simp [h1], ⟨cs.take n, cs.drop n, (List.take_append_drop n cs).symm, ha, h2⟩, by
      intro x hx
      rcases List.mem_cons.1 hx with rfl | hx
      · exact hs
      · exact h3 x hx⟩

theorem cells_join {a : Addr} {n : Nat} : ∀ (k : Nat), (∀ i, i < k → ∃ cs, cs.length = n ∧ Cells w (a.add (i * n)) cs) → ∃ cs, cs.length = k * n ∧ Cells w a cs
  | 0, _ => ⟨[], by simp, Cells.nil _ _⟩
  | k + 1, h => by
    obtain ⟨cs, h1, h2⟩ := cells_join k (fun i hi => h i (by omega))
    obtain ⟨ds, h3, h4⟩ := h k (by omega)
    exact ⟨cs ++ ds, by rw [List.length_append, h1, h3, Nat.add_mul]; omega, h2.append (by rw [h1]; exact h4)⟩

theorem Cells.unique {a : Addr} {cs ds : List Value} (h : Cells w a cs) (k : Cells w a ds) (hl : cs.length = ds.length) : cs = ds := by
  apply List.ext_getElem? 
  intro i
  rcases Nat.lt_or_ge i cs.length with hi | hi
  · have h1 := h i _ (List.getElem?_eq_getElem hi)
    have h2 := k i _ (List.getElem?_eq_getElem (by omega : i < ds.length))
    rw [List.getElem?_eq_getElem hi, List.getElem?_eq_getElem (by omega : i < ds.length), ← h1, ← h2]
  · rw [List.getElem?_eq_none hi, List.getElem?_eq_none (by omega)]

theorem nat_of_wf {k : IntKind} {n : Int} (hk : (k == .u8 || k == .u16 || k == .u32 || k == .u64) = true) (hw : (Lit.int k n).wf = true) : ∃ m : Nat, n = m := by
  have h0 : 0 ≤ n := by
    cases k <;> simp_all
    · exact (bounds_u8 hw).1
    · exact (bounds_u16 hw).1
    · exact (bounds_u32 hw).1
    · exact (bounds_u64 hw).1
  exact ⟨n.toNat, (Int.toNat_of_nonneg h0).symm⟩

theorem Ty.open_both : ∀ (ty : Ty),
    (∀ (t : TypeId), (ty.fits P).1 t = true → ∀ (n : Nat) (cs : List Value) (x : DataW H × List MemPlace), DataW.trod enc P w base spare held n t cs = some x → lightD P t x.1 → ∃ d, ty.holds w (fun b => b < w.heap.size) cs d ∧ ty.small d) ∧
    (∀ (fs : List Field) (off : Nat), (ty.fits P).2 fs off = true → ∀ (m : Nat) (cs : List Value) (xs : List (DataW H × List MemPlace)), cs.length = off + ty.size → xs.length = fs.length →
      (∀ (i : Nat) (f : Field), fs[i]? = some f → DataW.trod enc P w base spare held m f.type ((cs.drop f.offset).take (P.cellsOf f.type)) = xs[i]?) →
      (DataW.weightsEach P (fs.map (·.type)) (xs.map (·.1))).all (fun x => decide (x ≤ reachBytes)) = true → ∃ d, ty.holds w (fun b => b < w.heap.size) (cs.drop off) d ∧ ty.small d)
  | .u8 => ⟨fun t hf n cs x h _ => by
      simp only [Ty.fits] at hf
      split at hf <;> simp at hf
      rename_i hu
      obtain ⟨m, rfl, _, hw⟩ := DataW.trod_int hu h
      obtain ⟨k, rfl⟩ := nat_of_wf (by rfl) hw
      have hb := bounds_u8 hw
      exact ⟨UInt8.ofNat k, by simp only [Ty.holds]; rw [UInt8.toNat_ofNat']; simp; omega, trivial⟩, fun _ _ hf => by simp [Ty.fits] at hf⟩
  | .nat q => ⟨fun t hf n cs x h _ => by
      simp only [Ty.fits] at hf
      split at hf <;> simp only [Bool.false_eq_true, Bool.and_eq_true, beq_iff_eq] at hf
      rename_i hu
      obtain ⟨rfl, hk⟩ := hf
      obtain ⟨m, rfl, _, hw⟩ := DataW.trod_int hu h
      obtain ⟨k, rfl⟩ := nat_of_wf hk hw
      exact ⟨k, ⟨rfl, hw⟩, trivial⟩, fun _ _ hf => by simp [Ty.fits] at hf⟩
  | .int q => ⟨fun t hf n cs x h _ => by
      simp only [Ty.fits] at hf
      split at hf <;> simp only [Bool.false_eq_true, beq_iff_eq] at hf
      rename_i hu
      subst hf
      obtain ⟨m, rfl, _, hw⟩ := DataW.trod_int hu h
      exact ⟨m, ⟨rfl, hw⟩, trivial⟩, fun _ _ hf => by simp [Ty.fits] at hf⟩
  | .bool => ⟨fun t hf n cs x h _ => by
      simp only [Ty.fits] at hf
      split at hf <;> simp at hf
      rename_i hu
      obtain ⟨b, rfl, _⟩ := DataW.trod_bool hu h
      exact ⟨b, rfl, trivial⟩, fun _ _ hf => by simp [Ty.fits] at hf⟩
  | .str => ⟨fun t hf n cs x h _ => by
      simp only [Ty.fits] at hf
      split at hf <;> simp at hf
      rename_i hu
      obtain ⟨b, rfl, _, hs⟩ := DataW.trod_string hu h
      exact ⟨b, ⟨rfl, hs⟩, trivial⟩, fun _ _ hf => by simp [Ty.fits] at hf⟩
  | .arr k a => ⟨fun t hf n cs x h hl => by
      simp only [Ty.fits] at hf
      split at hf <;> simp only [Bool.false_eq_true, Bool.and_eq_true, beq_iff_eq] at hf
      rename_i hu
      obtain ⟨⟨⟨rfl, hfa⟩, hce⟩, hct⟩ := hf
      obtain ⟨xs, m, _, rfl, hlen, hxl, hi⟩ := DataW.trod_array hu h
      simp only [lightD, DataW.weights, hu] at hl
      rw [hce] at hi
      obtain ⟨l, h1, h2, h3⟩ := allH_mk (a.holds w (fun b => b < w.heap.size)) a.size a.small _ cs (hlen.trans hct) (fun i hik => by
        have hx := hi i hik
        rw [List.getElem?_eq_getElem (by omega)] at hx
        exact (Ty.open_both a).1 _ hfa m _ _ hx (weightsAll_mem hl (List.mem_map_of_mem (List.getElem_mem _))))
      exact ⟨l, ⟨h1, h2⟩, h3⟩, fun _ _ hf => by simp [Ty.fits] at hf⟩
  | .sl a => ⟨fun t hf n cs x h hl => by
      simp only [Ty.fits] at hf
      split at hf <;> simp only [Bool.false_eq_true, Bool.and_eq_true, beq_iff_eq, decide_eq_true_eq] at hf
      rename_i e hu
      obtain ⟨⟨⟨hfa, hce⟩, hwt⟩, hpos⟩ := hf
      rcases Deep.open_slice hu h with ⟨rfl, rfl⟩ | ⟨ad, len, cap, m, n', D, Pl, rfl, hb, hlc, hm, hmm, rfl, hi⟩
      · exact ⟨[], ⟨none, 0, [], rfl, by simp, by simp [maxLen], fun _ => rfl, fun h => absurd rfl h, rfl⟩, by simp [Ty.small]⟩
      · have hml : len ≤ m := by subst hmm; split <;> omega
        rw [hce] at hi
        simp only [lightD, DataW.weights, hu, List.all_cons, List.all_append, Bool.and_eq_true, decide_eq_true_eq, List.length_map, List.length_range] at hl
        obtain ⟨hl1, hl2, _⟩ := hl
        obtain ⟨xs, hx1, hx2⟩ := cells_join (w := w) (a := ad) (n := a.size) len (fun i hi' => by
          obtain ⟨cs', hc, _⟩ := hi i (by omega)
          obtain ⟨_, hcl, hat⟩ := World.cells?_some hc
          exact ⟨cs', hcl, fun j u hu => by
            have hj := (List.getElem?_eq_some_iff.1 hu).1
            rw [hat j (by omega)]; exact hu⟩)
        obtain ⟨l, h1, h2, h3⟩ := allH_mk (a.holds w (fun b => b < w.heap.size)) a.size a.small len xs hx1 (fun i hik => by
          obtain ⟨cs', hc, ht⟩ := hi i (by omega)
          obtain ⟨_, hcl, hat⟩ := World.cells?_some hc
          have hc' : Cells w (ad.add (i * a.size)) cs' := fun j u hu => by
            have hj := (List.getElem?_eq_some_iff.1 hu).1
            rw [hat j (by omega)]; exact hu
          have hle : (i + 1) * a.size ≤ len * a.size := Nat.mul_le_mul_right _ (by omega)
          rw [Nat.add_mul, Nat.one_mul] at hle
          have e : (xs.drop (i * a.size)).take a.size = cs' := Cells.unique (w := w) (a := ad.add (i * a.size)) ((hx2.drop _).take _) hc' (by rw [List.length_take, List.length_drop, hx1, hcl]; omega)
          rw [e]
          exact (Ty.open_both a).1 _ hfa n' _ _ ht (weightsAll_mem hl2 (List.mem_map_of_mem (by simpa using hik))))
        have hlw : len * a.wt ≤ reachBytes := Nat.le_trans (Nat.mul_le_mul (by omega) hwt) hl1
        subst h1
        refine ⟨l, ⟨some ad, cap, xs, rfl, hlc, hm, by simp, fun hne => ⟨ad, rfl, hx2.lt ?_, hx2⟩, h2⟩, hlw, h3⟩
        rintro rfl
        have := Nat.mul_pos (List.length_pos_iff.2 hne) hpos
        simp at hx1
        omega, fun _ _ hf => by simp [Ty.fits] at hf⟩
  | .st c => ⟨fun t hf n cs x h hl => by
      simp only [Ty.fits] at hf
      split at hf <;> simp only [Bool.false_eq_true, Bool.and_eq_true, beq_iff_eq] at hf
      rename_i fs hu
      obtain ⟨hfc, hct⟩ := hf
      obtain ⟨xs, m, _, rfl, hlen, hxl, hi⟩ := DataW.trod_struct hu h
      simp only [lightD, DataW.weights, hu] at hl
      have := (Ty.open_both c).2 fs.toList 0 hfc m cs xs (by rw [Nat.zero_add, ← hct]; exact hlen) (by simpa using hxl) (fun i f hf => hi i f (by simpa using hf)) hl
      rw [List.drop_zero] at this
      exact this, fun _ _ hf => by simp [Ty.fits] at hf⟩
  | .unit => ⟨fun _ hf => by simp [Ty.fits] at hf, fun fs off _ m cs xs hl _ _ _ => ⟨(), List.drop_eq_nil_of_le (by rw [hl]; simp [Ty.size]), trivial⟩⟩
  | .pair a b => ⟨fun _ hf => by simp [Ty.fits] at hf, fun fs off hf m cs xs hl hxl hi hw => by
      cases fs with
      | nil => simp [Ty.fits] at hf
      | cons f r =>
        simp only [Ty.fits, Bool.and_eq_true, beq_iff_eq] at hf
        obtain ⟨⟨⟨rfl, hfa⟩, hce⟩, hfb⟩ := hf
        cases xs with
        | nil => simp at hxl
        | cons x xs =>
          simp only [List.map_cons, DataW.weightsEach, List.all_append, Bool.and_eq_true] at hw
          have h0 := hi 0 f rfl
          rw [hce] at h0
          obtain ⟨d1, g1, s1⟩ := (Ty.open_both a).1 _ hfa m _ _ h0 hw.1
          obtain ⟨d2, g2, s2⟩ := (Ty.open_both b).2 r (f.offset + a.size) hfb m cs xs (by rw [hl, Ty.size]; omega) (by simpa using hxl) (fun i f' hf' => by simpa using hi (i + 1) f' (by simpa using hf')) hw.2
          refine ⟨(d1, d2), ⟨_, _, ?_, g1, g2⟩, s1, s2⟩
          rw [← List.drop_drop, List.take_append_drop]⟩

/-- An argument that is no struct and no array. -/
theorem Ty.open_arg (ty : Ty) {t : TypeId} {v : Value} {d : DataW H} {ps : List MemPlace} (hf : (ty.fits P).1 t = true) (h : DataW.Trod enc P w base spare held t v d ps) (hl : lightD P t d) : ∃ x, ty.holds w (fun b => b < w.heap.size) v.cells.toList x ∧ ty.small x := by
  obtain ⟨n, h⟩ := h
  exact (Ty.open_both ty).1 t hf n _ _ h hl
end

/-- An argument that is a struct or an array. -/
theorem okWide_agg {P : Program} {w : World} {r : Reach} {base : Nat} {t : TypeId} {v : Value} {d : TypeDesc} (ht : P.underlying t = some d) (hd : (match d with | .struct _ => true | .array _ _ => true | _ => false) = true) (h : Value.okWide P w r base t v) : ∃ cs : List Value, v = .agg cs.toArray := by
  unfold Value.okWide at h
  rw [ht] at h
  cases d with
  | struct fs => obtain ⟨cs, rfl, _⟩ := h; exact ⟨cs.toList, by simp⟩
  | array n e => obtain ⟨cs, rfl, _⟩ := h; exact ⟨cs.toList, by simp⟩
  | _ => cases hd
end Go.Proofs.YtchnjcghbbacoaaDoor

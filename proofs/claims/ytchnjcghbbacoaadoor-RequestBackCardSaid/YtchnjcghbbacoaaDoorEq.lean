/- Equality of structs and arrays of a described type. Condition: the described type fits the program's, and has no slice in it. -/
import Derived.Test.YtchnjcghbbacoaaDoorLaws
set_option linter.unusedVariables false
set_option linter.unusedSimpArgs false
set_option linter.unnecessarySimpa false
namespace Go.Proofs.YtchnjcghbbacoaaDoor
open Go.RowKit

def eqvL {α : Type} (f : α → α → Bool) : List α → List α → Bool
  | [], [] => true
  | a :: l, b :: m => f a b && eqvL f l m
  | _, _ => false
def Ty.eqv : (t : Ty) → t.Data → t.Data → Bool
  | .u8, a, b => a == b
  | .nat _, a, b => (a : Nat) == b
  | .int _, a, b => (a : Int) == b
  | .bool, a, b => (a : Bool) == b
  | .str, a, b => a.toList == b.toList
  | .arr _ t, l, m => eqvL t.eqv l m
  | .sl _, _, _ => false
  | .st t, a, b => t.eqv a b
  | .unit, _, _ => true
  | .pair a b, x, y => a.eqv x.1 y.1 && b.eqv x.2 y.2
def Ty.plain : Ty → Bool
  | .arr _ t => t.plain
  | .sl _ => false
  | .st t => t.plain
  | .pair a b => a.plain && b.plain
  | _ => true
theorem eqvL_iff {α : Type} {f : α → α → Bool} (h : ∀ a b, f a b = true ↔ a = b) : ∀ (l m : List α), eqvL f l m = true ↔ l = m
  | [], [] => by simp [eqvL]
  | [], _ :: _ => by simp [eqvL]
  | _ :: _, [] => by simp [eqvL]
  | a :: l, b :: m => by simp [eqvL, h, eqvL_iff h l m]
theorem Ty.eqv_iff : ∀ (t : Ty), t.plain = true → ∀ x y : t.Data, t.eqv x y = true ↔ x = y
  | .u8, _, a, b => by simp [Ty.eqv]
  | .nat _, _, a, b => by simp [Ty.eqv]
  | .int _, _, a, b => by simp [Ty.eqv]
  | .bool, _, a, b => by simp [Ty.eqv]
  | .str, _, a, b => by
    simp only [Ty.eqv, beq_iff_eq, ByteArray.toList_eq]
    constructor
    · intro h; obtain ⟨⟨x⟩⟩ := a; obtain ⟨⟨y⟩⟩ := b; simp at h; subst h; rfl
    · rintro rfl; rfl
  | .arr _ t, h, l, m => eqvL_iff (Ty.eqv_iff t h) l m
  | .sl _, h, _, _ => by simp [Ty.plain] at h
  | .st t, h, a, b => Ty.eqv_iff t h a b
  | .unit, _, a, b => by simp [Ty.eqv]
  | .pair a b, h, x, y => by
    simp only [Ty.plain, Bool.and_eq_true] at h
    simp only [Ty.eqv, Bool.and_eq_true, Ty.eqv_iff a h.1, Ty.eqv_iff b h.2]
    constructor
    · rintro ⟨h1, h2⟩; exact Prod.ext h1 h2
    · rintro rfl; exact ⟨rfl, rfl⟩
def Ty.deep : Ty → Nat
  | .arr _ t => t.deep + 1
  | .st t => t.deep + 1
  | .pair a b => max a.deep b.deep
  | .unit => 0
  | _ => 1
/-- Does the described type fit the program's, and can it be compared? -/
def Ty.eqFits (P : Program) : Ty → (TypeId → Bool) × (List Field → Nat → Bool)
  | .u8 => (fun t => match P.underlying t with | some (.int .u8) => true | _ => false, fun _ _ => false)
  | .nat k => (fun t => match P.underlying t with | some (.int k') => k' == k | _ => false, fun _ _ => false)
  | .int k => (fun t => match P.underlying t with | some (.int k') => k' == k | _ => false, fun _ _ => false)
  | .bool => (fun t => match P.underlying t with | some .bool => true | _ => false, fun _ _ => false)
  | .str => (fun t => match P.underlying t with | some .string => true | _ => false, fun _ _ => false)
  | .arr n a => (fun t => match P.underlying t with | some (.array m e) => m == n && (a.eqFits P).1 e && (P.info? e).map (·.size) == some a.size | _ => false, fun _ _ => false)
  | .sl _ => (fun _ => false, fun _ _ => false)
  | .st c => (fun t => match P.underlying t with | some (.struct fs) => (c.eqFits P).2 fs.toList 0 && !P.stoodInHeld t | _ => false, fun _ _ => false)
  | .unit => (fun _ => false, fun fs _ => fs.isEmpty)
  | .pair a b => (fun _ => false, fun fs off => match fs with | f :: r => f.name != "_" && f.offset == off && (a.eqFits P).1 f.type && (P.info? f.type).map (·.size) == some a.size && (b.eqFits P).2 r (off + a.size) | [] => false)
/-- The value that cells are. -/
def Ty.val : Ty → List Value → Value
  | .arr _ _, cs => .agg cs.toArray
  | .st _, cs => .agg cs.toArray
  | _, cs => cs.headD undef
section
variable {P : Program}
theorem info_size {e : TypeId} {n : Nat} (h : (P.info? e).map (·.size) = some n) (w : World) : (sizeOf e).run P w = .ok n w := by
  obtain ⟨i, hi1, hi2⟩ := Option.map_eq_some_iff.1 h
  simp [sizeOf, typeInfo, hi1, hi2]
theorem isAgg_run {t : TypeId} {d : TypeDesc} (hu : P.underlying t = some d) (w : World) : (isAgg t).run P w = .ok (isAggD d) w := by
  unfold isAgg
  rw [Sem.run_bind, run_underlying hu w]
  cases d <;> rfl
/-- A part is the value of its cells. -/
theorem part_run (ty : Ty) {t : TypeId} (hf : (ty.eqFits P).1 t = true) (hs : (P.info? t).map (·.size) = some ty.size) {W : World} {F : Fp} {x : ty.Data} (cs c1 c2 : List Value) (off : Nat) (hc : cs.drop off = c1 ++ c2) (hx : ty.holds W F c1 x) (w : World) :
    (part t cs.toArray off).run P w = .ok (ty.val c1) w := by
  have hl := Ty.len ty hx
  have hcell : ∀ v, c1 = [v] → cs[off]? = some v := by
    rintro v rfl
    have h : (cs.drop off)[0]? = some v := by rw [hc]; rfl
    rw [List.getElem?_drop] at h
    simpa using h
  have one : ∀ v d, c1 = [v] → P.underlying t = some d → isAggD d = false → (part t cs.toArray off).run P w = .ok v w := by
    intro v d h hu hd
    simp only [part, Sem.run_bind, isAgg_run hu, hd, Result.andThen_ok, Bool.false_eq_true, if_false]
    have := hcell v h
    simp [this]
  have agg : ∀ d, P.underlying t = some d → isAggD d = true → (part t cs.toArray off).run P w = .ok (.agg c1.toArray) w := by
    intro d hu hd
    simp only [part, Sem.run_bind, isAgg_run hu, hd, Result.andThen_ok, if_true, info_size hs, Sem.run_pure]
    congr 2
    apply Array.ext'
    rw [Array.toList_extract]
    simp only [List.toList_toArray, Nat.add_sub_cancel_left, List.extract_eq_take_drop, hc, ← hl]
    simp
  cases ty with
  | u8 =>
    simp only [Ty.eqFits] at hf
    split at hf <;> try simp only [Bool.false_eq_true] at hf
    rename_i hu
    have hx : c1 = [.int .u8 (x.toNat : Int)] := hx
    rw [one _ _ hx hu rfl, hx]; rfl
  | nat k =>
    simp only [Ty.eqFits] at hf
    split at hf <;> try simp only [Bool.false_eq_true] at hf
    rename_i hu
    obtain ⟨hx, _⟩ := hx
    rw [one _ _ hx hu rfl, hx]; rfl
  | int k =>
    simp only [Ty.eqFits] at hf
    split at hf <;> try simp only [Bool.false_eq_true] at hf
    rename_i hu
    obtain ⟨hx, _⟩ := hx
    rw [one _ _ hx hu rfl, hx]; rfl
  | bool =>
    simp only [Ty.eqFits] at hf
    split at hf <;> try simp only [Bool.false_eq_true] at hf
    rename_i hu
    have hx : c1 = [.bool x] := hx
    rw [one _ _ hx hu rfl, hx]; rfl
  | str =>
    simp only [Ty.eqFits] at hf
    split at hf <;> try simp only [Bool.false_eq_true] at hf
    rename_i hu
    obtain ⟨hx, _⟩ := hx
    rw [one _ _ hx hu rfl, hx]; rfl
  | arr n a =>
    simp only [Ty.eqFits] at hf
    split at hf <;> try simp only [Bool.false_eq_true] at hf
    rename_i hu
    exact agg _ hu rfl
  | sl a => simp [Ty.eqFits] at hf
  | st c =>
    simp only [Ty.eqFits] at hf
    split at hf <;> try simp only [Bool.false_eq_true] at hf
    rename_i hu
    exact agg _ hu rfl
  | unit => simp [Ty.eqFits] at hf
  | pair a b => simp [Ty.eqFits] at hf

theorem eq_loop {W1 W2 : World} {F1 F2 : Fp} (a : Ty) (e : TypeId) (d : Nat) (hf : (a.eqFits P).1 e = true) (hs : (P.info? e).map (·.size) = some a.size)
    (ih : ∀ (w : World) (c1 c2 : List Value) (x y : a.Data), a.holds W1 F1 c1 x → a.holds W2 F2 c2 y → (Op.equalIn d e (a.val c1) (a.val c2)).run P w = .ok (a.eqv x y) w) (cs ds : List Value) :
    ∀ (l m : List a.Data) (i : Nat) (w : World), l.length = m.length → AllH (a.holds W1 F1) (cs.drop (i * a.size)) l → AllH (a.holds W2 F2) (ds.drop (i * a.size)) m →
    ∃ r : Option Bool, (forIn (m := Sem) (List.range' i l.length 1) ((none : Option Bool), ()) fun i _ => do
        let x ← part e cs.toArray (i * a.size)
        let y ← part e ds.toArray (i * a.size)
        let b ← Op.equalIn d e x y
        if (!b) = true then pure (ForInStep.done (some false, ())) else pure (ForInStep.yield (none, ()))).run P w = .ok (r, ()) w ∧ (r.getD true) = eqvL a.eqv l m
  | [], [], _, _, _, _, _ => ⟨none, by simp, rfl⟩
  | [], _ :: _, _, _, h, _, _ => by simp at h
  | _ :: _, [], _, _, h, _, _ => by simp at h
  | x :: l, y :: m, i, w, h, h1, h2 => by
    obtain ⟨c1, c2, e1, g1, g2⟩ := h1
    obtain ⟨d1, d2, e2, k1, k2⟩ := h2
    have hp1 := part_run a hf hs cs c1 c2 (i * a.size) e1 g1 w
    have hp2 := part_run a hf hs ds d1 d2 (i * a.size) e2 k1 w
    have he := ih w c1 d1 x y g1 k1
    have n1 : cs.drop ((i + 1) * a.size) = c2 := by
      rw [Nat.add_mul, Nat.one_mul, ← List.drop_drop, e1, ← Ty.len a g1, List.drop_left]
    have n2 : ds.drop ((i + 1) * a.size) = d2 := by
      rw [Nat.add_mul, Nat.one_mul, ← List.drop_drop, e2, ← Ty.len a k1, List.drop_left]
    obtain ⟨r, hr, hr2⟩ := eq_loop a e d hf hs ih cs ds l m (i + 1) w (by simpa using h) (by rw [n1]; exact g2) (by rw [n2]; exact k2)
    simp only [List.length_cons, List.range'_succ, List.forIn_cons, Sem.run_bind, hp1, hp2, he, Result.andThen_ok]
    cases hb : a.eqv x y
    · exact ⟨some false, by simp, by simp [eqvL, hb]⟩
    · refine ⟨r, ?_, by simp [eqvL, hb, hr2]⟩
      simpa using hr
theorem eq_both : ∀ (ty : Ty),
    (∀ (t : TypeId) (d : Nat), (ty.eqFits P).1 t = true → ty.deep ≤ d → ∀ (w W1 W2 : World) (F1 F2 : Fp) (cs ds : List Value) (x y : ty.Data), ty.holds W1 F1 cs x → ty.holds W2 F2 ds y → (Op.equalIn d t (ty.val cs) (ty.val ds)).run P w = .ok (ty.eqv x y) w) ∧
    (∀ (fs : List Field) (off d : Nat), (ty.eqFits P).2 fs off = true → ty.deep ≤ d → ∀ (w W1 W2 : World) (F1 F2 : Fp) (cs ds : List Value) (x y : ty.Data), ty.holds W1 F1 (cs.drop off) x → ty.holds W2 F2 (ds.drop off) y → (Op.eqFields d cs.toArray ds.toArray fs).run P w = .ok (ty.eqv x y) w)
  | .u8 => ⟨fun t d hf hd w _ _ _ _ cs ds x y h1 h2 => by
      simp only [Ty.eqFits] at hf
      split at hf <;> try simp only [Bool.false_eq_true] at hf
      rename_i hu
      obtain ⟨d, rfl⟩ : ∃ k, d = k + 1 := ⟨d - 1, by simp only [Ty.deep] at hd; omega⟩
      have h1 : cs = [.int .u8 (x.toNat : Int)] := h1
      have h2 : ds = [.int .u8 (y.toNat : Int)] := h2
      subst h1 h2
      show (Op.equalIn (d + 1) t (.int .u8 _) (.int .u8 _)).run P w = _
      rw [run_equalIn_int w d t .u8 .u8 _ _ hu]
      congr 1
      show _ = (x == y)
      rw [Bool.eq_iff_iff]
      simp [← UInt8.toNat_inj]
      omega, fun _ _ _ hf => by simp [Ty.eqFits] at hf⟩
  | .nat k => ⟨fun t d hf hd w _ _ _ _ cs ds x y h1 h2 => by
      simp only [Ty.eqFits] at hf
      split at hf <;> try simp only [Bool.false_eq_true] at hf
      rename_i hu
      obtain ⟨d, rfl⟩ : ∃ k, d = k + 1 := ⟨d - 1, by simp only [Ty.deep] at hd; omega⟩
      obtain ⟨rfl, _⟩ := h1
      obtain ⟨rfl, _⟩ := h2
      show (Op.equalIn (d + 1) t (.int k _) (.int k _)).run P w = _
      rw [run_equalIn_int w d t k _ _ _ hu]
      congr 1
      show _ = ((x : Nat) == y)
      rw [Bool.eq_iff_iff, beq_iff_eq, beq_iff_eq]
      exact Int.ofNat_inj, fun _ _ _ hf => by simp [Ty.eqFits] at hf⟩
  | .int k => ⟨fun t d hf hd w _ _ _ _ cs ds x y h1 h2 => by
      simp only [Ty.eqFits] at hf
      split at hf <;> try simp only [Bool.false_eq_true] at hf
      rename_i hu
      obtain ⟨d, rfl⟩ : ∃ k, d = k + 1 := ⟨d - 1, by simp only [Ty.deep] at hd; omega⟩
      obtain ⟨rfl, _⟩ := h1
      obtain ⟨rfl, _⟩ := h2
      show (Op.equalIn (d + 1) t (.int k _) (.int k _)).run P w = _
      rw [run_equalIn_int w d t k _ _ _ hu]
      rfl, fun _ _ _ hf => by simp [Ty.eqFits] at hf⟩
  | .bool => ⟨fun t d hf hd w _ _ _ _ cs ds x y h1 h2 => by
      simp only [Ty.eqFits] at hf
      split at hf <;> try simp only [Bool.false_eq_true] at hf
      rename_i hu
      obtain ⟨d, rfl⟩ : ∃ k, d = k + 1 := ⟨d - 1, by simp only [Ty.deep] at hd; omega⟩
      have h1 : cs = [.bool x] := h1
      have h2 : ds = [.bool y] := h2
      subst h1 h2
      show (Op.equalIn (d + 1) t (.bool _) (.bool _)).run P w = _
      rw [run_equalIn_bool' w d t _ _ hu]
      rfl, fun _ _ _ hf => by simp [Ty.eqFits] at hf⟩
  | .str => ⟨fun t d hf hd w _ _ _ _ cs ds x y h1 h2 => by
      simp only [Ty.eqFits] at hf
      split at hf <;> try simp only [Bool.false_eq_true] at hf
      rename_i hu
      obtain ⟨d, rfl⟩ : ∃ k, d = k + 1 := ⟨d - 1, by simp only [Ty.deep] at hd; omega⟩
      obtain ⟨rfl, _⟩ := h1
      obtain ⟨rfl, _⟩ := h2
      show (Op.equalIn (d + 1) t (.string _) (.string _)).run P w = _
      rw [run_equalIn_string w d t _ _ hu]
      rfl, fun _ _ _ hf => by simp [Ty.eqFits] at hf⟩
  | .arr n a => ⟨fun t d hf hd w W1 W2 F1 F2 cs ds x y h1 h2 => by
      simp only [Ty.eqFits] at hf
      split at hf <;> try simp only [Bool.false_eq_true] at hf
      rename_i m e hu
      simp only [Bool.and_eq_true, beq_iff_eq] at hf
      obtain ⟨⟨rfl, hfa⟩, hs⟩ := hf
      obtain ⟨d, rfl⟩ : ∃ k, d = k + 1 := ⟨d - 1, by simp only [Ty.deep] at hd; omega⟩
      simp only [Ty.deep] at hd
      obtain ⟨hx1, hx2⟩ := h1
      obtain ⟨hy1, hy2⟩ := h2
      obtain ⟨r, hr, hr2⟩ := eq_loop (W1 := W1) (W2 := W2) (F1 := F1) (F2 := F2) a e d hfa hs (fun w c1 c2 x y g1 g2 => (eq_both a).1 e d hfa (by omega) w W1 W2 F1 F2 c1 c2 x y g1 g2) cs ds x y 0 w (hx1.trans hy1.symm) (by simpa using hx2) (by simpa using hy2)
      show (Op.equalIn (d + 1) t (.agg cs.toArray) (.agg ds.toArray)).run P w = .ok (eqvL a.eqv x y) w
      rw [Op.equalIn]
      rw [hx1] at hr
      simp only [Sem.run_bind, run_underlying hu, Result.andThen_ok, info_size hs, Std.Legacy.Range.forIn_eq_forIn_range', Std.Legacy.Range.size, Nat.sub_zero, Nat.add_sub_cancel, Nat.div_one]
      (try simp only [Sem.run_bind] at hr)
      rw [hr, ← hr2]
      cases r <;> simp, fun _ _ _ hf => by simp [Ty.eqFits] at hf⟩
  | .sl a => ⟨fun _ _ hf => by simp [Ty.eqFits] at hf, fun _ _ _ hf => by simp [Ty.eqFits] at hf⟩
  | .st c => ⟨fun t d hf hd w W1 W2 F1 F2 cs ds x y h1 h2 => by
      simp only [Ty.eqFits] at hf
      split at hf <;> try simp only [Bool.false_eq_true] at hf
      rename_i fs hu
      simp only [Bool.and_eq_true, Bool.not_eq_true'] at hf
      obtain ⟨hfc, hst⟩ := hf
      obtain ⟨d, rfl⟩ : ∃ k, d = k + 1 := ⟨d - 1, by simp only [Ty.deep] at hd; omega⟩
      simp only [Ty.deep] at hd
      have hfo : P.fieldsOf t = fs := by simp only [Program.fieldsOf, hu]
      show (Op.equalIn (d + 1) t (.agg cs.toArray) (.agg ds.toArray)).run P w = .ok (c.eqv x y) w
      rw [run_equalIn_struct w d t _ _ (by rw [hfo]; exact hu) hst, hfo]
      exact (eq_both c).2 fs.toList 0 d hfc (by omega) w W1 W2 F1 F2 cs ds x y (by rw [List.drop_zero]; exact h1) (by rw [List.drop_zero]; exact h2), fun _ _ _ hf => by simp [Ty.eqFits] at hf⟩
  | .unit => ⟨fun _ _ hf => by simp [Ty.eqFits] at hf, fun fs off d hf _ w _ _ _ _ cs ds x y _ _ => by
      cases fs with
      | nil => simp [Op.eqFields, Ty.eqv]
      | cons f r => simp [Ty.eqFits] at hf⟩
  | .pair a b => ⟨fun _ _ hf => by simp [Ty.eqFits] at hf, fun fs off d hf hd w W1 W2 F1 F2 cs ds x y h1 h2 => by
      cases fs with
      | nil => simp [Ty.eqFits] at hf
      | cons f r =>
        simp only [Ty.eqFits, Bool.and_eq_true, beq_iff_eq, bne_iff_ne] at hf
        obtain ⟨⟨⟨⟨hn, rfl⟩, hfa⟩, hs⟩, hfb⟩ := hf
        simp only [Ty.deep] at hd
        obtain ⟨c1, c2, e1, g1, g2⟩ := h1
        obtain ⟨d1, d2, e2, k1, k2⟩ := h2
        have n1 : cs.drop (f.offset + a.size) = c2 := by rw [← List.drop_drop, e1, ← Ty.len a g1, List.drop_left]
        have n2 : ds.drop (f.offset + a.size) = d2 := by rw [← List.drop_drop, e2, ← Ty.len a k1, List.drop_left]
        have ha := (eq_both a).1 f.type d hfa (by omega) w W1 W2 F1 F2 c1 d1 x.1 y.1 g1 k1
        have hb := (eq_both b).2 r (f.offset + a.size) d hfb (by omega) w W1 W2 F1 F2 cs ds x.2 y.2 (by rw [n1]; exact g2) (by rw [n2]; exact k2)
        simp only [Op.eqFields, hn, ne_eq, not_false_eq_true, if_true, Sem.run_bind, part_run a hfa hs cs c1 c2 f.offset e1 g1 w, part_run a hfa hs ds d1 d2 f.offset e2 k1 w, ha, Result.andThen_ok, Sem.run_ite, Sem.run_pure, hb, Ty.eqv]
        cases a.eqv x.1 y.1 <;> simp⟩
/-- '==' at structs and arrays. -/
theorem run_eqTy (ty : Ty) (t : TypeId) (hf : (ty.eqFits P).1 t = true) (hd : ty.deep ≤ 10000) (w W1 W2 : World) (F1 F2 : Fp) (cs ds : List Value) (x y : ty.Data) (h1 : ty.holds W1 F1 cs x) (h2 : ty.holds W2 F2 ds y) (hv : ∀ cs, ty.val cs = .agg cs.toArray) :
    (binOp .eql t (.agg cs.toArray) (.agg ds.toArray)).run P w = .ok (.bool (ty.eqv x y)) w := by
  have h := (eq_both ty).1 t 10000 hf hd w W1 W2 F1 F2 cs ds x y h1 h2
  rw [hv, hv] at h
  rw [run_eql_struct, h]; rfl
theorem run_neTy (ty : Ty) (t : TypeId) (hf : (ty.eqFits P).1 t = true) (hd : ty.deep ≤ 10000) (w W1 W2 : World) (F1 F2 : Fp) (cs ds : List Value) (x y : ty.Data) (h1 : ty.holds W1 F1 cs x) (h2 : ty.holds W2 F2 ds y) (hv : ∀ cs, ty.val cs = .agg cs.toArray) :
    (binOp .neq t (.agg cs.toArray) (.agg ds.toArray)).run P w = .ok (.bool (!ty.eqv x y)) w := by
  have h := (eq_both ty).1 t 10000 hf hd w W1 W2 F1 F2 cs ds x y h1 h2
  rw [hv, hv] at h
  rw [run_neq_struct, h]; rfl
end
end Go.Proofs.YtchnjcghbbacoaaDoor

/- Walks and plain laws, put together in build order. Conditions: what each of them names. -/
import Derived.Test.YtpdkmapogncgmaaW226714884d
set_option linter.unusedVariables false
set_option linter.unusedSimpArgs false
set_option linter.unnecessarySimpa false
namespace Go.Proofs.Ytpdkmapogncgmaa
section
open Go.RowKit

def eqvL {α : Type} (f : α → α → Bool) : List α → List α → Bool
  | [], [] => true
  | a :: l, b :: m => f a b && eqvL f l m
  | _, _ => false
def Ty.eqv : (t : Ty) → t.Data → t.Data → Bool
  | .u8, a, b => a == b
  | .nat _, a, b => (a : Nat) == b
  | .int _, a, b => (a : Int) == b
  | .bool, a, b => (a : Bool) == b
  | .str, a, b => a.toList == b.toList
  | .arr _ t, l, m => eqvL t.eqv l m
  | .sl _, _, _ => false
  | .st t, a, b => t.eqv a b
  | .unit, _, _ => true
  | .pair a b, x, y => a.eqv x.1 y.1 && b.eqv x.2 y.2
def Ty.plain : Ty → Bool
  | .arr _ t => t.plain
  | .sl _ => false
  | .st t => t.plain
  | .pair a b => a.plain && b.plain
  | _ => true
theorem eqvL_iff {α : Type} {f : α → α → Bool} (h : ∀ a b, f a b = true ↔ a = b) : ∀ (l m : List α), eqvL f l m = true ↔ l = m
  | [], [] => by simp [eqvL]
  | [], _ :: _ => by simp [eqvL]
  | _ :: _, [] => by simp [eqvL]
  | a :: l, b :: m => by simp [eqvL, h, eqvL_iff h l m]
theorem Ty.eqv_iff : ∀ (t : Ty), t.plain = true → ∀ x y : t.Data, t.eqv x y = true ↔ x = y
  | .u8, _, a, b => by simp [Ty.eqv]
  | .nat _, _, a, b => by simp [Ty.eqv]
  | .int _, _, a, b => by simp [Ty.eqv]
  | .bool, _, a, b => by simp [Ty.eqv]
  | .str, _, a, b => by
    simp only [Ty.eqv, beq_iff_eq, ByteArray.toList_eq]
    constructor
    · intro h; obtain ⟨⟨x⟩⟩ := a; obtain ⟨⟨y⟩⟩ := b; simp at h; subst h; rfl
    · rintro rfl; rfl
  | .arr _ t, h, l, m => eqvL_iff (Ty.eqv_iff t h) l m
  | .sl _, h, _, _ => by simp [Ty.plain] at h
  | .st t, h, a, b => Ty.eqv_iff t h a b
  | .unit, _, a, b => by simp [Ty.eqv]
  | .pair a b, h, x, y => by
    simp only [Ty.plain, Bool.and_eq_true] at h
    simp only [Ty.eqv, Bool.and_eq_true, Ty.eqv_iff a h.1, Ty.eqv_iff b h.2]
    constructor
    · rintro ⟨h1, h2⟩; exact Prod.ext h1 h2
    · rintro rfl; exact ⟨rfl, rfl⟩
def Ty.deep : Ty → Nat
  | .arr _ t => t.deep + 1
  | .st t => t.deep + 1
  | .pair a b => max a.deep b.deep
  | .unit => 0
  | _ => 1
/-- Does the described type fit the program's, and can it be compared? -/
def Ty.eqFits (P : Program) : Ty → (TypeId → Bool) × (List Field → Nat → Bool)
  | .u8 => (fun t => match P.underlying t with | some (.int .u8) => true | _ => false, fun _ _ => false)
  | .nat k => (fun t => match P.underlying t with | some (.int k') => k' == k | _ => false, fun _ _ => false)
  | .int k => (fun t => match P.underlying t with | some (.int k') => k' == k | _ => false, fun _ _ => false)
  | .bool => (fun t => match P.underlying t with | some .bool => true | _ => false, fun _ _ => false)
  | .str => (fun t => match P.underlying t with | some .string => true | _ => false, fun _ _ => false)
  | .arr n a => (fun t => match P.underlying t with | some (.array m e) => m == n && (a.eqFits P).1 e && (P.info? e).map (·.size) == some a.size | _ => false, fun _ _ => false)
  | .sl _ => (fun _ => false, fun _ _ => false)
  | .st c => (fun t => match P.underlying t with | some (.struct fs) => (c.eqFits P).2 fs.toList 0 && !P.stoodInHeld t | _ => false, fun _ _ => false)
  | .unit => (fun _ => false, fun fs _ => fs.isEmpty)
  | .pair a b => (fun _ => false, fun fs off => match fs with | f :: r => f.name != "_" && f.offset == off && (a.eqFits P).1 f.type && (P.info? f.type).map (·.size) == some a.size && (b.eqFits P).2 r (off + a.size) | [] => false)
/-- The value that cells are. -/
def Ty.val : Ty → List Value → Value
  | .arr _ _, cs => .agg cs.toArray
  | .st _, cs => .agg cs.toArray
  | _, cs => cs.headD undef
section
variable {P : Program}
theorem info_size {e : TypeId} {n : Nat} (h : (P.info? e).map (·.size) = some n) (w : World) : (sizeOf e).run P w = .ok n w := by
  obtain ⟨i, hi1, hi2⟩ := Option.map_eq_some_iff.1 h
  simp [sizeOf, typeInfo, hi1, hi2]
theorem isAgg_run {t : TypeId} {d : TypeDesc} (hu : P.underlying t = some d) (w : World) : (isAgg t).run P w = .ok (isAggD d) w := by
  unfold isAgg
  rw [Sem.run_bind, run_underlying hu w]
  cases d <;> rfl
/-- A part is the value of its cells. -/
theorem part_run (ty : Ty) {t : TypeId} (hf : (ty.eqFits P).1 t = true) (hs : (P.info? t).map (·.size) = some ty.size) {W : World} {F : Fp} {x : ty.Data} (cs c1 c2 : List Value) (off : Nat) (hc : cs.drop off = c1 ++ c2) (hx : ty.holds W F c1 x) (w : World) :
    (part t cs.toArray off).run P w = .ok (ty.val c1) w := by
  have hl := Ty.len ty hx
  have hcell : ∀ v, c1 = [v] → cs[off]? = some v := by
    rintro v rfl
    have h : (cs.drop off)[0]? = some v := by rw [hc]; rfl
    rw [List.getElem?_drop] at h
    simpa using h
  have one : ∀ v d, c1 = [v] → P.underlying t = some d → isAggD d = false → (part t cs.toArray off).run P w = .ok v w := by
    intro v d h hu hd
    simp only [part, Sem.run_bind, isAgg_run hu, hd, Result.andThen_ok, Bool.false_eq_true, if_false]
    have := hcell v h
    simp [this]
  have agg : ∀ d, P.underlying t = some d → isAggD d = true → (part t cs.toArray off).run P w = .ok (.agg c1.toArray) w := by
    intro d hu hd
    simp only [part, Sem.run_bind, isAgg_run hu, hd, Result.andThen_ok, if_true, info_size hs, Sem.run_pure]
    congr 2
    apply Array.ext'
    rw [Array.toList_extract]
    simp only [List.toList_toArray, Nat.add_sub_cancel_left, List.extract_eq_take_drop, hc, ← hl]
    simp
  cases ty with
  | u8 =>
    simp only [Ty.eqFits] at hf
    split at hf <;> try simp only [Bool.false_eq_true] at hf
    rename_i hu
    have hx : c1 = [.int .u8 (x.toNat : Int)] := hx
    rw [one _ _ hx hu rfl, hx]; rfl
  | nat k =>
    simp only [Ty.eqFits] at hf
    split at hf <;> try simp only [Bool.false_eq_true] at hf
    rename_i hu
    obtain ⟨hx, _⟩ := hx
    rw [one _ _ hx hu rfl, hx]; rfl
  | int k =>
    simp only [Ty.eqFits] at hf
    split at hf <;> try simp only [Bool.false_eq_true] at hf
    rename_i hu
    obtain ⟨hx, _⟩ := hx
    rw [one _ _ hx hu rfl, hx]; rfl
  | bool =>
    simp only [Ty.eqFits] at hf
    split at hf <;> try simp only [Bool.false_eq_true] at hf
    rename_i hu
    have hx : c1 = [.bool x] := hx
    rw [one _ _ hx hu rfl, hx]; rfl
  | str =>
    simp only [Ty.eqFits] at hf
    split at hf <;> try simp only [Bool.false_eq_true] at hf
    rename_i hu
    obtain ⟨hx, _⟩ := hx
    rw [one _ _ hx hu rfl, hx]; rfl
  | arr n a =>
    simp only [Ty.eqFits] at hf
    split at hf <;> try simp only [Bool.false_eq_true] at hf
    rename_i hu
    exact agg _ hu rfl
  | sl a => simp [Ty.eqFits] at hf
  | st c =>
    simp only [Ty.eqFits] at hf
    split at hf <;> try simp only [Bool.false_eq_true] at hf
    rename_i hu
    exact agg _ hu rfl
  | unit => simp [Ty.eqFits] at hf
  | pair a b => simp [Ty.eqFits] at hf

theorem eq_loop {W1 W2 : World} {F1 F2 : Fp} (a : Ty) (e : TypeId) (d : Nat) (hf : (a.eqFits P).1 e = true) (hs : (P.info? e).map (·.size) = some a.size)
    (ih : ∀ (w : World) (c1 c2 : List Value) (x y : a.Data), a.holds W1 F1 c1 x → a.holds W2 F2 c2 y → (Op.equalIn d e (a.val c1) (a.val c2)).run P w = .ok (a.eqv x y) w) (cs ds : List Value) :
    ∀ (l m : List a.Data) (i : Nat) (w : World), l.length = m.length → AllH (a.holds W1 F1) (cs.drop (i * a.size)) l → AllH (a.holds W2 F2) (ds.drop (i * a.size)) m →
    ∃ r : Option Bool, (forIn (m := Sem) (List.range' i l.length 1) ((none : Option Bool), ()) fun i _ => do
        let x ← part e cs.toArray (i * a.size)
        let y ← part e ds.toArray (i * a.size)
        let b ← Op.equalIn d e x y
        if (!b) = true then pure (ForInStep.done (some false, ())) else pure (ForInStep.yield (none, ()))).run P w = .ok (r, ()) w ∧ (r.getD true) = eqvL a.eqv l m
  | [], [], _, _, _, _, _ => ⟨none, by simp, rfl⟩
  | [], _ :: _, _, _, h, _, _ => by simp at h
  | _ :: _, [], _, _, h, _, _ => by simp at h
  | x :: l, y :: m, i, w, h, h1, h2 => by
    obtain ⟨c1, c2, e1, g1, g2⟩ := h1
    obtain ⟨d1, d2, e2, k1, k2⟩ := h2
    have hp1 := part_run a hf hs cs c1 c2 (i * a.size) e1 g1 w
    have hp2 := part_run a hf hs ds d1 d2 (i * a.size) e2 k1 w
    have he := ih w c1 d1 x y g1 k1
    have n1 : cs.drop ((i + 1) * a.size) = c2 := by
      rw [Nat.add_mul, Nat.one_mul, ← List.drop_drop, e1, ← Ty.len a g1, List.drop_left]
    have n2 : ds.drop ((i + 1) * a.size) = d2 := by
      rw [Nat.add_mul, Nat.one_mul, ← List.drop_drop, e2, ← Ty.len a k1, List.drop_left]
    obtain ⟨r, hr, hr2⟩ := eq_loop a e d hf hs ih cs ds l m (i + 1) w (by simpa using h) (by rw [n1]; exact g2) (by rw [n2]; exact k2)
    simp only [List.length_cons, List.range'_succ, List.forIn_cons, Sem.run_bind, hp1, hp2, he, Result.andThen_ok]
    cases hb : a.eqv x y
    · exact ⟨some false, by simp, by simp [eqvL, hb]⟩
    · refine ⟨r, ?_, by simp [eqvL, hb, hr2]⟩
      simpa using hr
theorem eq_both : ∀ (ty : Ty),
    (∀ (t : TypeId) (d : Nat), (ty.eqFits P).1 t = true → ty.deep ≤ d → ∀ (w W1 W2 : World) (F1 F2 : Fp) (cs ds : List Value) (x y : ty.Data), ty.holds W1 F1 cs x → ty.holds W2 F2 ds y → (Op.equalIn d t (ty.val cs) (ty.val ds)).run P w = .ok (ty.eqv x y) w) ∧
    (∀ (fs : List Field) (off d : Nat), (ty.eqFits P).2 fs off = true → ty.deep ≤ d → ∀ (w W1 W2 : World) (F1 F2 : Fp) (cs ds : List Value) (x y : ty.Data), ty.holds W1 F1 (cs.drop off) x → ty.holds W2 F2 (ds.drop off) y → (Op.eqFields d cs.toArray ds.toArray fs).run P w = .ok (ty.eqv x y) w)
  | .u8 => ⟨fun t d hf hd w _ _ _ _ cs ds x y h1 h2 => by
      simp only [Ty.eqFits] at hf
      split at hf <;> try simp only [Bool.false_eq_true] at hf
      rename_i hu
      obtain ⟨d, rfl⟩ : ∃ k, d = k + 1 := ⟨d - 1, by simp only [Ty.deep] at hd; omega⟩
      have h1 : cs = [.int .u8 (x.toNat : Int)] := h1
      have h2 : ds = [.int .u8 (y.toNat : Int)] := h2
      subst h1 h2
      show (Op.equalIn (d + 1) t (.int .u8 _) (.int .u8 _)).run P w = _
      rw [run_equalIn_int w d t .u8 .u8 _ _ hu]
      congr 1
      show _ = (x == y)
      rw [Bool.eq_iff_iff]
      simp [← UInt8.toNat_inj]
      omega, fun _ _ _ hf => by simp [Ty.eqFits] at hf⟩
  | .nat k => ⟨fun t d hf hd w _ _ _ _ cs ds x y h1 h2 => by
      simp only [Ty.eqFits] at hf
      split at hf <;> try simp only [Bool.false_eq_true] at hf
      rename_i hu
      obtain ⟨d, rfl⟩ : ∃ k, d = k + 1 := ⟨d - 1, by simp only [Ty.deep] at hd; omega⟩
      obtain ⟨rfl, _⟩ := h1
      obtain ⟨rfl, _⟩ := h2
      show (Op.equalIn (d + 1) t (.int k _) (.int k _)).run P w = _
      rw [run_equalIn_int w d t k _ _ _ hu]
      congr 1
      show _ = ((x : Nat) == y)
      rw [Bool.eq_iff_iff, beq_iff_eq, beq_iff_eq]
      exact Int.ofNat_inj, fun _ _ _ hf => by simp [Ty.eqFits] at hf⟩
  | .int k => ⟨fun t d hf hd w _ _ _ _ cs ds x y h1 h2 => by
      simp only [Ty.eqFits] at hf
      split at hf <;> try simp only [Bool.false_eq_true] at hf
      rename_i hu
      obtain ⟨d, rfl⟩ : ∃ k, d = k + 1 := ⟨d - 1, by simp only [Ty.deep] at hd; omega⟩
      obtain ⟨rfl, _⟩ := h1
      obtain ⟨rfl, _⟩ := h2
      show (Op.equalIn (d + 1) t (.int k _) (.int k _)).run P w = _
      rw [run_equalIn_int w d t k _ _ _ hu]
      rfl, fun _ _ _ hf => by simp [Ty.eqFits] at hf⟩
  | .bool => ⟨fun t d hf hd w _ _ _ _ cs ds x y h1 h2 => by
      simp only [Ty.eqFits] at hf
      split at hf <;> try simp only [Bool.false_eq_true] at hf
      rename_i hu
      obtain ⟨d, rfl⟩ : ∃ k, d = k + 1 := ⟨d - 1, by simp only [Ty.deep] at hd; omega⟩
      have h1 : cs = [.bool x] := h1
      have h2 : ds = [.bool y] := h2
      subst h1 h2
      show (Op.equalIn (d + 1) t (.bool _) (.bool _)).run P w = _
      rw [run_equalIn_bool' w d t _ _ hu]
      rfl, fun _ _ _ hf => by simp [Ty.eqFits] at hf⟩
  | .str => ⟨fun t d hf hd w _ _ _ _ cs ds x y h1 h2 => by
      simp only [Ty.eqFits] at hf
      split at hf <;> try simp only [Bool.false_eq_true] at hf
      rename_i hu
      obtain ⟨d, rfl⟩ : ∃ k, d = k + 1 := ⟨d - 1, by simp only [Ty.deep] at hd; omega⟩
      obtain ⟨rfl, _⟩ := h1
      obtain ⟨rfl, _⟩ := h2
      show (Op.equalIn (d + 1) t (.string _) (.string _)).run P w = _
      rw [run_equalIn_string w d t _ _ hu]
      rfl, fun _ _ _ hf => by simp [Ty.eqFits] at hf⟩
  | .arr n a => ⟨fun t d hf hd w W1 W2 F1 F2 cs ds x y h1 h2 => by
      simp only [Ty.eqFits] at hf
      split at hf <;> try simp only [Bool.false_eq_true] at hf
      rename_i m e hu
      simp only [Bool.and_eq_true, beq_iff_eq] at hf
      obtain ⟨⟨rfl, hfa⟩, hs⟩ := hf
      obtain ⟨d, rfl⟩ : ∃ k, d = k + 1 := ⟨d - 1, by simp only [Ty.deep] at hd; omega⟩
      simp only [Ty.deep] at hd
      obtain ⟨hx1, hx2⟩ := h1
      obtain ⟨hy1, hy2⟩ := h2
      obtain ⟨r, hr, hr2⟩ := eq_loop (W1 := W1) (W2 := W2) (F1 := F1) (F2 := F2) a e d hfa hs (fun w c1 c2 x y g1 g2 => (eq_both a).1 e d hfa (by omega) w W1 W2 F1 F2 c1 c2 x y g1 g2) cs ds x y 0 w (hx1.trans hy1.symm) (by simpa using hx2) (by simpa using hy2)
      show (Op.equalIn (d + 1) t (.agg cs.toArray) (.agg ds.toArray)).run P w = .ok (eqvL a.eqv x y) w
      rw [Op.equalIn]
      rw [hx1] at hr
      simp only [Sem.run_bind, run_underlying hu, Result.andThen_ok, info_size hs, Std.Legacy.Range.forIn_eq_forIn_range', Std.Legacy.Range.size, Nat.sub_zero, Nat.add_sub_cancel, Nat.div_one]
      (try simp only [Sem.run_bind] at hr)
      rw [hr, ← hr2]
      cases r <;> simp, fun _ _ _ hf => by simp [Ty.eqFits] at hf⟩
  | .sl a => ⟨fun _ _ hf => by simp [Ty.eqFits] at hf, fun _ _ _ hf => by simp [Ty.eqFits] at hf⟩
  | .st c => ⟨fun t d hf hd w W1 W2 F1 F2 cs ds x y h1 h2 => by
      simp only [Ty.eqFits] at hf
      split at hf <;> try simp only [Bool.false_eq_true] at hf
      rename_i fs hu
      simp only [Bool.and_eq_true, Bool.not_eq_true'] at hf
      obtain ⟨hfc, hst⟩ := hf
      obtain ⟨d, rfl⟩ : ∃ k, d = k + 1 := ⟨d - 1, by simp only [Ty.deep] at hd; omega⟩
      simp only [Ty.deep] at hd
      have hfo : P.fieldsOf t = fs := by simp only [Program.fieldsOf, hu]
      show (Op.equalIn (d + 1) t (.agg cs.toArray) (.agg ds.toArray)).run P w = .ok (c.eqv x y) w
      rw [run_equalIn_struct w d t _ _ (by rw [hfo]; exact hu) hst, hfo]
      exact (eq_both c).2 fs.toList 0 d hfc (by omega) w W1 W2 F1 F2 cs ds x y (by rw [List.drop_zero]; exact h1) (by rw [List.drop_zero]; exact h2), fun _ _ _ hf => by simp [Ty.eqFits] at hf⟩
  | .unit => ⟨fun _ _ hf => by simp [Ty.eqFits] at hf, fun fs off d hf _ w _ _ _ _ cs ds x y _ _ => by
      cases fs with
      | nil => simp [Op.eqFields, Ty.eqv]
      | cons f r => simp [Ty.eqFits] at hf⟩
  | .pair a b => ⟨fun _ _ hf => by simp [Ty.eqFits] at hf, fun fs off d hf hd w W1 W2 F1 F2 cs ds x y h1 h2 => by
      cases fs with
      | nil => simp [Ty.eqFits] at hf
      | cons f r =>
        simp only [Ty.eqFits, Bool.and_eq_true, beq_iff_eq, bne_iff_ne] at hf
        obtain ⟨⟨⟨⟨hn, rfl⟩, hfa⟩, hs⟩, hfb⟩ := hf
        simp only [Ty.deep] at hd
        obtain ⟨c1, c2, e1, g1, g2⟩ := h1
        obtain ⟨d1, d2, e2, k1, k2⟩ := h2
        have n1 : cs.drop (f.offset + a.size) = c2 := by rw [← List.drop_drop, e1, ← Ty.len a g1, List.drop_left]
        have n2 : ds.drop (f.offset + a.size) = d2 := by rw [← List.drop_drop, e2, ← Ty.len a k1, List.drop_left]
        have ha := (eq_both a).1 f.type d hfa (by omega) w W1 W2 F1 F2 c1 d1 x.1 y.1 g1 k1
        have hb := (eq_both b).2 r (f.offset + a.size) d hfb (by omega) w W1 W2 F1 F2 cs ds x.2 y.2 (by rw [n1]; exact g2) (by rw [n2]; exact k2)
        simp only [Op.eqFields, hn, ne_eq, not_false_eq_true, if_true, Sem.run_bind, part_run a hfa hs cs c1 c2 f.offset e1 g1 w, part_run a hfa hs ds d1 d2 f.offset e2 k1 w, ha, Result.andThen_ok, Sem.run_ite, Sem.run_pure, hb, Ty.eqv]
        cases a.eqv x.1 y.1 <;> simp⟩
/-- '==' at structs and arrays. -/
theorem run_eqTy (ty : Ty) (t : TypeId) (hf : (ty.eqFits P).1 t = true) (hd : ty.deep ≤ 10000) (w W1 W2 : World) (F1 F2 : Fp) (cs ds : List Value) (x y : ty.Data) (h1 : ty.holds W1 F1 cs x) (h2 : ty.holds W2 F2 ds y) (hv : ∀ cs, ty.val cs = .agg cs.toArray) :
    (binOp .eql t (.agg cs.toArray) (.agg ds.toArray)).run P w = .ok (.bool (ty.eqv x y)) w := by
  have h := (eq_both ty).1 t 10000 hf hd w W1 W2 F1 F2 cs ds x y h1 h2
  rw [hv, hv] at h
  rw [run_eql_struct, h]; rfl
theorem run_neTy (ty : Ty) (t : TypeId) (hf : (ty.eqFits P).1 t = true) (hd : ty.deep ≤ 10000) (w W1 W2 : World) (F1 F2 : Fp) (cs ds : List Value) (x y : ty.Data) (h1 : ty.holds W1 F1 cs x) (h2 : ty.holds W2 F2 ds y) (hv : ∀ cs, ty.val cs = .agg cs.toArray) :
    (binOp .neq t (.agg cs.toArray) (.agg ds.toArray)).run P w = .ok (.bool (!ty.eqv x y)) w := by
  have h := (eq_both ty).1 t 10000 hf hd w W1 W2 F1 F2 cs ds x y h1 h2
  rw [hv, hv] at h
  rw [run_neq_struct, h]; rfl
end
end
section
open Go.RowKit
section
variable {P : Program} {C : World → Prop} {o : Oper} {a : Act} {K : Act → Prop}
theorem quiet_eqTy (ty : Ty) (t t' : TypeId) (x y : Operand) (ho : o.op = .binOp .eql t x y t') (hf : (ty.eqFits P).1 t = true) (hd : ty.deep ≤ 10000) (hg : P.eqGuardType P.depth t = false) (hv : ∀ cs, ty.val cs = .agg cs.toArray)
    {W1 W2 : World} {F1 F2 : Fp} (cs ds : List Value) (d1 d2 : ty.Data) (hx : a.eval x = .agg cs.toArray) (hy : a.eval y = .agg ds.toArray) (h1 : ty.holds W1 F1 cs d1) (h2 : ty.holds W2 F2 ds d2) (hk : K (a.put o.dst (.bool (ty.eqv d1 d2)))) : o.quiet P a C K :=
  quiet_run _ (fun w _ => by
    unfold execOp
    simp only [ho, hx, hy, Sem.run_bind, run_eqGuard w .eql t x y _ _ (.inl rfl) hg, run_eqTy ty t hf hd w W1 W2 F1 F2 cs ds d1 d2 h1 h2 hv, Result.andThen_ok, Sem.run_pure]) hk
theorem quiet_neTy (ty : Ty) (t t' : TypeId) (x y : Operand) (ho : o.op = .binOp .neq t x y t') (hf : (ty.eqFits P).1 t = true) (hd : ty.deep ≤ 10000) (hg : P.eqGuardType P.depth t = false) (hv : ∀ cs, ty.val cs = .agg cs.toArray)
    {W1 W2 : World} {F1 F2 : Fp} (cs ds : List Value) (d1 d2 : ty.Data) (hx : a.eval x = .agg cs.toArray) (hy : a.eval y = .agg ds.toArray) (h1 : ty.holds W1 F1 cs d1) (h2 : ty.holds W2 F2 ds d2) (hk : K (a.put o.dst (.bool (!ty.eqv d1 d2)))) : o.quiet P a C K :=
  quiet_run _ (fun w _ => by
    unfold execOp
    simp only [ho, hx, hy, Sem.run_bind, run_eqGuard w .neq t x y _ _ (.inr rfl) hg, run_neTy ty t hf hd w W1 W2 F1 F2 cs ds d1 d2 h1 h2 hv, Result.andThen_ok, Sem.run_pure]) hk
theorem wpList_eqTy {w : World} {ops : Array Oper} {rest : List Oper} {Q : Exit → Act → World → Prop} (hgd : o.guard = none ∨ Region.wanted o (yielded ops a.tmps) = true) (ty : Ty) (t t' : TypeId) (x y : Operand) (ho : o.op = .binOp .eql t x y t') (hf : (ty.eqFits P).1 t = true) (hd : ty.deep ≤ 10000) (hg : P.eqGuardType P.depth t = false) (hv : ∀ cs, ty.val cs = .agg cs.toArray)
    {W1 W2 : World} {F1 F2 : Fp} (cs ds : List Value) (d1 d2 : ty.Data) (hx : a.eval x = .agg cs.toArray) (hy : a.eval y = .agg ds.toArray) (h1 : ty.holds W1 F1 cs d1) (h2 : ty.holds W2 F2 ds d2) (b : Bool) (hb : ty.eqv d1 d2 = b) (hk : wpList P ops Q rest (a.put o.dst (.bool b)) w) : wpList P ops Q (o :: rest) a w :=
  wpList_want hgd fun K hK => by
    subst hb
    unfold Oper.wp execOp
    simp only [ho, hx, hy, Sem.run_bind, run_eqGuard w .eql t x y _ _ (.inl rfl) hg, run_eqTy ty t hf hd w W1 W2 F1 F2 cs ds d1 d2 h1 h2 hv, Result.andThen_ok, Sem.run_pure]
    exact hK _ _ hk
theorem wpList_neTy {w : World} {ops : Array Oper} {rest : List Oper} {Q : Exit → Act → World → Prop} (hgd : o.guard = none ∨ Region.wanted o (yielded ops a.tmps) = true) (ty : Ty) (t t' : TypeId) (x y : Operand) (ho : o.op = .binOp .neq t x y t') (hf : (ty.eqFits P).1 t = true) (hd : ty.deep ≤ 10000) (hg : P.eqGuardType P.depth t = false) (hv : ∀ cs, ty.val cs = .agg cs.toArray)
    {W1 W2 : World} {F1 F2 : Fp} (cs ds : List Value) (d1 d2 : ty.Data) (hx : a.eval x = .agg cs.toArray) (hy : a.eval y = .agg ds.toArray) (h1 : ty.holds W1 F1 cs d1) (h2 : ty.holds W2 F2 ds d2) (b : Bool) (hb : (!ty.eqv d1 d2) = b) (hk : wpList P ops Q rest (a.put o.dst (.bool b)) w) : wpList P ops Q (o :: rest) a w :=
  wpList_want hgd fun K hK => by
    subst hb
    unfold Oper.wp execOp
    simp only [ho, hx, hy, Sem.run_bind, run_eqGuard w .neq t x y _ _ (.inr rfl) hg, run_neTy ty t hf hd w W1 W2 F1 F2 cs ds d1 d2 h1 h2 hv, Result.andThen_ok, Sem.run_pure]
    exact hK _ _ hk
end
end
section
open Go.RowKit

def chunks : Nat → List UInt8 → List (List UInt8)
  | 0, _ => []
  | n + 1, B => B.take 16 :: chunks n (B.drop 16)
theorem chunks_length : ∀ n B, (chunks n B).length = n
  | 0, _ => rfl
  | n + 1, B => by rw [chunks, List.length_cons, chunks_length]
theorem chunks_holds {w : World} {F : Fp} : ∀ (n : Nat) (B : List UInt8), B.length = 16 * n → AllH (PieceT.holds w F) (bv B) (chunks n B)
  | 0, B, h => by
    obtain rfl : B = [] := List.eq_nil_of_length_eq_zero (by omega)
    rfl
  | n + 1, B, h => by
    refine ⟨bv (B.take 16), bv (B.drop 16), by rw [← bv_append, List.take_append_drop], ⟨by show (B.take 16).length = 16; rw [List.length_take]; omega, AllH.bytes.2 rfl⟩, chunks_holds n (B.drop 16) (by rw [List.length_drop]; omega)⟩
theorem sig_holds (S : List UInt8) (hS : S.length = 1024) (w : World) (F : Fp) : SigT.holds w F (bv S) (chunks 32 (S.take 512), chunks 32 (S.drop 512), ()) := by
  refine ⟨bv (S.take 512), bv (S.drop 512), by rw [← bv_append, List.take_append_drop], ⟨chunks_length _ _, chunks_holds 32 _ (by rw [List.length_take]; omega)⟩, bv (S.drop 512), [], by rw [List.append_nil], ⟨chunks_length _ _, chunks_holds 32 _ (by rw [List.length_drop]; omega)⟩, rfl⟩
theorem rsig_fits : (SigT.eqFits Try.prog).1 26 = true := by kernel_rfl
theorem rsig_same (S : List UInt8) (hS : S.length = 1024) : (∀ (x y : Operand) (w : World), (eqGuard .eql 26 x y (.agg (bv S).toArray) (.agg (bv S).toArray)).run Try.prog w = .ok () w) ∧ ∀ w, (binOp .eql 26 (.agg (bv S).toArray) (.agg (bv S).toArray)).run Try.prog w = .ok (.bool true) w :=
  ⟨fun x y w => run_eqGuard w .eql 26 x y _ _ (.inl rfl) (by kernel_rfl), fun w => by
    obtain ⟨sg, hsg⟩ : ∃ sg : SigT.Data, ∀ (w : World) (F : Fp), SigT.holds w F (bv S) sg := ⟨_, fun w F => sig_holds S hS w F⟩
    have h := run_eqTy (P := Try.prog) SigT 26 rsig_fits (by decide) w w w (fun _ => False) (fun _ => False) (bv S) (bv S) sg sg (hsg w _) (hsg w _) (fun _ => rfl)
    have e : SigT.eqv sg sg = true := (Ty.eqv_iff SigT rfl sg sg).2 rfl
    rw [e] at h
    exact h⟩
end
section
open Go.RowKit
theorem szLampR {n : Nat} (h : n = 1024) : (Try.prog.info? 26).map (·.size) = some n := by subst h; kernel_rfl
theorem deep_sig : SigT.deep ≤ 10000 := by decide
theorem guardR_sig : Try.prog.eqGuardType Try.prog.depth 26 = false := by kernel_rfl
theorem val_sig (cs : List Value) : SigT.val cs = .agg cs.toArray := rfl
theorem szDigR {n : Nat} (h : n = 32) : (Try.prog.info? 31).map (·.size) = some n := by subst h; kernel_rfl
theorem szSigR {n : Nat} (h : n = 1026) : (Try.prog.info? 30).map (·.size) = some n := by subst h; kernel_rfl
set_option maxRecDepth 100000 in
set_option maxHeartbeats 8000000 in
theorem RSame05 (C : List Value) (key : Nat) (u v : Value) (ds : List Dg) (sg : SigT.Data) (w : World) (F : Fp) {W1 : World} {F1 : Fp} (hC : C.length = 1024) (hsg : SigT.holds W1 F1 C sg) (hc : Ways w F u ds) (hd : Ways w F v ds) (hF : ∀ b, F b → b < w.heap.size) :
    Calls Try.prog 17 #[.agg (sigC C key u).toArray, .agg (sigC C key v).toArray] w fun e w' => e = .returned (.bool true) ∧ Ext w w' := by
  obtain ⟨A, c, xs, rfl, hlc, hcm, hA, hcell, hall⟩ := ways_open hc
  obtain ⟨B, d', ys, rfl, hld, hdm, hB, hcel2, hal2⟩ := ways_open hd
  clear hc hd
  unfold maxLen at hcm hdm
  have hgt : Try.prog.eqGuardType Try.prog.depth 31 = false := by kernel_rfl
  have t1 := sigC_take hC key (.slice A (List.length (α := Dg) ds) c)
  have t2 := sigC_take hC key (.slice B (List.length (α := Dg) ds) d')
  have y1 := sigC_key hC key (.slice A (List.length (α := Dg) ds) c)
  have y2 := sigC_key hC key (.slice B (List.length (α := Dg) ds) d')
  have z1 := sigC_way hC key (.slice A (List.length (α := Dg) ds) c)
  have z2 := sigC_way hC key (.slice B (List.length (α := Dg) ds) d')
  have HCL := Lib.hid hC
  have HZS := Lib.hid (show (!SigT.eqv sg sg) = false by rw [(Ty.eqv_iff SigT (by decide) sg sg).2 rfl]; rfl)
  generalize sigC C key (.slice A (List.length (α := Dg) ds) c) = I1 at *
  generalize sigC C key (.slice B (List.length (α := Dg) ds) d') = I2 at *
  have hba : Blk ((w.alloc (.cells I1.toArray 30)).alloc (.cells I2.toArray 30)) w.heap.size 30 I1 := (Blk.new _ _ _).keep ((Ext.refl _).alloc _) (by simp)
  have hbb : Blk ((w.alloc (.cells I1.toArray 30)).alloc (.cells I2.toArray 30)) (w.heap.size + 1) 30 I2 := Blk.fresh (by simp) _ _
  have hx0 : Ext w ((w.alloc (.cells I1.toArray 30)).alloc (.cells I2.toArray 30)) := ((Ext.refl w).alloc _).alloc _
  have hcs : Cells ((w.alloc (.cells I1.toArray 30)).alloc (.cells I2.toArray 30)) ⟨w.heap.size, 0, none⟩ C := by have h := hba.cells.take 1024; rw [t1] at h; exact h
  have hct : Cells ((w.alloc (.cells I1.toArray 30)).alloc (.cells I2.toArray 30)) ⟨w.heap.size + 1, 0, none⟩ C := by have h := hbb.cells.take 1024; rw [t2] at h; exact h
  have ck1 := (hba.cell 1024).trans y1
  have ck2 := (hbb.cell 1024).trans y2
  have cw1 := (hba.cell 1025).trans z1
  have cw2 := (hbb.cell 1025).trans z2
  have hx9 : Ext ((w.alloc (.cells I1.toArray 30)).alloc (.cells I2.toArray 30)) ((w.alloc (.cells I1.toArray 30)).alloc (.cells I2.toArray 30)) := Ext.refl _
  have hkk : ((key : Int) != (key : Int)) = false := bne_self_eq_false _
  have hnn : ((List.length (α := Dg) ds : Int) != (List.length (α := Dg) ds : Int)) = false := bne_self_eq_false _
  have HX0 := Lib.hid hx0
  have HX9 := Lib.hid hx9
  have HBA := Lib.hid hba
  have HBB := Lib.hid hbb
  have HW1 := Lib.hid z1
  have HW2 := Lib.hid z2
  clear hx0 hx9 hba hbb z1 z2 y1 y2 t1 t2 hC
  go_enter Try.func17, Try.ntmps17
  go_wp2_with (first
    | (refine wpList_loadG (.inl rfl) 26 (.tmp 6) rfl _ rfl C _ Try.underlying26 rfl (szLampR HCL.out) hcs ?_)
    | (refine wpList_loadG (.inl rfl) 26 (.tmp 8) rfl _ rfl C _ Try.underlying26 rfl (szLampR HCL.out) hct ?_)
    | (refine wpList_neTy (.inl rfl) SigT 26 _ (.tmp 7) (.tmp 9) rfl rsig_fits deep_sig guardR_sig val_sig C C sg sg rfl rfl hsg hsg _ HZS.out ?_)
    | fail)
  go_loopw [5] (fun i wr => ∃ k : Nat, k ≤ List.length (α := Dg) ds ∧ i = .int .i64 k ∧ Ext ((w.alloc (.cells I1.toArray 30)).alloc (.cells I2.toArray 30)) wr) (fun i _ => List.length (α := Dg) ds - (intOf i).toNat)
  case atStart => exact ⟨0, by omega, rfl, HX9.out⟩
  case round =>
    obtain ⟨k, hk, rfl, hx⟩ := hrel
    have ca0 := ((HBA.out.keep hx (by simp)).cell 1025)
    have cb0 := ((HBB.out.keep hx (by simp)).cell 1025)
    have ca : wr.cell? ⟨w.heap.size, 1025, none⟩ = some (.slice A (List.length (α := Dg) ds) c) := ca0.trans HW1.out
    have cb : wr.cell? ⟨w.heap.size + 1, 1025, none⟩ = some (.slice B (List.length (α := Dg) ds) d') := cb0.trans HW2.out
    clear ca0 cb0
    by_cases hlt : k < List.length (α := Dg) ds
    · obtain ⟨ad, rfl, hf, hcells⟩ := hcell (by omega)
      obtain ⟨bd, rfl, hf2, hcells2⟩ := hcel2 (by omega)
      have hxw := HX0.out.trans hx
      obtain ⟨hc1, hok1⟩ := digs_at hall (hcells.keep (hxw.same hF _ hf)) hlt
      obtain ⟨hc2, hok2⟩ := digs_at hal2 (hcells2.keep (hxw.same hF _ hf2)) hlt
      generalize hg1 : ds[k] = d at *
      have HH1 := Lib.hid ((digT_iff (w := w) (F := F)).2 ⟨rfl, hok1⟩)
      have hl1 : (bv d).length = 32 := by simp [hok1]
      have HEQ := Lib.hid (show (!DigT.eqv d d) = false by rw [(Ty.eqv_iff DigT (by decide) d d).2 rfl]; rfl)
      have HL1 := Lib.hid hl1
      clear hl1 hok1 hok2
      generalize bv d = C1 at *
      have hc1 : Cells wr.drew (ad.add (k * 32)) C1 := hc1
      have hc2 : Cells wr.drew (bd.add (k * 32)) C1 := hc2
      have ca : wr.drew.cell? ⟨w.heap.size, 1025, none⟩ = some (.slice (some ad) (List.length (α := Dg) ds) c) := ca
      have cb : wr.drew.cell? ⟨w.heap.size + 1, 1025, none⟩ = some (.slice (some bd) (List.length (α := Dg) ds) d') := cb
      have HCA := Lib.hid hc1
      have HCB := Lib.hid hc2
      have HX := Lib.hid hx.drew
      have k0 : (0 : Int) ≤ (k : Int) := by omega
      have k1 : (k : Int) < (List.length (α := Dg) ds : Int) := by omega
      clear hc1 hc2 hx hg1 hcells hcells2 hxw
      go_wp2
      refine startM Since (by kernel_rfl) ?_
      refine takeE 0 rfl (by kernel_rfl) (by kernel_rfl) (by kernel_rfl) rfl (fun _ _ _ _ h => h) rfl (fun K hK => ?_)
      go_big_quiet_op
      first | refine hK _ ?_ | refine ⟨_, fun _ _ => rfl, hK _ ?_⟩
      clear hK K
      refine takeE 1 rfl (by kernel_rfl) (by kernel_rfl) (by kernel_rfl) rfl (fun _ _ _ _ h => h) rfl (fun K hK => ?_)
      refine quiet_cell _ _ rfl _ rfl _ _ Try.underlying28 rfl (fun W' h => World.grownBy.cell h.ext ca (by simp)) ?_
      refine hK _ ?_
      simp only [Act.put, List.setIfInBounds_toArray, List.set_cons_succ, List.set_cons_zero]
      clear hK K
      refine takeE 2 rfl (by kernel_rfl) (by kernel_rfl) (by kernel_rfl) rfl (fun _ _ _ _ h => h) rfl (fun K hK => ?_)
      go_big_quiet_op
      first | refine hK _ ?_ | refine ⟨_, fun _ _ => rfl, hK _ ?_⟩
      clear hK K
      refine takeE 3 rfl (by kernel_rfl) (by kernel_rfl) (by kernel_rfl) rfl (fun _ _ _ _ h => h) rfl (fun K hK => ?_)
      go_big_quiet_op
      first | refine hK _ ?_ | refine ⟨_, fun _ _ => rfl, hK _ ?_⟩
      clear hK K
      refine takeE 4 rfl (by kernel_rfl) (by kernel_rfl) (by kernel_rfl) rfl (fun _ _ _ _ h => h) rfl (fun K hK => ?_)
      refine quiet_agg 31 (.tmp 37) rfl _ rfl C1 _ Try.underlying31 rfl (szDigR HL1.out) (fun W' h => HCA.out.keep (h.ext.block _ (HCA.out.lt (by intro e; have := HL1.out; rw [e] at this; simp at this)) (by simp))) ?_
      refine hK _ ?_
      simp only [Act.put, List.setIfInBounds_toArray, List.set_cons_succ, List.set_cons_zero]
      clear hK K
      refine takeE 5 rfl (by kernel_rfl) (by kernel_rfl) (by kernel_rfl) rfl (fun _ _ _ _ h => h) rfl (fun K hK => ?_)
      go_big_quiet_op
      first | refine hK _ ?_ | refine ⟨_, fun _ _ => rfl, hK _ ?_⟩
      clear hK K
      refine takeE 6 rfl (by kernel_rfl) (by kernel_rfl) (by kernel_rfl) rfl (fun _ _ _ _ h => h) rfl (fun K hK => ?_)
      refine quiet_cell _ _ rfl _ rfl _ _ Try.underlying28 rfl (fun W' h => World.grownBy.cell h.ext cb (by simp)) ?_
      refine hK _ ?_
      simp only [Act.put, List.setIfInBounds_toArray, List.set_cons_succ, List.set_cons_zero]
      clear hK K
      refine takeE 7 rfl (by kernel_rfl) (by kernel_rfl) (by kernel_rfl) rfl (fun _ _ _ _ h => h) rfl (fun K hK => ?_)
      go_big_quiet_op
      first | refine hK _ ?_ | refine ⟨_, fun _ _ => rfl, hK _ ?_⟩
      clear hK K
      refine takeE 8 rfl (by kernel_rfl) (by kernel_rfl) (by kernel_rfl) rfl (fun _ _ _ _ h => h) rfl (fun K hK => ?_)
      go_big_quiet_op
      first | refine hK _ ?_ | refine ⟨_, fun _ _ => rfl, hK _ ?_⟩
      clear hK K
      refine takeE 9 rfl (by kernel_rfl) (by kernel_rfl) (by kernel_rfl) rfl (fun _ _ _ _ h => h) rfl (fun K hK => ?_)
      refine quiet_agg 31 (.tmp 42) rfl _ rfl C1 _ Try.underlying31 rfl (szDigR HL1.out) (fun W' h => HCB.out.keep (h.ext.block _ (HCB.out.lt (by intro e; have := HL1.out; rw [e] at this; simp at this)) (by simp))) ?_
      refine hK _ ?_
      simp only [Act.put, List.setIfInBounds_toArray, List.set_cons_succ, List.set_cons_zero]
      clear hK K
      refine takeE 10 rfl (by kernel_rfl) (by kernel_rfl) (by kernel_rfl) rfl (fun _ _ _ _ h => h) rfl (fun K hK => ?_)
      refine quiet_neTy DigT 31 _ (.tmp 38) (.tmp 43) rfl (by kernel_rfl) (by decide) hgt (fun _ => rfl) (W1 := w) (W2 := w) (F1 := F) (F2 := F) C1 C1 d d rfl rfl HH1.out HH1.out ?_
      rw [HEQ.out]
      refine hK _ ?_
      simp only [Act.put, List.setIfInBounds_toArray, List.set_cons_succ, List.set_cons_zero]
      clear hK K
      refine doneM (by kernel_rfl) ?_ _
      go_wp2
      go_roundw
      case rel => exact ⟨k + 1, by omega, by go_num, HX.out⟩
      case measure => simp [intOf]; omega
    · obtain rfl : k = List.length (α := Dg) ds := by omega
      go_wp2
      go_ret
      exact ⟨rfl, HX0.out.trans hx⟩
end
section
open Go.RowKit

theorem own_one {w : World} (b : UInt8) : OwnB (w.alloc (.cells #[.int .u8 (b.toNat : Int)] 5)) (.slice (some ⟨w.heap.size, 0, none⟩) 1 1) [b] :=
  ⟨rfl, .inr ⟨w.heap.size, 1, #[.int .u8 (b.toNat : Int)], rfl, Nat.zero_le _, heap_alloc_new w _, Nat.le_refl _, by simp [maxLen], rfl, rfl⟩⟩
theorem eq_guard_int {P : Program} (t : TypeId) (x y : Operand) (k : IntKind) (a b : Int) (w : World) : (eqGuard .eql t x y (.int k a) (.int k b)).run P w = .ok () w := rfl
theorem eq_true_int {P : Program} (t : TypeId) (k : IntKind) (a : Int) (w : World) : (binOp .eql t (.int k a) (.int k a)).run P w = .ok (.bool true) w := by simp [binOp, Op.intCmp]
theorem eq_guard_str {P : Program} (t : TypeId) (x y : Operand) (a b : ByteArray) (w : World) : (eqGuard .eql t x y (.string a) (.string b)).run P w = .ok () w := rfl
theorem eq_true_str {P : Program} (t : TypeId) (a : ByteArray) (w : World) : (binOp .eql t (.string a) (.string a)).run P w = .ok (.bool true) w := by simp [binOp, Op.stringOp]
theorem srcN9 {w : World} {A : Option Addr} {n c : Nat} {bs : List UInt8} (h : OwnB w (.slice A n c) bs) (hn : bs.length = n) : Src w A n (bv bs) := by subst hn; exact OwnB.src h
theorem own_some {w : World} {v : Value} {bs : List UInt8} (h : OwnB w v bs) (hn : bs.length ≠ 0) : ∃ g c, v = .slice (some ⟨g, 0, none⟩) bs.length c := by
  rcases h.2 with ⟨rfl, h0⟩ | ⟨g, cap, cur, rfl, _⟩
  · exact absurd h0 hn
  · exact ⟨_, _, rfl⟩
/-- A signature whose way lies in a block of its own, not that one. -/
def SigV (e : TypeId) (g : Nat) (w : World) (M : List Value) (S : List UInt8) (key : Nat) (ds : List Dg) : Prop := ∃ v, M = sigC (bv S) key v ∧ OwnD e w v ds ∧ ∀ b, v.ownBlock = some b → b ≠ g
/-- A signature whose way lies somewhere. -/
def SigA (w : World) (M : List Value) (S : List UInt8) (key : Nat) (ds : List Dg) : Prop := ∃ v F, M = sigC (bv S) key v ∧ Ways w F v ds ∧ ∀ b, F b → b < w.heap.size
theorem SigV.stay {e : TypeId} {g : Nat} {w w' : World} {M : List Value} {S : List UInt8} {key : Nat} {ds : List Dg} (h : SigV e g w M S key ds) (hx : w.grownBy w' (some g)) : SigV e g w' M S key ds := by
  obtain ⟨v, hM, ho, hb⟩ := h
  refine ⟨v, hM, ⟨ho.1, ho.2.keep hx ?_⟩, hb⟩
  cases hvb : v.ownBlock with
  | none => exact .inl rfl
  | some b => exact .inr (by have := hb b hvb; simpa using this)
theorem SigV.arg {e : TypeId} {g : Nat} {w : World} {M : List Value} {S : List UInt8} {key : Nat} {ds : List Dg} (h : SigV e g w M S key ds) : SigA w M S key ds := by
  obtain ⟨v, hM, ho, hb⟩ := h
  exact ⟨v, _, hM, ho.holds, ho.lt⟩
theorem SigV.len {e : TypeId} {g : Nat} {w : World} {M : List Value} {S : List UInt8} {key : Nat} {ds : List Dg} (hS : S.length = 1024) (h : SigV e g w M S key ds) : M.length = 1026 := by
  obtain ⟨v, rfl, ho, hb⟩ := h
  exact sigC_len (by rw [bv_length]; exact hS) _ _
theorem SigV.from_ {e : TypeId} {g : Nat} {w : World} {M : List Value} {S : List UInt8} {key : Nat} {ds : List Dg} (h : SigV e g w M S key ds) (hS : S.length = 1024) (hn : List.length (α := Dg) ds ≤ 8) (hg : g < w.heap.size) :
    Calls Try.prog 18 #[.agg M.toArray] w fun e w' => ∃ M', e = .returned (.agg M'.toArray) ∧ SigV 31 g w' M' S key ds ∧ Ext w w' := by
  obtain ⟨v, rfl, ho, hb⟩ := h
  refine (From05 (bv S) key v ds w _ (by rw [bv_length]; exact hS) (bv_one S) ho.holds ho.lt (by omega)).mono ?_
  rintro e w' ⟨v', rfl, ho', hx, hb'⟩
  exact ⟨_, rfl, ⟨v', rfl, ho', fun b hb => by have := hb' b hb; omega⟩, hx⟩
theorem SigV.same {e : TypeId} {g : Nat} {w : World} {M M2 : List Value} {S : List UInt8} {key : Nat} {ds : List Dg} (h : SigV e g w M S key ds) (hS : S.length = 1024) (h2 : SigA w M2 S key ds) :
    Calls Try.prog 17 #[.agg M.toArray, .agg M2.toArray] w fun e w' => e = .returned (.bool true) ∧ Ext w w' := by
  obtain ⟨v, rfl, ho, hb⟩ := h
  obtain ⟨u, F, rfl, hu, hF⟩ := h2
  exact RSame05 (bv S) key v u ds (chunks 32 (S.take 512), chunks 32 (S.drop 512), ()) w (fun b => v.ownBlock = some b ∨ F b) (by rw [bv_length]; exact hS) (sig_holds S hS w (fun _ => True)) (Ty.keep (t := .sl DigT) (fun _ _ => rfl) (fun _ h => .inl h) ho.holds) (Ty.keep (t := .sl DigT) (fun _ _ => rfl) (fun _ h => .inr h) hu) (fun b hb => hb.elim (ho.lt b) (hF b))
theorem GLay (S : List UInt8) (hS : S.length = 1024) (key : Nat) (hkey : (Lit.int .u32 (key : Int)).wf = true) (ds : List Dg) (hds : ∀ d ∈ ds, List.length (α := UInt8) d = 32) (hn : List.length (α := Dg) ds ≤ 8) (N9 : Nat) (hN : (7 :: sigB S key ds).length = N9) : ∀ (W0 : World) (u : Value), OwnD 55 W0 u ds → Calls Try.prog 30 #[.agg (sigC (bv S) key u).toArray, .slice (some ⟨W0.heap.size, 0, none⟩) 1 1] (W0.alloc (.cells #[.int .u8 7] 5)) fun e w' => ∃ b c, e = .returned (.slice (some ⟨b, 0, none⟩) N9 c) ∧ OwnB w' (.slice (some ⟨b, 0, none⟩) N9 c) (7 :: sigB S key ds) ∧ Ext W0 w' := by
  intro W0 u hu
  have hlt := hu.lt
  have hx : Ext W0 (W0.alloc (.cells #[.int .u8 7] 5)) := (Ext.refl W0).alloc _
  have hu' := hu.ext hx
  have hcall := Ring_Lay S key u ds _ [7] _ hS hkey ⟨hu'.holds, fun b hb => hu'.lt b hb⟩ (fun b hb e => by simp [Value.ownBlock] at hb; have h1 := hlt b e; omega) (own_one (w := W0) 7) (by simp; omega)
  generalize sigB S key ds = Ls at *
  refine hcall.mono ?_
  rintro e w' ⟨v', rfl, ho', hm⟩
  obtain ⟨b, c, rfl⟩ := own_some ho' (by simp)
  have hl : ([7] ++ Ls).length = N9 := hN
  rw [hl] at ho' hm ⊢
  exact ⟨b, c, rfl, ho', grown_then hx hm.grown (.inr (by intro g hg; simp [Value.ownBlock] at hg; omega))⟩
theorem GRLay (S : List UInt8) (hS : S.length = 1024) (key : Nat) (hkey : (Lit.int .u32 (key : Int)).wf = true) (ds : List Dg) (hds : ∀ d ∈ ds, List.length (α := UInt8) d = 32) (hn : List.length (α := Dg) ds ≤ 8) (N9 : Nat) (hN : (7 :: sigB S key ds).length = N9) : ∀ W M v, OwnB W v [7] → SigA W M S key ds → Calls Try.prog 34 #[v, .agg M.toArray] W fun e w' => ∃ b c, e = .returned (.slice (some ⟨b, 0, none⟩) N9 c) ∧ OwnB w' (.slice (some ⟨b, 0, none⟩) N9 c) (7 :: sigB S key ds) ∧ Ext W w' ∧ W.heap.size ≤ b := by
  intro W M v ho hA
  obtain ⟨u, F, rfl, hu, hF⟩ := hA
  have hcall := RRing_Lay S key u ds v [7] W (fun b => F b ∨ v.ownBlock = some b) hS hkey (Ty.keep (t := .sl DigT) (fun _ _ => rfl) (fun _ h => .inl h) hu) (Ty.keep (t := .sl .u8) (fun _ _ => rfl) (fun _ h => .inr h) ho.holds) (fun b hb => hb.elim (hF b) (ho.lt b)) (by simp; omega)
  generalize sigB S key ds = Ls at *
  refine hcall.mono ?_
  rintro e w' ⟨v', rfl, ho', hx, hb⟩
  obtain ⟨b, c, rfl⟩ := own_some ho' (by simp)
  have hl : ([7] ++ Ls).length = N9 := hN
  rw [hl] at ho' hb ⊢
  exact ⟨b, c, rfl, ho', hx, by
    rcases hb with h | h
    · simp [Value.ownBlock] at h
    · exact h b rfl⟩
theorem GTakeB (S : List UInt8) (hS : S.length = 1024) (key : Nat) (hkey : (Lit.int .u32 (key : Int)).wf = true) (ds : List Dg) (hds : ∀ d ∈ ds, List.length (α := UInt8) d = 32) (hn : List.length (α := Dg) ds ≤ 8) (N9 : Nat) (hN : (7 :: sigB S key ds).length = N9) : ∀ W g q, InAt W g q (sigB S key ds, 0) → Calls Try.prog 28 #[.pointer (some ⟨g, 0, none⟩)] W fun e w' => ∃ M, e = .returned (.agg M.toArray) ∧ SigV 55 g w' M S key ds ∧ InAt w' g q ([], 0) ∧ W.grownBy w' (some g) := by
  intro W g q h
  have hlt := h.lt
  obtain ⟨h1, h2, h3, h4⟩ := ring_back S hS key (by have := bounds_u32 hkey; omega) ds hds hn
  have := Ring_Take h
  rw [h1, h2, h3, h4] at this
  refine this.mono ?_
  rintro e w' ⟨v, rfl, ho, hi, hg, hb⟩
  exact ⟨_, rfl, ⟨v, rfl, ho, fun b h => by have := hb b h; omega⟩, hi, hg⟩
theorem GHolds (S : List UInt8) (hS : S.length = 1024) (key : Nat) (hkey : (Lit.int .u32 (key : Int)).wf = true) (ds : List Dg) (hds : ∀ d ∈ ds, List.length (α := UInt8) d = 32) (hn : List.length (α := Dg) ds ≤ 8) (N9 : Nat) (hN : (7 :: sigB S key ds).length = N9) : ∀ W A c, OwnB W (.slice A N9 c) (7 :: sigB S key ds) → ∀ ad, A = some ad → (Ty.sl .u8).holds W (fun b => b = ad.block) [.slice (some (ad.add 1)) (N9 - 1) (c - 1)] (sigB S key ds) ∧ N9 ≤ c := by
  generalize sigB S key ds = Ls at *
  rintro W A c ho ad rfl
  obtain ⟨A', c', xs, hv, h1, h2, h3, h4, h5⟩ := ho.holds
  simp only [List.cons.injEq, Value.slice.injEq, and_true] at hv
  obtain ⟨rfl, _, rfl⟩ := hv
  obtain ⟨ad', hA, hF, hc⟩ := h4 (by simp)
  cases hA
  have h5' := AllH.bytes.1 h5
  have hlen : Ls.length = N9 - 1 := by simp at hN; omega
  rw [hN] at h1
  refine ⟨⟨_, _, bv Ls, by rw [hlen], by rw [hlen]; omega, by omega, by simp, fun _ => ⟨_, rfl, add_block _ _, ?_⟩, AllH.bytes.2 rfl⟩, h1⟩
  have := hc.drop 1
  rw [h5'] at this
  exact this
theorem GEnd : ∀ W g q, InAt W g q ([], 0) → Calls Try.prog 35 #[.pointer (some ⟨g, 0, none⟩)] W fun e w' => e = .returned (.int .i64 0) ∧ W.grownBy w' (some g) := by
  intro W g q h
  exact (In_End (h := h)).mono fun e w' ⟨h1, _, h3⟩ => ⟨h1, h3⟩
theorem wayT_digs (s : InS) (k : Nat) : ∀ d ∈ wayT s k, List.length (α := UInt8) d = 32 := by
  intro d hd
  obtain ⟨i, _, rfl⟩ := List.mem_map.1 hd
  exact sumM_length _
theorem tkW_len (s : InS) : List.length (α := Dg) (tkW s) ≤ 8 := by
  unfold tkW
  split
  · rw [wayT_length]; exact manyN_le _
  · exact Nat.zero_le 8
theorem tkS_len (s : InS) : (tkS s).length = 1024 := by
  unfold tkS
  split
  · exact takeS_length _
  · exact List.length_replicate
set_option maxRecDepth 100000 in
set_option maxHeartbeats 4000000 in
theorem GBytesLong (S : List UInt8) (hS : S.length = 1024) (keyS : Nat) (u : Value) (ds : List Dg) (A : Option Addr) (n c : Nat) (F : Fp) (hnm : n ≤ 9223372036854775807) (w : World) (hc : Ways w F u ds) (hl : 5000 < n ∨ 8 < List.length (α := Dg) ds) :
    Calls Try.prog 8 #[.agg (sigC (bv S) keyS u).toArray, .slice A n c] w fun e w' => e = .returned (.bool true) ∧ Ext w w' := by
  have hC : (bv S).length = 1024 := by rw [bv_length]; exact hS
  obtain ⟨Au, cu, xs, rfl, hlc, hcm, -⟩ := ways_open hc
  unfold maxLen at hcm
  generalize hm : List.length (α := Dg) ds = m at *
  have hwy := sigC_way hC keyS (.slice Au m cu)
  generalize sigC (bv S) keyS (.slice Au m cu) = SC at *
  have hx0 : Ext w (w.alloc (.cells SC.toArray 30)) := (Ext.refl w).alloc _
  have c1025 : (w.alloc (.cells SC.toArray 30)).cell? ⟨w.heap.size, 1025, none⟩ = some (.slice Au m cu) := (Blk.cell (Blk.new w 30 SC) 1025).trans hwy
  have hmI : m ≤ 9223372036854775807 := by omega
  have HX0 := Lib.hid hx0
  clear hwy hx0 hC hm hc hlc hcm hS
  by_cases h5 : 5000 < n
  · have h5' : (5000 : Int) < (n : Int) := by omega
    clear hl
    go_enter Try.func8, Try.ntmps8
    go_wp2_with fail
    refine (Awake05 _).mono ?_
    rintro e w9 ⟨rfl, hx9⟩
    go_wp2_with fail
    go_ret
    exact ⟨rfl, HX0.out.trans hx9⟩
  · have h5' : ¬ (5000 : Int) < (n : Int) := by omega
    have h8' : (8 : Int) < (m : Int) := by omega
    clear hl h5
    go_enter Try.func8, Try.ntmps8
    go_wp2_with fail
    refine (Awake05 _).mono ?_
    rintro e w9 ⟨rfl, hx9⟩
    go_wp2_with fail
    go_ret
    exact ⟨rfl, HX0.out.trans hx9⟩
set_option maxRecDepth 100000 in
set_option maxHeartbeats 8000000 in
theorem GBytesShort (S : List UInt8) (hS : S.length = 1024) (keyS : Nat) (hkey : (Lit.int .u32 (keyS : Int)).wf = true) (u : Value) (ds : List Dg) (A : Option Addr) (c : Nat) (B : List UInt8) (F : Fp) (w : World) (hc : Ways w F u ds) (hh : (Ty.sl .u8).holds w F [.slice A B.length c] B) (hF : ∀ b, F b → b < w.heap.size) (hn : B.length ≤ 5000) (hn8 : List.length (α := Dg) ds ≤ 8) :
    Calls Try.prog 8 #[.agg (sigC (bv S) keyS u).toArray, .slice A B.length c] w fun e w' => e = .returned (.bool true) ∧ Ext w w' := by
  have hC : (bv S).length = 1024 := by rw [bv_length]; exact hS
  have hone := bv_one S
  obtain ⟨Au, cu, xs, rfl, hlc, hcm, -, -, hall⟩ := ways_open hc
  unfold maxLen at hcm
  have hds := (digs_iff.1 hall).2
  have harg : ∀ W, Ext w W → SigA W (sigC (bv S) keyS (.slice Au (List.length (α := Dg) ds) cu)) S keyS ds := fun W hx => ⟨_, F, rfl, hx.holds hF hc, fun b hb => Nat.lt_of_lt_of_le (hF b hb) hx.size⟩
  have hto := fun W (hx : Ext w W) => To05 (bv S) keyS _ ds W F hC hone (hx.holds hF hc) (fun b hb => Nat.lt_of_lt_of_le (hF b hb) hx.size) (by omega)
  have hwy := sigC_way hC keyS (.slice Au (List.length (α := Dg) ds) cu)
  have hscl := sigC_len hC keyS (.slice Au (List.length (α := Dg) ds) cu)
  obtain ⟨N9, hN9⟩ : ∃ N9, (7 :: sigB S keyS ds).length = N9 := ⟨_, rfl⟩
  have hN9b : N9 = 1030 + 32 * List.length (α := Dg) ds := by rw [← hN9, List.length_cons, sigB_len S hS keyS ds hds]; omega
  have hly := GLay S hS keyS hkey ds hds hn8 N9 hN9
  have hrl := GRLay S hS keyS hkey ds hds hn8 N9 hN9
  have htb := GTakeB S hS keyS hkey ds hds hn8 N9 hN9
  have hol := GHolds S hS keyS hkey ds hds hn8 N9 hN9
  have hend := GEnd
  have hsb : (sigB S keyS ds).length ≤ 100000 := by rw [sigB_len S hS keyS ds hds]; omega
  generalize hnl : List.length (α := Dg) ds = n at *
  obtain ⟨SC, hSC⟩ : ∃ SC, SC = sigC (bv S) keyS (.slice Au n cu) := ⟨_, rfl⟩
  rw [← hSC] at harg hto hwy hscl ⊢
  have hx0 : Ext w (w.alloc (.cells SC.toArray 30)) := (Ext.refl w).alloc _
  have hb0 : Blk (w.alloc (.cells SC.toArray 30)) w.heap.size 30 SC := Blk.new _ _ _
  have c1025 : (w.alloc (.cells SC.toArray 30)).cell? ⟨w.heap.size, 1025, none⟩ = some (.slice Au n cu) := (Blk.cell (Blk.new w 30 SC) 1025).trans hwy
  have hof := In_Of _ B (w.alloc (.cells SC.toArray 30)) F (hx0.holds hF hh) (by omega)
  obtain ⟨L, hL⟩ : ∃ L, L = 7 :: sigB S keyS ds := ⟨_, rfl⟩
  obtain ⟨L0, hL0⟩ : ∃ L0, L0 = sigB S keyS ds := ⟨_, rfl⟩
  rw [← hL] at hly hrl hol hN9
  rw [← hL0] at htb hol hsb
  have hn5' : ¬ (5000 : Int) < (B.length : Int) := by omega
  have hn8' : ¬ (8 : Int) < (n : Int) := by omega
  have hN1 : (1 : Int) ≤ (N9 : Int) := by omega
  have hN1b : ¬ N9 < 1 := by omega
  have hN2 : N9 ≤ 2000 := by omega
  have hN3 : 1030 ≤ N9 := by omega
  have HN8 : Hid (List.length (α := Dg) ds ≤ 8) := Lib.hid (by omega)
  have HH := Lib.hid hh
  have HF := Lib.hid hF
  have HOF := Lib.hid hof
  have HX0 := Lib.hid hx0
  have HB0 := Lib.hid hb0
  have HLY := Lib.hid hly
  have HRL := Lib.hid hrl
  have HTB := Lib.hid htb
  have HEND := Lib.hid hend
  have HOL := Lib.hid hol
  have HLL := Lib.hid hN9
  have HSB := Lib.hid hsb
  have HTO := Lib.hid hto
  have HARG := Lib.hid harg
  have HSCL := Lib.hid hscl
  have HSL := Lib.hid hS
  clear hL hL0 hh hF hof hx0 hb0 hly hrl htb hend hol hN9 hsb hto harg hscl hS hC hone hSC hc hall hds hwy hnl hlc hcm hkey hN9b hn8
  go_enter Try.func8, Try.ntmps8
  go_wp2_with fail
  refine HOF.out.mono ?_
  rintro e w1 ⟨g, q, rfl, hin, hx1, hg, hq⟩
  have hxr : Ext w1 (w1.alloc (.cells #[Value.slice A B.length c, .int .i64 0, .int .i64 0] 77)) := (Ext.refl w1).alloc _
  have hx01 := HX0.out.trans hx1
  have hg0 : w.heap.size < g := by have := hg; simp at this; omega
  have hrin : RIn (w1.alloc (.cells #[Value.slice A B.length c, .int .i64 0, .int .i64 0] 77)) w1.heap.size F (B, 0) :=
    ⟨A, c, B, 0, Blk.new w1 77 [Value.slice A B.length c, .int .i64 0, .int .i64 0], hxr.holds (fun b hb => Nat.lt_of_lt_of_le (HF.out b hb) hx01.size) (hx01.holds HF.out HH.out), Nat.zero_le _, fun _ => rfl, fun h => absurd rfl h, fun b hb => ⟨by have h1 := HF.out b hb; have h2 := hx01.size; simp; omega, by have h1 := HF.out b hb; have h2 := hx01.size; omega⟩, by omega, (show (Lit.int .i64 0).wf = true by decide)⟩
  have hin1 := hin.ext hxr
  have hgr1 : g < w1.heap.size ∧ q < w1.heap.size := ⟨hin.lt, by obtain ⟨_, h, _⟩ := hin; exact h⟩
  have hbx := (HB0.out.keep hx1 (by simp)).keep hxr (by simp)
  have HIN := Lib.hid hin1
  have HRIN := Lib.hid hrin
  have HBX := Lib.hid hbx
  have HX1 := Lib.hid (hx01.trans hxr)
  have HG0 := Lib.hid hg0
  have HGR := Lib.hid hgr1
  clear hin hx1 hg hq hxr hx01 hrin hin1 hbx hg0 hgr1 c1025
  go_wp2_with fail
  refine (Ring_Take HIN.out).mono ?_
  rintro e w2 ⟨v7, rfl, ho7, hin2, hg2, hf7⟩
  have hrin2 := HRIN.out.keep hg2 (by have := HGR.out; simp; omega) (fun b hb => by have h1 := HF.out b hb; have h2 := HG0.out; simp; omega)
  have hrt := RRing_Take hrin2
  have HRT := Lib.hid hrt
  have HIN2 := Lib.hid hin2
  have HBX2 := Lib.hid (HBX.out.keep hg2 (by have := HG0.out; simp; omega))
  have HX2 : Hid (Ext w w2) := Lib.hid (grown_then HX1.out hg2 (.inr (by rintro b ⟨⟩; exact Nat.le_of_lt HG0.out)))
  have HO7 := Lib.hid ho7
  have HF7 : Hid (∀ b, v7.ownBlock = some b → w1.heap.size < b) := Lib.hid fun b hb => by have := hf7 b hb; simp at this; omega
  clear hin2 hg2 hrin2 hrt ho7 hf7
  obtain ⟨M7, hM7⟩ : ∃ M7, M7 = sigC (bv (tkS (B, 0))) (tkK (B, 0)) v7 := ⟨_, rfl⟩
  rw [← hM7]
  have HM7 := Lib.hid hM7
  clear hM7
  go_wp2_with fail
  refine HRT.out.mono ?_
  rintro e w3 ⟨v8, rfl, ho8, hrin3, hg3, hf8⟩
  have hlt := HG0.out
  have hgq := HGR.out
  have HIN3 := Lib.hid (HIN2.out.keep hg3 (by simp only [Option.some.injEq, ne_eq]; omega) (by simp only [Option.some.injEq, ne_eq]; omega))
  have HBX3 := Lib.hid (HBX2.out.keep hg3 (by simp only [Option.some.injEq, ne_eq]; omega))
  have HX3 : Hid (Ext w w3) := Lib.hid (grown_then HX2.out hg3 (.inr (by rintro b ⟨⟩; omega)))
  have HRI3 := Lib.hid hrin3
  have ho73 : OwnD 55 w3 v7 (tkW (B, 0)) := ⟨HO7.out.1, HO7.out.2.keep hg3 (by
    cases hvb : v7.ownBlock with
    | none => exact .inl rfl
    | some b => exact .inr (by have := HF7.out b hvb; simp only [Option.some.injEq, ne_eq]; omega))⟩
  obtain ⟨M8, hM8⟩ : ∃ M8, M8 = sigC (bv (tkS (B, 0))) (tkK (B, 0)) v8 := ⟨_, rfl⟩
  rw [← hM8]
  have hM7 := HM7.out
  clear HM7
  have h7c : (bv (tkS (B, 0))).length = 1024 := by rw [bv_length, tkS_len]
  have hm7l : M7.length = 1026 := by rw [hM7]; exact sigC_len h7c _ _
  have hm8l : M8.length = 1026 := by rw [hM8]; exact sigC_len h7c _ _
  have hm7o : ∀ u ∈ M7, u.oneCell' = true := by
    obtain ⟨A7, c7, hv⟩ := ho73.2.form
    rw [hM7, hv]; exact sigC_one (bv_one _) _ _ _ _
  have hm8o : ∀ u ∈ M8, u.oneCell' = true := by
    obtain ⟨A8, c8, hv⟩ := ho8.2.form
    rw [hM8, hv]; exact sigC_one (bv_one _) _ _ _ _
  have h7l := tkS_len (B, 0)
  have h7n := tkW_len (B, 0)
  generalize tkS (B, 0) = S7 at *
  generalize tkK (B, 0) = K7 at *
  generalize tkW (B, 0) = W7 at *
  generalize tkE (B, 0) = ST at *
  obtain ⟨ZA, hza, hzal⟩ : ∃ Z : List Value, (Try.prog.info? 39).bind (fun i => i.zero.map (·.cells)) = some Z.toArray ∧ Z.length = 1026 := ⟨zSig, zSig_zero, zSig_len⟩
  obtain ⟨ZB, hzb, hzbl⟩ : ∃ Z : List Value, (Try.prog.info? 30).bind (fun i => i.zero.map (·.cells)) = some Z.toArray ∧ Z.length = 1026 := ⟨zSig, zSig_zeroR, zSig_len⟩
  have hr1 : ((w3.alloc (.cells ZA.toArray 39)).alloc (.cells ZB.toArray 30)).heap[w3.heap.size]? = some (.cells ZA.toArray 39 (0, 0)) := (Blk.new w3 39 ZA).keep ((Ext.refl _).alloc _) (by simp)
  have hr2 : (((w3.alloc (.cells ZA.toArray 39)).alloc (.cells ZB.toArray 30)).setRow w3.heap.size M7.toArray).heap[w3.heap.size + 1]? = some (.cells ZB.toArray 30 (0, 0)) := Blk.keep (Blk.fresh (by simp) _ _) (setRow_only _) (by simp)
  have hx34 : Ext w3 ((((w3.alloc (.cells ZA.toArray 39)).alloc (.cells ZB.toArray 30)).setRow w3.heap.size M7.toArray).setRow (w3.heap.size + 1) M8.toArray) := setRow_grown (setRow_grown (((Ext.refl w3).alloc _).alloc _) _ _ (Nat.le_refl _)) _ _ (by omega)
  have hb7 : Blk ((((w3.alloc (.cells ZA.toArray 39)).alloc (.cells ZB.toArray 30)).setRow w3.heap.size M7.toArray).setRow (w3.heap.size + 1) M8.toArray) w3.heap.size 39 M7 := Blk.keep (setRow_at hr1) (setRow_only _) (by simp)
  have hb8 : Blk ((((w3.alloc (.cells ZA.toArray 39)).alloc (.cells ZB.toArray 30)).setRow w3.heap.size M7.toArray).setRow (w3.heap.size + 1) M8.toArray) (w3.heap.size + 1) 30 M8 := setRow_at hr2
  have hbc := (HBX3.out.keep hx34 (by simp)).cells
  have HO73 := Lib.hid ho73
  have HO8 := Lib.hid ho8
  have HM7 := Lib.hid hM7
  have HM8 := Lib.hid hM8
  have HM7L := Lib.hid hm7l
  have HM8L := Lib.hid hm8l
  have H7L := Lib.hid h7l
  have H7N := Lib.hid h7n
  have HZA := Lib.hid hzal
  have HZB := Lib.hid hzbl
  have HB7 := Lib.hid hb7
  have HB8 := Lib.hid hb8
  have HX34 := Lib.hid hx34
  clear hrin3 hg3 hzal hzbl hlt hgq hb7 hb8 hx34 ho73 ho8 hM7 hM8 hm7l hm8l h7l h7n h7c hf8 HO7
  go_wp2_with (first
    | ((with_reducible refine wpDst 7 rfl ?_); refine wpList_alloc _ rfl 39 rfl _ hza ?_)
    | ((with_reducible refine wpDst 8 rfl ?_); refine wpList_alloc _ rfl 30 rfl _ hzb ?_)
    | ((with_reducible refine wpSto 7 27 rfl ?_); go_must (refine wpList_store_row _ rfl 39 (.tmp 7) (.tmp 27) rfl w3.heap.size rfl ZA M7 _ rfl hr1 (szOutTo05 HM7L.out) (by rw [HM7L.out, HZA.out]) hm7o ?_); go_must (refine wpList_store_row _ rfl 30 (.tmp 8) (.tmp 29) rfl (w3.heap.size + 1) (by simp [Act.put, Act.eval]) ZB M8 _ rfl hr2 (szOutFrom05 HM8L.out) (by rw [HM8L.out, HZB.out]) hm8o ?_))
    | ((with_reducible refine wpDst 30 rfl ?_); refine wpList_load_agg _ rfl 30 (.tmp 2) rfl _ rfl SC _ Try.underlying30 rfl (szOutFrom05 HSCL.out) hbc ?_)
    | fail)
  refine (HTO.out _ (HX3.out.trans HX34.out)).mono ?_
  rintro e w5 ⟨u5, rfl, ho5, hx5, -⟩
  have hx35 := HX34.out.trans hx5
  have HB7b := Lib.hid (HB7.out.keep hx5 (by simp))
  have HB8b := Lib.hid (HB8.out.keep hx5 (by simp))
  have HX35 := Lib.hid hx35
  have hs7 := HB8b.out.lt
  have hly5 := HLY.out w5 u5 ho5
  obtain ⟨M5, hM5⟩ : ∃ M5, M5 = sigC (bv S) keyS u5 := ⟨_, rfl⟩
  rw [← hM5] at hly5 ⊢
  have HLY5 := Lib.hid hly5
  clear hx5 hx35 hbc hr1 hr2 HB7 HB8 HX34 ho5 hly5 hM5
  go_wp2_with fail
  refine HLY5.out.mono ?_
  rintro e w6 ⟨b9, c9, rfl, ho9, hx6⟩
  have hb9 := ho9.lt b9 rfl
  obtain ⟨hsl, hc9⟩ := HOL.out _ _ _ ho9 _ rfl
  have hc9b : 1030 ≤ c9 := by omega
  have hof2 := In_Of _ _ w6 _ hsl (by have := HSB.out; omega)
  have HO9 := Lib.hid ho9
  have HX36 := Lib.hid (HX35.out.trans hx6)
  have HX6 := Lib.hid hx6
  have HOF2 := Lib.hid hof2
  clear ho9 hsl hof2 hx6 HLY5
  go_wp2_with fail
  refine (HOF2.out).mono ?_
  rintro e w7 ⟨g2, q2, rfl, hin7, hx7, hg7, hq7⟩
  have hx67 := (HX6.out.trans hx7).drew
  have hx37 := (HX36.out.trans hx7).drew
  have hx99 := hx7.drew
  have HNE : Hid (w.heap.size < g2 ∧ w3.heap.size + 1 < g2 ∧ g < g2 ∧ q < g2 ∧ w1.heap.size < g2 ∧ b9 < g2) := Lib.hid (by
    have h1 := HG0.out
    have h2 := HGR.out
    have h3 := HRI3.out.lt
    have h4 := HX6.out.size
    omega)
  have H7 := Lib.hid (HB7b.out.keep hx67 (by simp))
  have H8 := Lib.hid (HB8b.out.keep hx67 (by simp))
  have H2 := Lib.hid (HBX3.out.keep hx37 (by simp))
  have HS7 : Hid (SigV 55 g2 w7.drew M7 S7 K7 W7) := Lib.hid ⟨v7, HM7.out, HO73.out.ext hx37, fun b hb => by have h1 := HO73.out.lt b hb; have h2 := HNE.out; omega⟩
  have HS8 : Hid (SigV 31 g2 w7.drew M8 S7 K7 W7) := Lib.hid ⟨v8, HM8.out, HO8.out.ext hx37, fun b hb => by have h1 := HO8.out.lt b hb; have h2 := HNE.out; omega⟩
  have HI := Lib.hid (HIN3.out.ext hx37)
  have hr := HRI3.out.keep hx37 (by simp) (fun b _ => by simp)
  have HFR : Hid (∀ b, F b → b < g2) := Lib.hid fun b hb => by have h1 := HF.out b hb; have h2 := HNE.out; omega
  have HO := Lib.hid (HO9.out.ext hx99)
  have hj := hin7.ext (Ext.refl w7).drew
  have HXW := Lib.hid (HX3.out.trans hx37)
  have HR := Lib.hid hr
  obtain ⟨A', c', B', at', hrb, -, -, -, -, -, -, -⟩ := hr
  have HRB := Lib.hid hrb
  clear hx67 hx37 hx99 hin7 hx7 hg7 hq7 hrb hb9 hc9 hs7 HOF2 HB7b HB8b HBX3 HIN3 HRI3 HO9 HO73 HO8
  go_wp2_with fail
  refine startM (GrB g2) (by kernel_rfl) ?_
  have hxx : w7.drew.grownBy w7.drew (some g2) := World.grownBy.refl _ _
  generalize w7.drew = wb at *
  refine stepM 0 rfl (by kernel_rfl) rfl (fun K hK => ?_)
  go_simp
  refine (Awake05 _).mono ?_
  rintro e w' ⟨rfl, hx'⟩
  have hk : GrB g2 _ w' := hx'.any _
  replace hxx := hxx.trans hk.of
  replace hj := hj.ext hx'
  (try clear hx')
  refine hK _ _ (hk) ?_
  clear hK K
  refine takeG 1 rfl (by kernel_rfl) (by kernel_rfl) (by kernel_rfl) rfl (fun _ _ _ _ h => h) rfl (fun K hK => ?_)
  go_big_quiet_op
  first | refine hK _ ?_ | refine ⟨_, fun _ _ => rfl, hK _ ?_⟩
  clear hK K
  refine takeG 2 rfl (by kernel_rfl) (by kernel_rfl) (by kernel_rfl) rfl (fun _ _ _ _ h => h) rfl (fun K hK => ?_)
  refine quiet_agg 39 (.tmp 7) rfl _ rfl M7 _ Try.underlying39 rfl (szOutTo05 HM7L.out) (fun W' h => (H7.out.keep (hxx.trans h.of) (by simp only [Option.some.injEq, ne_eq]; have := HNE.out; omega)).cells) ?_
  refine hK _ ?_
  simp only [Act.put, List.setIfInBounds_toArray, List.set_cons_succ, List.set_cons_zero]
  clear hK K
  refine takeG 4 rfl (by kernel_rfl) (by kernel_rfl) (by kernel_rfl) rfl (fun _ _ _ _ h => h) rfl (fun K hK => ?_)
  refine quiet_agg 30 (.tmp 8) rfl _ rfl M8 _ Try.underlying30 rfl (szOutFrom05 HM8L.out) (fun W' h => (H8.out.keep (hxx.trans h.of) (by simp only [Option.some.injEq, ne_eq]; have := HNE.out; omega)).cells) ?_
  refine hK _ ?_
  simp only [Act.put, List.setIfInBounds_toArray, List.set_cons_succ, List.set_cons_zero]
  clear hK K
  refine stepM 3 rfl (by kernel_rfl) rfl (fun K hK => ?_)
  go_simp
  refine ((HS7.out.stay hxx).from_ H7L.out H7N.out hj.lt).mono ?_
  rintro e w' ⟨M43, rfl, hs43, hx'⟩
  have hk : GrB g2 _ w' := hx'.any _
  replace hxx := hxx.trans hk.of
  replace hj := hj.ext hx'
  (try clear hx')
  refine hK _ _ (hk) ?_
  clear hK K
  refine stepM 5 rfl (by kernel_rfl) rfl (fun K hK => ?_)
  go_simp
  refine (hs43.same H7L.out (HS8.out.stay hxx).arg).mono ?_
  rintro e w' ⟨rfl, hx'⟩
  have hk : GrB g2 _ w' := hx'.any _
  replace hxx := hxx.trans hk.of
  replace hj := hj.ext hx'
  (try clear hx')
  refine hK _ _ (hk) ?_
  clear hK K
  refine takeG 6 rfl (by kernel_rfl) (by kernel_rfl) (by kernel_rfl) rfl (fun _ _ _ _ h => h) rfl (fun K hK => ?_)
  go_big_quiet_op
  first | refine hK _ ?_ | refine ⟨_, fun _ _ => rfl, hK _ ?_⟩
  clear hK K
  refine takeG 7 rfl (by kernel_rfl) (by kernel_rfl) (by kernel_rfl) rfl (fun _ _ _ _ h => h) rfl (fun K hK => ?_)
  go_big_quiet_op
  first | refine hK _ ?_ | refine ⟨_, fun _ _ => rfl, hK _ ?_⟩
  clear hK K
  refine takeG 8 rfl (by kernel_rfl) (by kernel_rfl) (by kernel_rfl) rfl (fun _ _ _ _ h => h) rfl (fun K hK => ?_)
  go_big_quiet_op
  first | refine hK _ ?_ | refine ⟨_, fun _ _ => rfl, hK _ ?_⟩
  clear hK K
  refine takeG 10 rfl (by kernel_rfl) (by kernel_rfl) (by kernel_rfl) rfl (fun _ _ _ _ h => h) rfl (fun K hK => ?_)
  go_big_quiet_op
  first | refine hK _ ?_ | refine ⟨_, fun _ _ => rfl, hK _ ?_⟩
  clear hK K
  refine nilG 11 rfl (by kernel_rfl) (by kernel_rfl) (by kernel_rfl) _ rfl _ rfl (fun _ _ _ _ h => h) rfl ?_
  (try simp only [Act.put, List.setIfInBounds_toArray, List.set_cons_succ, List.set_cons_zero])
  refine takeG 12 rfl (by kernel_rfl) (by kernel_rfl) (by kernel_rfl) rfl (fun _ _ _ _ h => h) rfl (fun K hK => ?_)
  go_big_quiet_op
  first | refine hK _ ?_ | refine ⟨_, fun _ _ => rfl, hK _ ?_⟩
  clear hK K
  refine takeG 13 rfl (by kernel_rfl) (by kernel_rfl) (by kernel_rfl) rfl (fun _ _ _ _ h => h) rfl (fun K hK => ?_)
  refine quiet_cell 3 (.tmp 52) rfl ⟨w1.heap.size, 2, none⟩ rfl (.int .i64 ST.2) _ Try.underlying3 rfl (fun W' h => (HRB.out.keep (hxx.trans h.of) (by simp only [Option.some.injEq, ne_eq]; have := HNE.out; omega)).cell 2) ?_
  refine hK _ ?_
  simp only [Act.put, List.setIfInBounds_toArray, List.set_cons_succ, List.set_cons_zero]
  clear hK K
  refine stepM 9 rfl (by kernel_rfl) rfl (fun K hK => ?_)
  go_simp
  refine (In_Bad (h := HI.out.keep hxx (by simp only [Option.some.injEq, ne_eq]; have := HNE.out; omega) (by simp only [Option.some.injEq, ne_eq]; have := HNE.out; omega))).mono ?_
  rintro e w' ⟨rfl, hx'⟩
  subst hx'
  have hk : GrB g2 _ w' := GrB.rf _ _
  replace hxx := hxx.trans hk.of
  refine hK _ _ (hk) ?_
  clear hK K
  refine takeG 14 rfl (by kernel_rfl) (by kernel_rfl) (by kernel_rfl) rfl (fun _ _ _ _ h => h) rfl (fun K hK => ?_)
  refine quiet_bin2 .eql 3 (.tmp 49) (.tmp 53) rfl _ _ rfl rfl (fun W' => eq_guard_int _ _ _ _ _ _ W') (fun W' => eq_true_int _ _ _ W') ?_
  refine hK _ ?_
  simp only [Act.put, List.setIfInBounds_toArray, List.set_cons_succ, List.set_cons_zero]
  clear hK K
  refine takeG 15 rfl (by kernel_rfl) (by kernel_rfl) (by kernel_rfl) rfl (fun _ _ _ _ h => h) rfl (fun K hK => ?_)
  go_big_quiet_op
  first | refine hK _ ?_ | refine ⟨_, fun _ _ => rfl, hK _ ?_⟩
  clear hK K
  refine takeG 16 rfl (by kernel_rfl) (by kernel_rfl) (by kernel_rfl) rfl (fun _ _ _ _ h => h) rfl (fun K hK => ?_)
  go_big_quiet_op
  first | refine hK _ ?_ | refine ⟨_, fun _ _ => rfl, hK _ ?_⟩
  clear hK K
  refine takeG 17 rfl (by kernel_rfl) (by kernel_rfl) (by kernel_rfl) rfl (fun _ _ _ _ h => h) rfl (fun K hK => ?_)
  go_big_quiet_op
  first | refine hK _ ?_ | refine ⟨_, fun _ _ => rfl, hK _ ?_⟩
  clear hK K
  refine takeG 19 rfl (by kernel_rfl) (by kernel_rfl) (by kernel_rfl) rfl (fun _ _ _ _ h => h) rfl (fun K hK => ?_)
  go_big_quiet_op
  first | refine hK _ ?_ | refine ⟨_, fun _ _ => rfl, hK _ ?_⟩
  clear hK K
  refine stepM 18 rfl (by kernel_rfl) rfl (fun K hK => ?_)
  go_simp
  refine (In_Left (h := HI.out.keep hxx (by simp only [Option.some.injEq, ne_eq]; have := HNE.out; omega) (by simp only [Option.some.injEq, ne_eq]; have := HNE.out; omega))).mono ?_
  rintro e w' ⟨rfl, hx'⟩
  subst hx'
  have hk : GrB g2 _ w' := GrB.rf _ _
  replace hxx := hxx.trans hk.of
  refine hK _ _ (hk) ?_
  clear hK K
  refine stepM 20 rfl (by kernel_rfl) rfl (fun K hK => ?_)
  go_simp
  refine (RLeft (HR.out.keep hxx (by simp only [Option.some.injEq, ne_eq]; have := HNE.out; omega) (fun b hb => by have h1 := HFR.out b hb; have h2 := HNE.out; simp only [Option.some.injEq, ne_eq]; omega))).mono ?_
  rintro e w' ⟨rfl, hx'⟩
  have hk : GrB g2 _ w' := hx'.any _
  replace hxx := hxx.trans hk.of
  replace hj := hj.ext hx'
  (try clear hx')
  refine hK _ _ (hk) ?_
  clear hK K
  refine takeG 21 rfl (by kernel_rfl) (by kernel_rfl) (by kernel_rfl) rfl (fun _ _ _ _ h => h) rfl (fun K hK => ?_)
  refine quiet_bin2 .eql 3 (.tmp 58) (.tmp 60) rfl _ _ rfl rfl (fun W' => eq_guard_int _ _ _ _ _ _ W') (fun W' => eq_true_int _ _ _ W') ?_
  refine hK _ ?_
  simp only [Act.put, List.setIfInBounds_toArray, List.set_cons_succ, List.set_cons_zero]
  clear hK K
  refine takeG 22 rfl (by kernel_rfl) (by kernel_rfl) (by kernel_rfl) rfl (fun _ _ _ _ h => h) rfl (fun K hK => ?_)
  go_big_quiet_op
  first | refine hK _ ?_ | refine ⟨_, fun _ _ => rfl, hK _ ?_⟩
  clear hK K
  refine takeG 23 rfl (by kernel_rfl) (by kernel_rfl) (by kernel_rfl) rfl (fun _ _ _ _ h => h) rfl (fun K hK => ?_)
  go_big_quiet_op
  first | refine hK _ ?_ | refine ⟨_, fun _ _ => rfl, hK _ ?_⟩
  clear hK K
  refine takeG 24 rfl (by kernel_rfl) (by kernel_rfl) (by kernel_rfl) rfl (fun _ _ _ _ h => h) rfl (fun K hK => ?_)
  go_big_quiet_op
  first | refine hK _ ?_ | refine ⟨_, fun _ _ => rfl, hK _ ?_⟩
  clear hK K
  refine takeG 25 rfl (by kernel_rfl) (by kernel_rfl) (by kernel_rfl) rfl (fun _ _ _ _ h => h) rfl (fun K hK => ?_)
  refine quiet_str 80 9 _ rfl 5 Try.underlying80 Try.underlying5 Try.underlying9 (some ⟨b9, 0, none⟩) N9 c9 L rfl HLL.out (fun W' h => srcN9 (HO.out.keep (hxx.trans h.of) (.inr (by simp only [Value.ownBlock, Option.map_some, Option.some.injEq, ne_eq]; have := HNE.out; omega))) HLL.out) ?_
  refine hK _ ?_
  simp only [Act.put, List.setIfInBounds_toArray, List.set_cons_succ, List.set_cons_zero]
  clear hK K
  refine takeG 27 rfl (by kernel_rfl) (by kernel_rfl) (by kernel_rfl) rfl (fun _ _ _ _ h => h) rfl (fun K hK => ?_)
  refine quiet_agg 30 (.tmp 2) rfl _ rfl SC _ Try.underlying30 rfl (szOutFrom05 HSCL.out) (fun W' h => (H2.out.keep (hxx.trans h.of) (by simp only [Option.some.injEq, ne_eq]; have := HNE.out; omega)).cells) ?_
  refine hK _ ?_
  simp only [Act.put, List.setIfInBounds_toArray, List.set_cons_succ, List.set_cons_zero]
  clear hK K
  refine stepM 26 rfl (by kernel_rfl) rfl (fun K hK => ?_)
  go_simp
  refine hK _ _ ((World.grownBy_alloc _ _ _)) ?_
  clear hK K
  obtain ⟨wn, hwn⟩ : ∃ wn, wn = w'.alloc (.cells #[.int .u8 7] 5) := ⟨_, rfl⟩
  rw [← hwn]
  have hown : OwnB wn (.slice (some ⟨w'.heap.size, 0, none⟩) 1 1) [7] := by rw [hwn]; exact own_one 7
  have hx' : Ext w' wn := by rw [hwn]; exact (Ext.refl w').alloc _
  replace hxx := hxx.trans (hx'.any _)
  replace hj := hj.ext hx'
  clear hwn hx'
  refine stepM 28 rfl (by kernel_rfl) rfl (fun K hK => ?_)
  go_simp
  refine (HRL.out _ _ _ hown (HARG.out _ (grown_then HXW.out hxx (.inr (by rintro b ⟨⟩; have := HNE.out; omega))))).mono ?_
  rintro e w' ⟨b10, c10, rfl, hol, hx', hvb⟩
  have hk : GrB g2 _ w' := hx'.any _
  replace hxx := hxx.trans hk.of
  have hn10 : b10 ≠ g2 := by (have h1 := hj.lt; omega)
  replace hj := hj.ext hx'
  (try clear hx')
  refine hK _ _ (hk) ?_
  clear hK K
  refine takeG 29 rfl (by kernel_rfl) (by kernel_rfl) (by kernel_rfl) rfl (fun _ _ _ _ h => h) rfl (fun K hK => ?_)
  refine quiet_str 62 9 _ rfl 5 Try.underlying62 Try.underlying5 Try.underlying9 (some ⟨b10, 0, none⟩) N9 c10 L rfl HLL.out (fun W' h => srcN9 (hol.keep h.of (.inr (by simp only [Value.ownBlock, Option.map_some, Option.some.injEq, ne_eq]; exact hn10))) HLL.out) ?_
  refine hK _ ?_
  simp only [Act.put, List.setIfInBounds_toArray, List.set_cons_succ, List.set_cons_zero]
  clear hK K
  refine takeG 30 rfl (by kernel_rfl) (by kernel_rfl) (by kernel_rfl) rfl (fun _ _ _ _ h => h) rfl (fun K hK => ?_)
  refine quiet_bin2 .eql 9 (.tmp 65) (.tmp 69) rfl _ _ rfl rfl (fun W' => eq_guard_str _ _ _ _ _ W') (fun W' => eq_true_str _ _ W') ?_
  refine hK _ ?_
  simp only [Act.put, List.setIfInBounds_toArray, List.set_cons_succ, List.set_cons_zero]
  clear hK K
  refine takeG 31 rfl (by kernel_rfl) (by kernel_rfl) (by kernel_rfl) rfl (fun _ _ _ _ h => h) rfl (fun K hK => ?_)
  go_big_quiet_op
  first | refine hK _ ?_ | refine ⟨_, fun _ _ => rfl, hK _ ?_⟩
  clear hK K
  refine takeG 32 rfl (by kernel_rfl) (by kernel_rfl) (by kernel_rfl) rfl (fun _ _ _ _ h => h) rfl (fun K hK => ?_)
  go_big_quiet_op
  first | refine hK _ ?_ | refine ⟨_, fun _ _ => rfl, hK _ ?_⟩
  clear hK K
  refine takeG 33 rfl (by kernel_rfl) (by kernel_rfl) (by kernel_rfl) rfl (fun _ _ _ _ h => h) rfl (fun K hK => ?_)
  go_big_quiet_op
  first | refine hK _ ?_ | refine ⟨_, fun _ _ => rfl, hK _ ?_⟩
  clear hK K
  refine takeG 36 rfl (by kernel_rfl) (by kernel_rfl) (by kernel_rfl) rfl (fun _ _ _ _ h => h) rfl (fun K hK => ?_)
  refine quiet_agg 30 (.tmp 2) rfl _ rfl SC _ Try.underlying30 rfl (szOutFrom05 HSCL.out) (fun W' h => (H2.out.keep (hxx.trans h.of) (by simp only [Option.some.injEq, ne_eq]; have := HNE.out; omega)).cells) ?_
  refine hK _ ?_
  simp only [Act.put, List.setIfInBounds_toArray, List.set_cons_succ, List.set_cons_zero]
  clear hK K
  refine stepM 34 rfl (by kernel_rfl) rfl (fun K hK => ?_)
  go_simp
  refine (HTB.out _ _ _ hj).mono ?_
  rintro e w' ⟨M74, rfl, hs74, hj', hx'⟩
  have hk : GrB g2 _ w' := hx'
  replace hxx := hxx.trans hk.of
  clear hj
  have hj := hj'
  clear hj' hx'
  refine hK _ _ (hk) ?_
  clear hK K
  refine stepM 35 rfl (by kernel_rfl) rfl (fun K hK => ?_)
  go_simp
  refine (hs74.from_ HSL.out HN8.out hj.lt).mono ?_
  rintro e w' ⟨M75, rfl, hs75, hx'⟩
  have hk : GrB g2 _ w' := hx'.any _
  replace hxx := hxx.trans hk.of
  replace hj := hj.ext hx'
  (try clear hx')
  refine hK _ _ (hk) ?_
  clear hK K
  refine stepM 37 rfl (by kernel_rfl) rfl (fun K hK => ?_)
  go_simp
  refine (hs75.same HSL.out (HARG.out _ (grown_then HXW.out hxx (.inr (by rintro b ⟨⟩; have := HNE.out; omega))))).mono ?_
  rintro e w' ⟨rfl, hx'⟩
  have hk : GrB g2 _ w' := hx'.any _
  replace hxx := hxx.trans hk.of
  replace hj := hj.ext hx'
  (try clear hx')
  refine hK _ _ (hk) ?_
  clear hK K
  refine takeG 38 rfl (by kernel_rfl) (by kernel_rfl) (by kernel_rfl) rfl (fun _ _ _ _ h => h) rfl (fun K hK => ?_)
  go_big_quiet_op
  first | refine hK _ ?_ | refine ⟨_, fun _ _ => rfl, hK _ ?_⟩
  clear hK K
  refine takeG 39 rfl (by kernel_rfl) (by kernel_rfl) (by kernel_rfl) rfl (fun _ _ _ _ h => h) rfl (fun K hK => ?_)
  go_big_quiet_op
  first | refine hK _ ?_ | refine ⟨_, fun _ _ => rfl, hK _ ?_⟩
  clear hK K
  refine takeG 40 rfl (by kernel_rfl) (by kernel_rfl) (by kernel_rfl) rfl (fun _ _ _ _ h => h) rfl (fun K hK => ?_)
  go_big_quiet_op
  first | refine hK _ ?_ | refine ⟨_, fun _ _ => rfl, hK _ ?_⟩
  clear hK K
  refine stepM 41 rfl (by kernel_rfl) rfl (fun K hK => ?_)
  go_simp
  refine (HEND.out _ _ _ hj).mono ?_
  rintro e w' ⟨rfl, hx'⟩
  have hk : GrB g2 _ w' := hx'
  replace hxx := hxx.trans hk.of
  clear hj hx'
  refine hK _ _ (hk) ?_
  clear hK K
  refine takeG 42 rfl (by kernel_rfl) (by kernel_rfl) (by kernel_rfl) rfl (fun _ _ _ _ h => h) rfl (fun K hK => ?_)
  refine quiet_bin2 .eql 48 (.tmp 81) _ rfl _ _ rfl rfl (fun W' => eq_guard_int _ _ _ _ _ _ W') (fun W' => eq_true_int _ _ _ W') ?_
  refine hK _ ?_
  simp only [Act.put, List.setIfInBounds_toArray, List.set_cons_succ, List.set_cons_zero]
  clear hK K
  refine takeG 43 rfl (by kernel_rfl) (by kernel_rfl) (by kernel_rfl) rfl (fun _ _ _ _ h => h) rfl (fun K hK => ?_)
  go_big_quiet_op
  first | refine hK _ ?_ | refine ⟨_, fun _ _ => rfl, hK _ ?_⟩
  clear hK K
  refine takeG 44 rfl (by kernel_rfl) (by kernel_rfl) (by kernel_rfl) rfl (fun _ _ _ _ h => h) rfl (fun K hK => ?_)
  go_big_quiet_op
  first | refine hK _ ?_ | refine ⟨_, fun _ _ => rfl, hK _ ?_⟩
  clear hK K
  refine doneM (by kernel_rfl) ?_ _
  (try simp only [Exit.then])
  go_wp2_with fail
  go_ret
  exact ⟨rfl, grown_then HXW.out hxx (.inr (by rintro b ⟨⟩; have := HNE.out; omega))⟩
theorem GBytesAll (S : List UInt8) (hS : S.length = 1024) (keyS : Nat) (hkey : (Lit.int .u32 (keyS : Int)).wf = true) (u : Value) (ds : List Dg) (A : Option Addr) (n c : Nat) (B : List UInt8) (F : Fp) (w : World) (hc : Ways w F u ds) (hh : (Ty.sl .u8).holds w F [.slice A n c] B) (hF : ∀ b, F b → b < w.heap.size) :
    Calls Try.prog 8 #[.agg (sigC (bv S) keyS u).toArray, .slice A n c] w fun e w' => e = .returned (.bool true) ∧ Ext w w' := by
  have hh0 := hh
  obtain ⟨A', c', xs, hv, hlc, hcm, _, _, _⟩ := hh0
  simp only [List.cons.injEq, Value.slice.injEq, and_true] at hv
  obtain ⟨rfl, rfl, rfl⟩ := hv
  unfold maxLen at hcm
  by_cases hl : 5000 < B.length ∨ 8 < List.length (α := Dg) ds
  · exact GBytesLong S hS keyS u ds A B.length c F (by omega) w hc hl
  · exact GBytesShort S hS keyS hkey u ds A c B F w hc hh hF (by omega) (by omega)
end
end Go.Proofs.Ytpdkmapogncgmaa

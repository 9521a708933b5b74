/- Walks and plain laws, put together in build order. Conditions: what each of them names. -/
import Derived.Test.YtpdkmapogncgmaaW546e9fa1ba
set_option linter.unusedVariables false
set_option linter.unusedSimpArgs false
set_option linter.unnecessarySimpa false
namespace Go.Proofs.Ytpdkmapogncgmaa
section
open Go.RowKit

def eqvL {α : Type} (f : α → α → Bool) : List α → List α → Bool
  | [], [] => true
  | a :: l, b :: m => f a b && eqvL f l m
  | _, _ => false
def Ty.eqv : (t : Ty) → t.Data → t.Data → Bool
  | .u8, a, b => a == b
  | .nat _, a, b => (a : Nat) == b
  | .int _, a, b => (a : Int) == b
  | .bool, a, b => (a : Bool) == b
  | .str, a, b => a.toList == b.toList
  | .arr _ t, l, m => eqvL t.eqv l m
  | .sl _, _, _ => false
  | .st t, a, b => t.eqv a b
  | .unit, _, _ => true
  | .pair a b, x, y => a.eqv x.1 y.1 && b.eqv x.2 y.2
def Ty.plain : Ty → Bool
  | .arr _ t => t.plain
  | .sl _ => false
  | .st t => t.plain
  | .pair a b => a.plain && b.plain
  | _ => true
theorem eqvL_iff {α : Type} {f : α → α → Bool} (h : ∀ a b, f a b = true ↔ a = b) : ∀ (l m : List α), eqvL f l m = true ↔ l = m
  | [], [] => by simp [eqvL]
  | [], _ :: _ => by simp [eqvL]
  | _ :: _, [] => by simp [eqvL]
  | a :: l, b :: m => by simp [eqvL, h, eqvL_iff h l m]
theorem Ty.eqv_iff : ∀ (t : Ty), t.plain = true → ∀ x y : t.Data, t.eqv x y = true ↔ x = y
  | .u8, _, a, b => by simp [Ty.eqv]
  | .nat _, _, a, b => by simp [Ty.eqv]
  | .int _, _, a, b => by simp [Ty.eqv]
  | .bool, _, a, b => by simp [Ty.eqv]
  | .str, _, a, b => by
    simp only [Ty.eqv, beq_iff_eq, ByteArray.toList_eq]
    constructor
    · intro h; obtain ⟨⟨x⟩⟩ := a; obtain ⟨⟨y⟩⟩ := b; simp at h; subst h; rfl
    · rintro rfl; rfl
  | .arr _ t, h, l, m => eqvL_iff (Ty.eqv_iff t h) l m
  | .sl _, h, _, _ => by simp [Ty.plain] at h
  | .st t, h, a, b => Ty.eqv_iff t h a b
  | .unit, _, a, b => by simp [Ty.eqv]
  | .pair a b, h, x, y => by
    simp only [Ty.plain, Bool.and_eq_true] at h
    simp only [Ty.eqv, Bool.and_eq_true, Ty.eqv_iff a h.1, Ty.eqv_iff b h.2]
    constructor
    · rintro ⟨h1, h2⟩; exact Prod.ext h1 h2
    · rintro rfl; exact ⟨rfl, rfl⟩
def Ty.deep : Ty → Nat
  | .arr _ t => t.deep + 1
  | .st t => t.deep + 1
  | .pair a b => max a.deep b.deep
  | .unit => 0
  | _ => 1
/-- Does the described type fit the program's, and can it be compared? -/
def Ty.eqFits (P : Program) : Ty → (TypeId → Bool) × (List Field → Nat → Bool)
  | .u8 => (fun t => match P.underlying t with | some (.int .u8) => true | _ => false, fun _ _ => false)
  | .nat k => (fun t => match P.underlying t with | some (.int k') => k' == k | _ => false, fun _ _ => false)
  | .int k => (fun t => match P.underlying t with | some (.int k') => k' == k | _ => false, fun _ _ => false)
  | .bool => (fun t => match P.underlying t with | some .bool => true | _ => false, fun _ _ => false)
  | .str => (fun t => match P.underlying t with | some .string => true | _ => false, fun _ _ => false)
  | .arr n a => (fun t => match P.underlying t with | some (.array m e) => m == n && (a.eqFits P).1 e && (P.info? e).map (·.size) == some a.size | _ => false, fun _ _ => false)
  | .sl _ => (fun _ => false, fun _ _ => false)
  | .st c => (fun t => match P.underlying t with | some (.struct fs) => (c.eqFits P).2 fs.toList 0 && !P.stoodInHeld t | _ => false, fun _ _ => false)
  | .unit => (fun _ => false, fun fs _ => fs.isEmpty)
  | .pair a b => (fun _ => false, fun fs off => match fs with | f :: r => f.name != "_" && f.offset == off && (a.eqFits P).1 f.type && (P.info? f.type).map (·.size) == some a.size && (b.eqFits P).2 r (off + a.size) | [] => false)
/-- The value that cells are. -/
def Ty.val : Ty → List Value → Value
  | .arr _ _, cs => .agg cs.toArray
  | .st _, cs => .agg cs.toArray
  | _, cs => cs.headD undef
section
variable {P : Program}
theorem info_size {e : TypeId} {n : Nat} (h : (P.info? e).map (·.size) = some n) (w : World) : (sizeOf e).run P w = .ok n w := by
  obtain ⟨i, hi1, hi2⟩ := Option.map_eq_some_iff.1 h
  simp [sizeOf, typeInfo, hi1, hi2]
theorem isAgg_run {t : TypeId} {d : TypeDesc} (hu : P.underlying t = some d) (w : World) : (isAgg t).run P w = .ok (isAggD d) w := by
  unfold isAgg
  rw [Sem.run_bind, run_underlying hu w]
  cases d <;> rfl
/-- A part is the value of its cells. -/
theorem part_run (ty : Ty) {t : TypeId} (hf : (ty.eqFits P).1 t = true) (hs : (P.info? t).map (·.size) = some ty.size) {W : World} {F : Fp} {x : ty.Data} (cs c1 c2 : List Value) (off : Nat) (hc : cs.drop off = c1 ++ c2) (hx : ty.holds W F c1 x) (w : World) :
    (part t cs.toArray off).run P w = .ok (ty.val c1) w := by
  have hl := Ty.len ty hx
  have hcell : ∀ v, c1 = [v] → cs[off]? = some v := by
    rintro v rfl
    have h : (cs.drop off)[0]? = some v := by rw [hc]; rfl
    rw [List.getElem?_drop] at h
    simpa using h
  have one : ∀ v d, c1 = [v] → P.underlying t = some d → isAggD d = false → (part t cs.toArray off).run P w = .ok v w := by
    intro v d h hu hd
    simp only [part, Sem.run_bind, isAgg_run hu, hd, Result.andThen_ok, Bool.false_eq_true, if_false]
    have := hcell v h
    simp [this]
  have agg : ∀ d, P.underlying t = some d → isAggD d = true → (part t cs.toArray off).run P w = .ok (.agg c1.toArray) w := by
    intro d hu hd
    simp only [part, Sem.run_bind, isAgg_run hu, hd, Result.andThen_ok, if_true, info_size hs, Sem.run_pure]
    congr 2
    apply Array.ext'
    rw [Array.toList_extract]
    simp only [List.toList_toArray, Nat.add_sub_cancel_left, List.extract_eq_take_drop, hc, ← hl]
    simp
  cases ty with
  | u8 =>
    simp only [Ty.eqFits] at hf
    split at hf <;> try simp only [Bool.false_eq_true] at hf
    rename_i hu
    have hx : c1 = [.int .u8 (x.toNat : Int)] := hx
    rw [one _ _ hx hu rfl, hx]; rfl
  | nat k =>
    simp only [Ty.eqFits] at hf
    split at hf <;> try simp only [Bool.false_eq_true] at hf
    rename_i hu
    obtain ⟨hx, _⟩ := hx
    rw [one _ _ hx hu rfl, hx]; rfl
  | int k =>
    simp only [Ty.eqFits] at hf
    split at hf <;> try simp only [Bool.false_eq_true] at hf
    rename_i hu
    obtain ⟨hx, _⟩ := hx
    rw [one _ _ hx hu rfl, hx]; rfl
  | bool =>
    simp only [Ty.eqFits] at hf
    split at hf <;> try simp only [Bool.false_eq_true] at hf
    rename_i hu
    have hx : c1 = [.bool x] := hx
    rw [one _ _ hx hu rfl, hx]; rfl
  | str =>
    simp only [Ty.eqFits] at hf
    split at hf <;> try simp only [Bool.false_eq_true] at hf
    rename_i hu
    obtain ⟨hx, _⟩ := hx
    rw [one _ _ hx hu rfl, hx]; rfl
  | arr n a =>
    simp only [Ty.eqFits] at hf
    split at hf <;> try simp only [Bool.false_eq_true] at hf
    rename_i hu
    exact agg _ hu rfl
  | sl a => simp [Ty.eqFits] at hf
  | st c =>
    simp only [Ty.eqFits] at hf
    split at hf <;> try simp only [Bool.false_eq_true] at hf
    rename_i hu
    exact agg _ hu rfl
  | unit => simp [Ty.eqFits] at hf
  | pair a b => simp [Ty.eqFits] at hf

theorem eq_loop {W1 W2 : World} {F1 F2 : Fp} (a : Ty) (e : TypeId) (d : Nat) (hf : (a.eqFits P).1 e = true) (hs : (P.info? e).map (·.size) = some a.size)
    (ih : ∀ (w : World) (c1 c2 : List Value) (x y : a.Data), a.holds W1 F1 c1 x → a.holds W2 F2 c2 y → (Op.equalIn d e (a.val c1) (a.val c2)).run P w = .ok (a.eqv x y) w) (cs ds : List Value) :
    ∀ (l m : List a.Data) (i : Nat) (w : World), l.length = m.length → AllH (a.holds W1 F1) (cs.drop (i * a.size)) l → AllH (a.holds W2 F2) (ds.drop (i * a.size)) m →
    ∃ r : Option Bool, (forIn (m := Sem) (List.range' i l.length 1) ((none : Option Bool), ()) fun i _ => do
        let x ← part e cs.toArray (i * a.size)
        let y ← part e ds.toArray (i * a.size)
        let b ← Op.equalIn d e x y
        if (!b) = true then pure (ForInStep.done (some false, ())) else pure (ForInStep.yield (none, ()))).run P w = .ok (r, ()) w ∧ (r.getD true) = eqvL a.eqv l m
  | [], [], _, _, _, _, _ => ⟨none, by simp, rfl⟩
  | [], _ :: _, _, _, h, _, _ => by simp at h
  | _ :: _, [], _, _, h, _, _ => by simp at h
  | x :: l, y :: m, i, w, h, h1, h2 => by
    obtain ⟨c1, c2, e1, g1, g2⟩ := h1
    obtain ⟨d1, d2, e2, k1, k2⟩ := h2
    have hp1 := part_run a hf hs cs c1 c2 (i * a.size) e1 g1 w
    have hp2 := part_run a hf hs ds d1 d2 (i * a.size) e2 k1 w
    have he := ih w c1 d1 x y g1 k1
    have n1 : cs.drop ((i + 1) * a.size) = c2 := by
      rw [Nat.add_mul, Nat.one_mul, ← List.drop_drop, e1, ← Ty.len a g1, List.drop_left]
    have n2 : ds.drop ((i + 1) * a.size) = d2 := by
      rw [Nat.add_mul, Nat.one_mul, ← List.drop_drop, e2, ← Ty.len a k1, List.drop_left]
    obtain ⟨r, hr, hr2⟩ := eq_loop a e d hf hs ih cs ds l m (i + 1) w (by simpa using h) (by rw [n1]; exact g2) (by rw [n2]; exact k2)
    simp only [List.length_cons, List.range'_succ, List.forIn_cons, Sem.run_bind, hp1, hp2, he, Result.andThen_ok]
    cases hb : a.eqv x y
    · exact ⟨some false, by simp, by simp [eqvL, hb]⟩
    · refine ⟨r, ?_, by simp [eqvL, hb, hr2]⟩
      simpa using hr
theorem eq_both : ∀ (ty : Ty),
    (∀ (t : TypeId) (d : Nat), (ty.eqFits P).1 t = true → ty.deep ≤ d → ∀ (w W1 W2 : World) (F1 F2 : Fp) (cs ds : List Value) (x y : ty.Data), ty.holds W1 F1 cs x → ty.holds W2 F2 ds y → (Op.equalIn d t (ty.val cs) (ty.val ds)).run P w = .ok (ty.eqv x y) w) ∧
    (∀ (fs : List Field) (off d : Nat), (ty.eqFits P).2 fs off = true → ty.deep ≤ d → ∀ (w W1 W2 : World) (F1 F2 : Fp) (cs ds : List Value) (x y : ty.Data), ty.holds W1 F1 (cs.drop off) x → ty.holds W2 F2 (ds.drop off) y → (Op.eqFields d cs.toArray ds.toArray fs).run P w = .ok (ty.eqv x y) w)
  | .u8 => ⟨fun t d hf hd w _ _ _ _ cs ds x y h1 h2 => by
      simp only [Ty.eqFits] at hf
      split at hf <;> try simp only [Bool.false_eq_true] at hf
      rename_i hu
      obtain ⟨d, rfl⟩ : ∃ k, d = k + 1 := ⟨d - 1, by simp only [Ty.deep] at hd; omega⟩
      have h1 : cs = [.int .u8 (x.toNat : Int)] := h1
      have h2 : ds = [.int .u8 (y.toNat : Int)] := h2
      subst h1 h2
      show (Op.equalIn (d + 1) t (.int .u8 _) (.int .u8 _)).run P w = _
      rw [run_equalIn_int w d t .u8 .u8 _ _ hu]
      congr 1
      show _ = (x == y)
      rw [Bool.eq_iff_iff]
      simp [← UInt8.toNat_inj]
      omega, fun _ _ _ hf => by simp [Ty.eqFits] at hf⟩
  | .nat k => ⟨fun t d hf hd w _ _ _ _ cs ds x y h1 h2 => by
      simp only [Ty.eqFits] at hf
      split at hf <;> try simp only [Bool.false_eq_true] at hf
      rename_i hu
      obtain ⟨d, rfl⟩ : ∃ k, d = k + 1 := ⟨d - 1, by simp only [Ty.deep] at hd; omega⟩
      obtain ⟨rfl, _⟩ := h1
      obtain ⟨rfl, _⟩ := h2
      show (Op.equalIn (d + 1) t (.int k _) (.int k _)).run P w = _
      rw [run_equalIn_int w d t k _ _ _ hu]
      congr 1
      show _ = ((x : Nat) == y)
      rw [Bool.eq_iff_iff, beq_iff_eq, beq_iff_eq]
      exact Int.ofNat_inj, fun _ _ _ hf => by simp [Ty.eqFits] at hf⟩
  | .int k => ⟨fun t d hf hd w _ _ _ _ cs ds x y h1 h2 => by
      simp only [Ty.eqFits] at hf
      split at hf <;> try simp only [Bool.false_eq_true] at hf
      rename_i hu
      obtain ⟨d, rfl⟩ : ∃ k, d = k + 1 := ⟨d - 1, by simp only [Ty.deep] at hd; omega⟩
      obtain ⟨rfl, _⟩ := h1
      obtain ⟨rfl, _⟩ := h2
      show (Op.equalIn (d + 1) t (.int k _) (.int k _)).run P w = _
      rw [run_equalIn_int w d t k _ _ _ hu]
      rfl, fun _ _ _ hf => by simp [Ty.eqFits] at hf⟩
  | .bool => ⟨fun t d hf hd w _ _ _ _ cs ds x y h1 h2 => by
      simp only [Ty.eqFits] at hf
      split at hf <;> try simp only [Bool.false_eq_true] at hf
      rename_i hu
      obtain ⟨d, rfl⟩ : ∃ k, d = k + 1 := ⟨d - 1, by simp only [Ty.deep] at hd; omega⟩
      have h1 : cs = [.bool x] := h1
      have h2 : ds = [.bool y] := h2
      subst h1 h2
      show (Op.equalIn (d + 1) t (.bool _) (.bool _)).run P w = _
      rw [run_equalIn_bool' w d t _ _ hu]
      rfl, fun _ _ _ hf => by simp [Ty.eqFits] at hf⟩
  | .str => ⟨fun t d hf hd w _ _ _ _ cs ds x y h1 h2 => by
      simp only [Ty.eqFits] at hf
      split at hf <;> try simp only [Bool.false_eq_true] at hf
      rename_i hu
      obtain ⟨d, rfl⟩ : ∃ k, d = k + 1 := ⟨d - 1, by simp only [Ty.deep] at hd; omega⟩
      obtain ⟨rfl, _⟩ := h1
      obtain ⟨rfl, _⟩ := h2
      show (Op.equalIn (d + 1) t (.string _) (.string _)).run P w = _
      rw [run_equalIn_string w d t _ _ hu]
      rfl, fun _ _ _ hf => by simp [Ty.eqFits] at hf⟩
  | .arr n a => ⟨fun t d hf hd w W1 W2 F1 F2 cs ds x y h1 h2 => by
      simp only [Ty.eqFits] at hf
      split at hf <;> try simp only [Bool.false_eq_true] at hf
      rename_i m e hu
      simp only [Bool.and_eq_true, beq_iff_eq] at hf
      obtain ⟨⟨rfl, hfa⟩, hs⟩ := hf
      obtain ⟨d, rfl⟩ : ∃ k, d = k + 1 := ⟨d - 1, by simp only [Ty.deep] at hd; omega⟩
      simp only [Ty.deep] at hd
      obtain ⟨hx1, hx2⟩ := h1
      obtain ⟨hy1, hy2⟩ := h2
      obtain ⟨r, hr, hr2⟩ := eq_loop (W1 := W1) (W2 := W2) (F1 := F1) (F2 := F2) a e d hfa hs (fun w c1 c2 x y g1 g2 => (eq_both a).1 e d hfa (by omega) w W1 W2 F1 F2 c1 c2 x y g1 g2) cs ds x y 0 w (hx1.trans hy1.symm) (by simpa using hx2) (by simpa using hy2)
      show (Op.equalIn (d + 1) t (.agg cs.toArray) (.agg ds.toArray)).run P w = .ok (eqvL a.eqv x y) w
      rw [Op.equalIn]
      rw [hx1] at hr
      simp only [Sem.run_bind, run_underlying hu, Result.andThen_ok, info_size hs, Std.Legacy.Range.forIn_eq_forIn_range', Std.Legacy.Range.size, Nat.sub_zero, Nat.add_sub_cancel, Nat.div_one]
      (try simp only [Sem.run_bind] at hr)
      rw [hr, ← hr2]
      cases r <;> simp, fun _ _ _ hf => by simp [Ty.eqFits] at hf⟩
  | .sl a => ⟨fun _ _ hf => by simp [Ty.eqFits] at hf, fun _ _ _ hf => by simp [Ty.eqFits] at hf⟩
  | .st c => ⟨fun t d hf hd w W1 W2 F1 F2 cs ds x y h1 h2 => by
      simp only [Ty.eqFits] at hf
      split at hf <;> try simp only [Bool.false_eq_true] at hf
      rename_i fs hu
      simp only [Bool.and_eq_true, Bool.not_eq_true'] at hf
      obtain ⟨hfc, hst⟩ := hf
      obtain ⟨d, rfl⟩ : ∃ k, d = k + 1 := ⟨d - 1, by simp only [Ty.deep] at hd; omega⟩
      simp only [Ty.deep] at hd
      have hfo : P.fieldsOf t = fs := by simp only [Program.fieldsOf, hu]
      show (Op.equalIn (d + 1) t (.agg cs.toArray) (.agg ds.toArray)).run P w = .ok (c.eqv x y) w
      rw [run_equalIn_struct w d t _ _ (by rw [hfo]; exact hu) hst, hfo]
      exact (eq_both c).2 fs.toList 0 d hfc (by omega) w W1 W2 F1 F2 cs ds x y (by rw [List.drop_zero]; exact h1) (by rw [List.drop_zero]; exact h2), fun _ _ _ hf => by simp [Ty.eqFits] at hf⟩
  | .unit => ⟨fun _ _ hf => by simp [Ty.eqFits] at hf, fun fs off d hf _ w _ _ _ _ cs ds x y _ _ => by
      cases fs with
      | nil => simp [Op.eqFields, Ty.eqv]
      | cons f r => simp [Ty.eqFits] at hf⟩
  | .pair a b => ⟨fun _ _ hf => by simp [Ty.eqFits] at hf, fun fs off d hf hd w W1 W2 F1 F2 cs ds x y h1 h2 => by
      cases fs with
      | nil => simp [Ty.eqFits] at hf
      | cons f r =>
        simp only [Ty.eqFits, Bool.and_eq_true, beq_iff_eq, bne_iff_ne] at hf
        obtain ⟨⟨⟨⟨hn, rfl⟩, hfa⟩, hs⟩, hfb⟩ := hf
        simp only [Ty.deep] at hd
        obtain ⟨c1, c2, e1, g1, g2⟩ := h1
        obtain ⟨d1, d2, e2, k1, k2⟩ := h2
        have n1 : cs.drop (f.offset + a.size) = c2 := by rw [← List.drop_drop, e1, ← Ty.len a g1, List.drop_left]
        have n2 : ds.drop (f.offset + a.size) = d2 := by rw [← List.drop_drop, e2, ← Ty.len a k1, List.drop_left]
        have ha := (eq_both a).1 f.type d hfa (by omega) w W1 W2 F1 F2 c1 d1 x.1 y.1 g1 k1
        have hb := (eq_both b).2 r (f.offset + a.size) d hfb (by omega) w W1 W2 F1 F2 cs ds x.2 y.2 (by rw [n1]; exact g2) (by rw [n2]; exact k2)
        simp only [Op.eqFields, hn, ne_eq, not_false_eq_true, if_true, Sem.run_bind, part_run a hfa hs cs c1 c2 f.offset e1 g1 w, part_run a hfa hs ds d1 d2 f.offset e2 k1 w, ha, Result.andThen_ok, Sem.run_ite, Sem.run_pure, hb, Ty.eqv]
        cases a.eqv x.1 y.1 <;> simp⟩
/-- '==' at structs and arrays. -/
theorem run_eqTy (ty : Ty) (t : TypeId) (hf : (ty.eqFits P).1 t = true) (hd : ty.deep ≤ 10000) (w W1 W2 : World) (F1 F2 : Fp) (cs ds : List Value) (x y : ty.Data) (h1 : ty.holds W1 F1 cs x) (h2 : ty.holds W2 F2 ds y) (hv : ∀ cs, ty.val cs = .agg cs.toArray) :
    (binOp .eql t (.agg cs.toArray) (.agg ds.toArray)).run P w = .ok (.bool (ty.eqv x y)) w := by
  have h := (eq_both ty).1 t 10000 hf hd w W1 W2 F1 F2 cs ds x y h1 h2
  rw [hv, hv] at h
  rw [run_eql_struct, h]; rfl
theorem run_neTy (ty : Ty) (t : TypeId) (hf : (ty.eqFits P).1 t = true) (hd : ty.deep ≤ 10000) (w W1 W2 : World) (F1 F2 : Fp) (cs ds : List Value) (x y : ty.Data) (h1 : ty.holds W1 F1 cs x) (h2 : ty.holds W2 F2 ds y) (hv : ∀ cs, ty.val cs = .agg cs.toArray) :
    (binOp .neq t (.agg cs.toArray) (.agg ds.toArray)).run P w = .ok (.bool (!ty.eqv x y)) w := by
  have h := (eq_both ty).1 t 10000 hf hd w W1 W2 F1 F2 cs ds x y h1 h2
  rw [hv, hv] at h
  rw [run_neq_struct, h]; rfl
end
end
section
open Go.RowKit
section
variable {P : Program} {C : World → Prop} {o : Oper} {a : Act} {K : Act → Prop}
theorem quiet_eqTy (ty : Ty) (t t' : TypeId) (x y : Operand) (ho : o.op = .binOp .eql t x y t') (hf : (ty.eqFits P).1 t = true) (hd : ty.deep ≤ 10000) (hg : P.eqGuardType P.depth t = false) (hv : ∀ cs, ty.val cs = .agg cs.toArray)
    {W1 W2 : World} {F1 F2 : Fp} (cs ds : List Value) (d1 d2 : ty.Data) (hx : a.eval x = .agg cs.toArray) (hy : a.eval y = .agg ds.toArray) (h1 : ty.holds W1 F1 cs d1) (h2 : ty.holds W2 F2 ds d2) (hk : K (a.put o.dst (.bool (ty.eqv d1 d2)))) : o.quiet P a C K :=
  quiet_run _ (fun w _ => by
    unfold execOp
    simp only [ho, hx, hy, Sem.run_bind, run_eqGuard w .eql t x y _ _ (.inl rfl) hg, run_eqTy ty t hf hd w W1 W2 F1 F2 cs ds d1 d2 h1 h2 hv, Result.andThen_ok, Sem.run_pure]) hk
theorem quiet_neTy (ty : Ty) (t t' : TypeId) (x y : Operand) (ho : o.op = .binOp .neq t x y t') (hf : (ty.eqFits P).1 t = true) (hd : ty.deep ≤ 10000) (hg : P.eqGuardType P.depth t = false) (hv : ∀ cs, ty.val cs = .agg cs.toArray)
    {W1 W2 : World} {F1 F2 : Fp} (cs ds : List Value) (d1 d2 : ty.Data) (hx : a.eval x = .agg cs.toArray) (hy : a.eval y = .agg ds.toArray) (h1 : ty.holds W1 F1 cs d1) (h2 : ty.holds W2 F2 ds d2) (hk : K (a.put o.dst (.bool (!ty.eqv d1 d2)))) : o.quiet P a C K :=
  quiet_run _ (fun w _ => by
    unfold execOp
    simp only [ho, hx, hy, Sem.run_bind, run_eqGuard w .neq t x y _ _ (.inr rfl) hg, run_neTy ty t hf hd w W1 W2 F1 F2 cs ds d1 d2 h1 h2 hv, Result.andThen_ok, Sem.run_pure]) hk
theorem wpList_eqTy {w : World} {ops : Array Oper} {rest : List Oper} {Q : Exit → Act → World → Prop} (hgd : o.guard = none ∨ Region.wanted o (yielded ops a.tmps) = true) (ty : Ty) (t t' : TypeId) (x y : Operand) (ho : o.op = .binOp .eql t x y t') (hf : (ty.eqFits P).1 t = true) (hd : ty.deep ≤ 10000) (hg : P.eqGuardType P.depth t = false) (hv : ∀ cs, ty.val cs = .agg cs.toArray)
    {W1 W2 : World} {F1 F2 : Fp} (cs ds : List Value) (d1 d2 : ty.Data) (hx : a.eval x = .agg cs.toArray) (hy : a.eval y = .agg ds.toArray) (h1 : ty.holds W1 F1 cs d1) (h2 : ty.holds W2 F2 ds d2) (b : Bool) (hb : ty.eqv d1 d2 = b) (hk : wpList P ops Q rest (a.put o.dst (.bool b)) w) : wpList P ops Q (o :: rest) a w :=
  wpList_want hgd fun K hK => by
    subst hb
    unfold Oper.wp execOp
    simp only [ho, hx, hy, Sem.run_bind, run_eqGuard w .eql t x y _ _ (.inl rfl) hg, run_eqTy ty t hf hd w W1 W2 F1 F2 cs ds d1 d2 h1 h2 hv, Result.andThen_ok, Sem.run_pure]
    exact hK _ _ hk
theorem wpList_neTy {w : World} {ops : Array Oper} {rest : List Oper} {Q : Exit → Act → World → Prop} (hgd : o.guard = none ∨ Region.wanted o (yielded ops a.tmps) = true) (ty : Ty) (t t' : TypeId) (x y : Operand) (ho : o.op = .binOp .neq t x y t') (hf : (ty.eqFits P).1 t = true) (hd : ty.deep ≤ 10000) (hg : P.eqGuardType P.depth t = false) (hv : ∀ cs, ty.val cs = .agg cs.toArray)
    {W1 W2 : World} {F1 F2 : Fp} (cs ds : List Value) (d1 d2 : ty.Data) (hx : a.eval x = .agg cs.toArray) (hy : a.eval y = .agg ds.toArray) (h1 : ty.holds W1 F1 cs d1) (h2 : ty.holds W2 F2 ds d2) (b : Bool) (hb : (!ty.eqv d1 d2) = b) (hk : wpList P ops Q rest (a.put o.dst (.bool b)) w) : wpList P ops Q (o :: rest) a w :=
  wpList_want hgd fun K hK => by
    subst hb
    unfold Oper.wp execOp
    simp only [ho, hx, hy, Sem.run_bind, run_eqGuard w .neq t x y _ _ (.inr rfl) hg, run_neTy ty t hf hd w W1 W2 F1 F2 cs ds d1 d2 h1 h2 hv, Result.andThen_ok, Sem.run_pure]
    exact hK _ _ hk
end
end
section
open Go.RowKit

def PieceT : Ty := .arr 16 .u8
def SigT : Ty := .st (.pair (.arr 32 PieceT) (.pair (.arr 32 PieceT) .unit))
def DigT4 : Ty := .arr 32 .u8
def zSigC : List Value := bv (List.replicate 1024 0)
def zDigC : List Value := bv (List.replicate 32 0)
theorem agg_cells4 (cs : List Value) : (Value.agg cs.toArray).cells.toList = cs := by simp [Value.cells]
theorem pieces_bytes {w : World} {F : Fp} : ∀ {l : List (List UInt8)} {cs : List Value}, AllH (PieceT.holds w F) cs l → ∃ B : List UInt8, cs = bv B
  | [], _, h => ⟨[], h⟩
  | p :: l, _, h => by
    obtain ⟨c1, c2, rfl, h1, h2⟩ := h
    obtain ⟨B, rfl⟩ := pieces_bytes h2
    exact ⟨p ++ B, by rw [bv_append, AllH.bytes.1 h1.2]⟩
theorem sig_open {w : World} {F : Fp} {cs : List Value} {sg : SigT.Data} (h : SigT.holds w F (Value.agg cs.toArray).cells.toList sg) : ∃ S : List UInt8, cs = bv S ∧ S.length = 1024 := by
  rw [agg_cells4] at h
  have hl := Ty.len SigT h
  obtain ⟨c1, _, rfl, ⟨_, h1⟩, c2, _, rfl, ⟨_, h2⟩, rfl⟩ := h
  obtain ⟨B1, rfl⟩ := pieces_bytes h1
  obtain ⟨B2, rfl⟩ := pieces_bytes h2
  refine ⟨B1 ++ B2, by rw [bv_append, List.append_nil], ?_⟩
  rw [List.append_nil, List.length_append, bv_length, bv_length] at hl
  rw [List.length_append]; exact hl
theorem dig_open {w : World} {F : Fp} {cs : List Value} {d : DigT4.Data} (h : DigT4.holds w F (Value.agg cs.toArray).cells.toList d) : ∃ S : List UInt8, cs = bv S ∧ S.length = 32 := by
  rw [agg_cells4] at h
  exact ⟨d, AllH.bytes.1 h.2, h.1⟩
end
section
open Go.RowKit

def chunks : Nat → List UInt8 → List (List UInt8)
  | 0, _ => []
  | n + 1, B => B.take 16 :: chunks n (B.drop 16)
theorem chunks_length : ∀ n B, (chunks n B).length = n
  | 0, _ => rfl
  | n + 1, B => by rw [chunks, List.length_cons, chunks_length]
theorem chunks_holds {w : World} {F : Fp} : ∀ (n : Nat) (B : List UInt8), B.length = 16 * n → AllH (PieceT.holds w F) (bv B) (chunks n B)
  | 0, B, h => by
    obtain rfl : B = [] := List.eq_nil_of_length_eq_zero (by omega)
    rfl
  | n + 1, B, h => by
    refine ⟨bv (B.take 16), bv (B.drop 16), by rw [← bv_append, List.take_append_drop], ⟨by show (B.take 16).length = 16; rw [List.length_take]; omega, AllH.bytes.2 rfl⟩, chunks_holds n (B.drop 16) (by rw [List.length_drop]; omega)⟩
theorem sig_holds (S : List UInt8) (hS : S.length = 1024) (w : World) (F : Fp) : SigT.holds w F (bv S) (chunks 32 (S.take 512), chunks 32 (S.drop 512), ()) := by
  refine ⟨bv (S.take 512), bv (S.drop 512), by rw [← bv_append, List.take_append_drop], ⟨chunks_length _ _, chunks_holds 32 _ (by rw [List.length_take]; omega)⟩, bv (S.drop 512), [], by rw [List.append_nil], ⟨chunks_length _ _, chunks_holds 32 _ (by rw [List.length_drop]; omega)⟩, rfl⟩
theorem rsig_fits : (SigT.eqFits Try.prog).1 26 = true := by kernel_rfl
theorem rsig_same (S : List UInt8) (hS : S.length = 1024) : (∀ (x y : Operand) (w : World), (eqGuard .eql 26 x y (.agg (bv S).toArray) (.agg (bv S).toArray)).run Try.prog w = .ok () w) ∧ ∀ w, (binOp .eql 26 (.agg (bv S).toArray) (.agg (bv S).toArray)).run Try.prog w = .ok (.bool true) w :=
  ⟨fun x y w => run_eqGuard w .eql 26 x y _ _ (.inl rfl) (by kernel_rfl), fun w => by
    obtain ⟨sg, hsg⟩ : ∃ sg : SigT.Data, ∀ (w : World) (F : Fp), SigT.holds w F (bv S) sg := ⟨_, fun w F => sig_holds S hS w F⟩
    have h := run_eqTy (P := Try.prog) SigT 26 rsig_fits (by decide) w w w (fun _ => False) (fun _ => False) (bv S) (bv S) sg sg (hsg w _) (hsg w _) (fun _ => rfl)
    have e : SigT.eqv sg sg = true := (Ty.eqv_iff SigT rfl sg sg).2 rfl
    rw [e] at h
    exact h⟩
end
section
open Go.RowKit

section
variable {P : Program}
theorem run_isAgg {t : TypeId} {d : TypeDesc} (hu : P.underlying t = some d) (w : World) : (isAgg t).run P w = .ok (isAggD d) w := by
  unfold isAgg
  rw [Sem.run_bind, run_underlying hu w]
  cases d <;> simp [isAggD]
theorem run_field_agg (t : TypeId) (n off m : Nat) (cs piece : List Value) (w : World)
    (hf : ∃ fields f d, P.underlying t = some (.struct fields) ∧ fields[n]? = some f ∧ f.offset = off ∧ P.underlying f.type = some d ∧ isAggD d = true ∧ (P.info? f.type).map (·.size) = some m)
    (hp : (cs.drop off).take m = piece) : (Instr.field t (.agg cs.toArray) n).run P w = .ok (.agg piece.toArray) w := by
  obtain ⟨fields, f, d, hu, hf, rfl, hd, ha, hi⟩ := hf
  obtain ⟨i, hi2, rfl⟩ := Option.map_eq_some_iff.1 hi
  clear hi
  unfold Instr.field
  rw [Sem.run_bind, run_underlying hu w]
  simp only [Result.andThen_ok, hf, asAgg, Sem.run_bind, Sem.run_pure, part, run_isAgg hd, ha, if_true, sizeOf, typeInfo, run_program, hi2]
  rw [← hp]
  simp
theorem run_field_cell (t : TypeId) (n off : Nat) (cs : List Value) (v : Value) (w : World)
    (hf : ∃ fields f d, P.underlying t = some (.struct fields) ∧ fields[n]? = some f ∧ f.offset = off ∧ P.underlying f.type = some d ∧ isAggD d = false)
    (hp : cs[off]? = some v) : (Instr.field t (.agg cs.toArray) n).run P w = .ok v w := by
  obtain ⟨fields, f, d, hu, hf, rfl, hd, ha⟩ := hf
  unfold Instr.field
  rw [Sem.run_bind, run_underlying hu w]
  simp [Result.andThen_ok, hf, asAgg, Sem.run_bind, Sem.run_pure, part, run_isAgg hd, ha, hp]
theorem quiet_field {C : World → Prop} {o : Oper} {a : Act} {K : Act → Prop} (t : TypeId) (x : Operand) (n : Nat) (ho : o.op = .field t x n) (off m : Nat) (cs piece : List Value)
    (hf : ∃ fields f d, P.underlying t = some (.struct fields) ∧ fields[n]? = some f ∧ f.offset = off ∧ P.underlying f.type = some d ∧ isAggD d = true ∧ (P.info? f.type).map (·.size) = some m)
    (hx : a.eval x = .agg cs.toArray) (hp : (cs.drop off).take m = piece) (h : K (a.put o.dst (.agg piece.toArray))) : o.quiet P a C K :=
  quiet_run _ (fun w _ => by
    unfold execOp
    simp only [ho, hx, Sem.run_bind, run_field_agg t n off m cs piece w hf hp, Result.andThen_ok, Sem.run_pure]) h
theorem quiet_fieldCell {C : World → Prop} {o : Oper} {a : Act} {K : Act → Prop} (t : TypeId) (x : Operand) (n : Nat) (ho : o.op = .field t x n) (off : Nat) (cs : List Value) (v : Value)
    (hf : ∃ fields f d, P.underlying t = some (.struct fields) ∧ fields[n]? = some f ∧ f.offset = off ∧ P.underlying f.type = some d ∧ isAggD d = false)
    (hx : a.eval x = .agg cs.toArray) (hp : cs[off]? = some v) (h : K (a.put o.dst v)) : o.quiet P a C K :=
  quiet_run _ (fun w _ => by
    unfold execOp
    simp only [ho, hx, Sem.run_bind, run_field_cell t n off cs v w hf hp, Result.andThen_ok, Sem.run_pure]) h
theorem wpList_field {w : World} {ops : Array Oper} {rest : List Oper} {o : Oper} {a : Act} {Q : Exit → Act → World → Prop} (hgd : o.guard = none ∨ Region.wanted o (yielded ops a.tmps) = true) (t : TypeId) (x : Operand) (n : Nat) (ho : o.op = .field t x n) (off m : Nat) (cs piece : List Value)
    (hf : ∃ fields f d, P.underlying t = some (.struct fields) ∧ fields[n]? = some f ∧ f.offset = off ∧ P.underlying f.type = some d ∧ isAggD d = true ∧ (P.info? f.type).map (·.size) = some m)
    (hx : a.eval x = .agg cs.toArray) (hp : (cs.drop off).take m = piece) (h : wpList P ops Q rest (a.put o.dst (.agg piece.toArray)) w) : wpList P ops Q (o :: rest) a w :=
  wpList_want hgd fun K hK => by
    unfold Oper.wp execOp
    simp only [ho, hx, Sem.run_bind, run_field_agg t n off m cs piece w hf hp, Result.andThen_ok, Sem.run_pure]
    exact hK _ _ h
theorem wpList_fieldCell {w : World} {ops : Array Oper} {rest : List Oper} {o : Oper} {a : Act} {Q : Exit → Act → World → Prop} (hgd : o.guard = none ∨ Region.wanted o (yielded ops a.tmps) = true) (t : TypeId) (x : Operand) (n : Nat) (ho : o.op = .field t x n) (off : Nat) (cs : List Value) (v : Value)
    (hf : ∃ fields f d, P.underlying t = some (.struct fields) ∧ fields[n]? = some f ∧ f.offset = off ∧ P.underlying f.type = some d ∧ isAggD d = false)
    (hx : a.eval x = .agg cs.toArray) (hp : cs[off]? = some v) (h : wpList P ops Q rest (a.put o.dst v) w) : wpList P ops Q (o :: rest) a w :=
  wpList_want hgd fun K hK => by
    unfold Oper.wp execOp
    simp only [ho, hx, Sem.run_bind, run_field_cell t n off cs v w hf hp, Result.andThen_ok, Sem.run_pure]
    exact hK _ _ h
/-- A load of a whole struct or array, perhaps guarded. -/
theorem wpList_loadG {w : World} {ops : Array Oper} {rest : List Oper} {o : Oper} {a : Act} {Q : Exit → Act → World → Prop} (hgd : o.guard = none ∨ Region.wanted o (yielded ops a.tmps) = true) (ty : TypeId) (x : Operand) (ho : o.op = .load ty x) (ad : Addr) (hx : a.eval x = .pointer (some ad)) (cs : List Value) (d : TypeDesc) (hu : P.underlying ty = some d) (hd : isAggD d = true) (hi : (P.info? ty).map (·.size) = some cs.length) (hc : Cells w ad cs)
    (h : wpList P ops Q rest (a.put o.dst (.agg cs.toArray)) w) : wpList P ops Q (o :: rest) a w :=
  wpList_want hgd fun K hK => by
    unfold Oper.wp execOp
    simp only [ho, hx, Instr.loadAt, Instr.sureAddr, Sem.run_bind, Sem.run_pure, Result.andThen_ok, run_load_agg w ty ad cs d hu hd hi hc]
    exact hK _ _ h
/-- A load of one cell. -/
theorem wpList_cell {w : World} {ops : Array Oper} {rest : List Oper} {o : Oper} {a : Act} {Q : Exit → Act → World → Prop} (hgd : o.guard = none ∨ Region.wanted o (yielded ops a.tmps) = true) (ty : TypeId) (x : Operand) (ho : o.op = .load ty x) (ad : Addr) (hx : a.eval x = .pointer (some ad)) (v : Value) (d : TypeDesc) (hu : P.underlying ty = some d) (hd : isAggD d = false) (hc : w.cell? ad = some v)
    (h : wpList P ops Q rest (a.put o.dst v) w) : wpList P ops Q (o :: rest) a w :=
  wpList_want hgd fun K hK => by
    unfold Oper.wp execOp
    simp only [ho, hx, Sem.run_bind, run_load_one ty ad v d hu hd hc, Sem.run_pure, Result.andThen_ok]
    exact hK _ _ h
end
end
section
open Go.RowKit
theorem szLampR {n : Nat} (h : n = 1024) : (Try.prog.info? 26).map (·.size) = some n := by subst h; kernel_rfl
theorem deep_sig : SigT.deep ≤ 10000 := by decide
theorem guardR_sig : Try.prog.eqGuardType Try.prog.depth 26 = false := by kernel_rfl
theorem val_sig (cs : List Value) : SigT.val cs = .agg cs.toArray := rfl
theorem szDigR {n : Nat} (h : n = 32) : (Try.prog.info? 31).map (·.size) = some n := by subst h; kernel_rfl
theorem szSigR {n : Nat} (h : n = 1026) : (Try.prog.info? 30).map (·.size) = some n := by subst h; kernel_rfl
set_option maxRecDepth 100000 in
set_option maxHeartbeats 8000000 in
theorem RSame05 (C : List Value) (key : Nat) (u v : Value) (ds : List Dg) (sg : SigT.Data) (w : World) (F : Fp) {W1 : World} {F1 : Fp} (hC : C.length = 1024) (hsg : SigT.holds W1 F1 C sg) (hc : Ways w F u ds) (hd : Ways w F v ds) (hF : ∀ b, F b → b < w.heap.size) :
    Calls Try.prog 17 #[.agg (sigC C key u).toArray, .agg (sigC C key v).toArray] w fun e w' => e = .returned (.bool true) ∧ Ext w w' := by
  obtain ⟨A, c, xs, rfl, hlc, hcm, hA, hcell, hall⟩ := ways_open hc
  obtain ⟨B, d', ys, rfl, hld, hdm, hB, hcel2, hal2⟩ := ways_open hd
  clear hc hd
  unfold maxLen at hcm hdm
  have hgt : Try.prog.eqGuardType Try.prog.depth 31 = false := by kernel_rfl
  have t1 := sigC_take hC key (.slice A (List.length (α := Dg) ds) c)
  have t2 := sigC_take hC key (.slice B (List.length (α := Dg) ds) d')
  have y1 := sigC_key hC key (.slice A (List.length (α := Dg) ds) c)
  have y2 := sigC_key hC key (.slice B (List.length (α := Dg) ds) d')
  have z1 := sigC_way hC key (.slice A (List.length (α := Dg) ds) c)
  have z2 := sigC_way hC key (.slice B (List.length (α := Dg) ds) d')
  have HCL := Lib.hid hC
  have HZS := Lib.hid (show (!SigT.eqv sg sg) = false by rw [(Ty.eqv_iff SigT (by decide) sg sg).2 rfl]; rfl)
  generalize sigC C key (.slice A (List.length (α := Dg) ds) c) = I1 at *
  generalize sigC C key (.slice B (List.length (α := Dg) ds) d') = I2 at *
  have hba : Blk ((w.alloc (.cells I1.toArray 30)).alloc (.cells I2.toArray 30)) w.heap.size 30 I1 := (Blk.new _ _ _).keep ((Ext.refl _).alloc _) (by simp)
  have hbb : Blk ((w.alloc (.cells I1.toArray 30)).alloc (.cells I2.toArray 30)) (w.heap.size + 1) 30 I2 := Blk.fresh (by simp) _ _
  have hx0 : Ext w ((w.alloc (.cells I1.toArray 30)).alloc (.cells I2.toArray 30)) := ((Ext.refl w).alloc _).alloc _
  have hcs : Cells ((w.alloc (.cells I1.toArray 30)).alloc (.cells I2.toArray 30)) ⟨w.heap.size, 0, none⟩ C := by have h := hba.cells.take 1024; rw [t1] at h; exact h
  have hct : Cells ((w.alloc (.cells I1.toArray 30)).alloc (.cells I2.toArray 30)) ⟨w.heap.size + 1, 0, none⟩ C := by have h := hbb.cells.take 1024; rw [t2] at h; exact h
  have ck1 := (hba.cell 1024).trans y1
  have ck2 := (hbb.cell 1024).trans y2
  have cw1 := (hba.cell 1025).trans z1
  have cw2 := (hbb.cell 1025).trans z2
  have hx9 : Ext ((w.alloc (.cells I1.toArray 30)).alloc (.cells I2.toArray 30)) ((w.alloc (.cells I1.toArray 30)).alloc (.cells I2.toArray 30)) := Ext.refl _
  have hkk : ((key : Int) != (key : Int)) = false := bne_self_eq_false _
  have hnn : ((List.length (α := Dg) ds : Int) != (List.length (α := Dg) ds : Int)) = false := bne_self_eq_false _
  have HX0 := Lib.hid hx0
  have HX9 := Lib.hid hx9
  have HBA := Lib.hid hba
  have HBB := Lib.hid hbb
  have HW1 := Lib.hid z1
  have HW2 := Lib.hid z2
  clear hx0 hx9 hba hbb z1 z2 y1 y2 t1 t2 hC
  go_enter Try.func17, Try.ntmps17
  go_wp2_with (first
    | (refine wpList_loadG (.inl rfl) 26 (.tmp 6) rfl _ rfl C _ Try.underlying26 rfl (szLampR HCL.out) hcs ?_)
    | (refine wpList_loadG (.inl rfl) 26 (.tmp 8) rfl _ rfl C _ Try.underlying26 rfl (szLampR HCL.out) hct ?_)
    | (refine wpList_neTy (.inl rfl) SigT 26 _ (.tmp 7) (.tmp 9) rfl rsig_fits deep_sig guardR_sig val_sig C C sg sg rfl rfl hsg hsg _ HZS.out ?_)
    | fail)
  go_loopw [5] (fun i wr => ∃ k : Nat, k ≤ List.length (α := Dg) ds ∧ i = .int .i64 k ∧ Ext ((w.alloc (.cells I1.toArray 30)).alloc (.cells I2.toArray 30)) wr) (fun i _ => List.length (α := Dg) ds - (intOf i).toNat)
  case atStart => exact ⟨0, by omega, rfl, HX9.out⟩
  case round =>
    obtain ⟨k, hk, rfl, hx⟩ := hrel
    have ca0 := ((HBA.out.keep hx (by simp)).cell 1025)
    have cb0 := ((HBB.out.keep hx (by simp)).cell 1025)
    have ca : wr.cell? ⟨w.heap.size, 1025, none⟩ = some (.slice A (List.length (α := Dg) ds) c) := ca0.trans HW1.out
    have cb : wr.cell? ⟨w.heap.size + 1, 1025, none⟩ = some (.slice B (List.length (α := Dg) ds) d') := cb0.trans HW2.out
    clear ca0 cb0
    by_cases hlt : k < List.length (α := Dg) ds
    · obtain ⟨ad, rfl, hf, hcells⟩ := hcell (by omega)
      obtain ⟨bd, rfl, hf2, hcells2⟩ := hcel2 (by omega)
      have hxw := HX0.out.trans hx
      obtain ⟨hc1, hok1⟩ := digs_at hall (hcells.keep (hxw.same hF _ hf)) hlt
      obtain ⟨hc2, hok2⟩ := digs_at hal2 (hcells2.keep (hxw.same hF _ hf2)) hlt
      generalize hg1 : ds[k] = d at *
      have HH1 := Lib.hid ((digT_iff (w := w) (F := F)).2 ⟨rfl, hok1⟩)
      have hl1 : (bv d).length = 32 := by simp [hok1]
      have HEQ := Lib.hid (show (!DigT.eqv d d) = false by rw [(Ty.eqv_iff DigT (by decide) d d).2 rfl]; rfl)
      have HL1 := Lib.hid hl1
      clear hl1 hok1 hok2
      generalize bv d = C1 at *
      have hc1 : Cells wr.drew (ad.add (k * 32)) C1 := hc1
      have hc2 : Cells wr.drew (bd.add (k * 32)) C1 := hc2
      have ca : wr.drew.cell? ⟨w.heap.size, 1025, none⟩ = some (.slice (some ad) (List.length (α := Dg) ds) c) := ca
      have cb : wr.drew.cell? ⟨w.heap.size + 1, 1025, none⟩ = some (.slice (some bd) (List.length (α := Dg) ds) d') := cb
      have HCA := Lib.hid hc1
      have HCB := Lib.hid hc2
      have HX := Lib.hid hx.drew
      have k0 : (0 : Int) ≤ (k : Int) := by omega
      have k1 : (k : Int) < (List.length (α := Dg) ds : Int) := by omega
      clear hc1 hc2 hx hg1 hcells hcells2 hxw
      go_wp2
      refine startM Since (by kernel_rfl) ?_
      refine takeE 0 rfl (by kernel_rfl) (by kernel_rfl) (by kernel_rfl) rfl (fun _ _ _ _ h => h) rfl (fun K hK => ?_)
      go_big_quiet_op
      first | refine hK _ ?_ | refine ⟨_, fun _ _ => rfl, hK _ ?_⟩
      clear hK K
      refine takeE 1 rfl (by kernel_rfl) (by kernel_rfl) (by kernel_rfl) rfl (fun _ _ _ _ h => h) rfl (fun K hK => ?_)
      refine quiet_cell _ _ rfl _ rfl _ _ Try.underlying28 rfl (fun W' h => World.grownBy.cell h.ext ca (by simp)) ?_
      refine hK _ ?_
      simp only [Act.put, List.setIfInBounds_toArray, List.set_cons_succ, List.set_cons_zero]
      clear hK K
      refine takeE 2 rfl (by kernel_rfl) (by kernel_rfl) (by kernel_rfl) rfl (fun _ _ _ _ h => h) rfl (fun K hK => ?_)
      go_big_quiet_op
      first | refine hK _ ?_ | refine ⟨_, fun _ _ => rfl, hK _ ?_⟩
      clear hK K
      refine takeE 3 rfl (by kernel_rfl) (by kernel_rfl) (by kernel_rfl) rfl (fun _ _ _ _ h => h) rfl (fun K hK => ?_)
      go_big_quiet_op
      first | refine hK _ ?_ | refine ⟨_, fun _ _ => rfl, hK _ ?_⟩
      clear hK K
      refine takeE 4 rfl (by kernel_rfl) (by kernel_rfl) (by kernel_rfl) rfl (fun _ _ _ _ h => h) rfl (fun K hK => ?_)
      refine quiet_agg 31 (.tmp 37) rfl _ rfl C1 _ Try.underlying31 rfl (szDigR HL1.out) (fun W' h => HCA.out.keep (h.ext.block _ (HCA.out.lt (by intro e; have := HL1.out; rw [e] at this; simp at this)) (by simp))) ?_
      refine hK _ ?_
      simp only [Act.put, List.setIfInBounds_toArray, List.set_cons_succ, List.set_cons_zero]
      clear hK K
      refine takeE 5 rfl (by kernel_rfl) (by kernel_rfl) (by kernel_rfl) rfl (fun _ _ _ _ h => h) rfl (fun K hK => ?_)
      go_big_quiet_op
      first | refine hK _ ?_ | refine ⟨_, fun _ _ => rfl, hK _ ?_⟩
      clear hK K
      refine takeE 6 rfl (by kernel_rfl) (by kernel_rfl) (by kernel_rfl) rfl (fun _ _ _ _ h => h) rfl (fun K hK => ?_)
      refine quiet_cell _ _ rfl _ rfl _ _ Try.underlying28 rfl (fun W' h => World.grownBy.cell h.ext cb (by simp)) ?_
      refine hK _ ?_
      simp only [Act.put, List.setIfInBounds_toArray, List.set_cons_succ, List.set_cons_zero]
      clear hK K
      refine takeE 7 rfl (by kernel_rfl) (by kernel_rfl) (by kernel_rfl) rfl (fun _ _ _ _ h => h) rfl (fun K hK => ?_)
      go_big_quiet_op
      first | refine hK _ ?_ | refine ⟨_, fun _ _ => rfl, hK _ ?_⟩
      clear hK K
      refine takeE 8 rfl (by kernel_rfl) (by kernel_rfl) (by kernel_rfl) rfl (fun _ _ _ _ h => h) rfl (fun K hK => ?_)
      go_big_quiet_op
      first | refine hK _ ?_ | refine ⟨_, fun _ _ => rfl, hK _ ?_⟩
      clear hK K
      refine takeE 9 rfl (by kernel_rfl) (by kernel_rfl) (by kernel_rfl) rfl (fun _ _ _ _ h => h) rfl (fun K hK => ?_)
      refine quiet_agg 31 (.tmp 42) rfl _ rfl C1 _ Try.underlying31 rfl (szDigR HL1.out) (fun W' h => HCB.out.keep (h.ext.block _ (HCB.out.lt (by intro e; have := HL1.out; rw [e] at this; simp at this)) (by simp))) ?_
      refine hK _ ?_
      simp only [Act.put, List.setIfInBounds_toArray, List.set_cons_succ, List.set_cons_zero]
      clear hK K
      refine takeE 10 rfl (by kernel_rfl) (by kernel_rfl) (by kernel_rfl) rfl (fun _ _ _ _ h => h) rfl (fun K hK => ?_)
      refine quiet_neTy DigT 31 _ (.tmp 38) (.tmp 43) rfl (by kernel_rfl) (by decide) hgt (fun _ => rfl) (W1 := w) (W2 := w) (F1 := F) (F2 := F) C1 C1 d d rfl rfl HH1.out HH1.out ?_
      rw [HEQ.out]
      refine hK _ ?_
      simp only [Act.put, List.setIfInBounds_toArray, List.set_cons_succ, List.set_cons_zero]
      clear hK K
      refine doneM (by kernel_rfl) ?_ _
      go_wp2
      go_roundw
      case rel => exact ⟨k + 1, by omega, by go_num, HX.out⟩
      case measure => simp [intOf]; omega
    · obtain rfl : k = List.length (α := Dg) ds := by omega
      go_wp2
      go_ret
      exact ⟨rfl, HX0.out.trans hx⟩
end
end Go.Proofs.Ytpdkmapogncgmaa

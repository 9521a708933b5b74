/- Walks and plain laws, put together in build order. Conditions: what each of them names. -/
import Derived.SizedLaws
import Derived.Test.YtfoomnibfibfnaaWLampBytes11
set_option linter.unusedVariables false
set_option linter.unusedSimpArgs false
set_option linter.unnecessarySimpa false
namespace Go.Proofs.Ytfoomnibfibfnaa
section
open Go.RowKit

def eqvL {α : Type} (f : α → α → Bool) : List α → List α → Bool
  | [], [] => true
  | a :: l, b :: m => f a b && eqvL f l m
  | _, _ => false
def Ty.eqv : (t : Ty) → t.Data → t.Data → Bool
  | .u8, a, b => a == b
  | .nat _, a, b => (a : Nat) == b
  | .int _, a, b => (a : Int) == b
  | .bool, a, b => (a : Bool) == b
  | .str, a, b => a.toList == b.toList
  | .arr _ t, l, m => eqvL t.eqv l m
  | .sl _, _, _ => false
  | .st t, a, b => t.eqv a b
  | .unit, _, _ => true
  | .pair a b, x, y => a.eqv x.1 y.1 && b.eqv x.2 y.2
def Ty.plain : Ty → Bool
  | .arr _ t => t.plain
  | .sl _ => false
  | .st t => t.plain
  | .pair a b => a.plain && b.plain
  | _ => true
theorem eqvL_iff {α : Type} {f : α → α → Bool} (h : ∀ a b, f a b = true ↔ a = b) : ∀ (l m : List α), eqvL f l m = true ↔ l = m
  | [], [] => by simp [eqvL]
  | [], _ :: _ => by simp [eqvL]
  | _ :: _, [] => by simp [eqvL]
  | a :: l, b :: m => by simp [eqvL, h, eqvL_iff h l m]
theorem Ty.eqv_iff : ∀ (t : Ty), t.plain = true → ∀ x y : t.Data, t.eqv x y = true ↔ x = y
  | .u8, _, a, b => by simp [Ty.eqv]
  | .nat _, _, a, b => by simp [Ty.eqv]
  | .int _, _, a, b => by simp [Ty.eqv]
  | .bool, _, a, b => by simp [Ty.eqv]
  | .str, _, a, b => by
    simp only [Ty.eqv, beq_iff_eq, ByteArray.toList_eq]
    constructor
    · intro h; obtain ⟨⟨x⟩⟩ := a; obtain ⟨⟨y⟩⟩ := b; simp at h; subst h; rfl
    · rintro rfl; rfl
  | .arr _ t, h, l, m => eqvL_iff (Ty.eqv_iff t h) l m
  | .sl _, h, _, _ => by simp [Ty.plain] at h
  | .st t, h, a, b => Ty.eqv_iff t h a b
  | .unit, _, a, b => by simp [Ty.eqv]
  | .pair a b, h, x, y => by
    simp only [Ty.plain, Bool.and_eq_true] at h
    simp only [Ty.eqv, Bool.and_eq_true, Ty.eqv_iff a h.1, Ty.eqv_iff b h.2]
    constructor
    · rintro ⟨h1, h2⟩; exact Prod.ext h1 h2
    · rintro rfl; exact ⟨rfl, rfl⟩
def Ty.deep : Ty → Nat
  | .arr _ t => t.deep + 1
  | .st t => t.deep + 1
  | .pair a b => max a.deep b.deep
  | .unit => 0
  | _ => 1
/-- Does the described type fit the program's, and can it be compared? -/
def Ty.eqFits (P : Program) : Ty → (TypeId → Bool) × (List Field → Nat → Bool)
  | .u8 => (fun t => match P.underlying t with | some (.int .u8) => true | _ => false, fun _ _ => false)
  | .nat k => (fun t => match P.underlying t with | some (.int k') => k' == k | _ => false, fun _ _ => false)
  | .int k => (fun t => match P.underlying t with | some (.int k') => k' == k | _ => false, fun _ _ => false)
  | .bool => (fun t => match P.underlying t with | some .bool => true | _ => false, fun _ _ => false)
  | .str => (fun t => match P.underlying t with | some .string => true | _ => false, fun _ _ => false)
  | .arr n a => (fun t => match P.underlying t with | some (.array m e) => m == n && (a.eqFits P).1 e && (P.info? e).map (·.size) == some a.size | _ => false, fun _ _ => false)
  | .sl _ => (fun _ => false, fun _ _ => false)
  | .st c => (fun t => match P.underlying t with | some (.struct fs) => (c.eqFits P).2 fs.toList 0 && !P.stoodInHeld t | _ => false, fun _ _ => false)
  | .unit => (fun _ => false, fun fs _ => fs.isEmpty)
  | .pair a b => (fun _ => false, fun fs off => match fs with | f :: r => f.name != "_" && f.offset == off && (a.eqFits P).1 f.type && (P.info? f.type).map (·.size) == some a.size && (b.eqFits P).2 r (off + a.size) | [] => false)
/-- The value that cells are. -/
def Ty.val : Ty → List Value → Value
  | .arr _ _, cs => .agg cs.toArray
  | .st _, cs => .agg cs.toArray
  | _, cs => cs.headD undef
section
variable {P : Program}
theorem info_size {e : TypeId} {n : Nat} (h : (P.info? e).map (·.size) = some n) (w : World) : (sizeOf e).run P w = .ok n w := by
  obtain ⟨i, hi1, hi2⟩ := Option.map_eq_some_iff.1 h
  simp [sizeOf, typeInfo, hi1, hi2]
theorem isAgg_run {t : TypeId} {d : TypeDesc} (hu : P.underlying t = some d) (w : World) : (isAgg t).run P w = .ok (isAggD d) w := by
  unfold isAgg
  rw [Sem.run_bind, run_underlying hu w]
  cases d <;> rfl
/-- A part is the value of its cells. -/
theorem part_run (ty : Ty) {t : TypeId} (hf : (ty.eqFits P).1 t = true) (hs : (P.info? t).map (·.size) = some ty.size) {W : World} {F : Fp} {x : ty.Data} (cs c1 c2 : List Value) (off : Nat) (hc : cs.drop off = c1 ++ c2) (hx : ty.holds W F c1 x) (w : World) :
    (part t cs.toArray off).run P w = .ok (ty.val c1) w := by
  have hl := Ty.len ty hx
  have hcell : ∀ v, c1 = [v] → cs[off]? = some v := by
    rintro v rfl
    have h : (cs.drop off)[0]? = some v := by rw [hc]; rfl
    rw [List.getElem?_drop] at h
    simpa using h
  have one : ∀ v d, c1 = [v] → P.underlying t = some d → isAggD d = false → (part t cs.toArray off).run P w = .ok v w := by
    intro v d h hu hd
    simp only [part, Sem.run_bind, isAgg_run hu, hd, Result.andThen_ok, Bool.false_eq_true, if_false]
    have := hcell v h
    simp [this]
  have agg : ∀ d, P.underlying t = some d → isAggD d = true → (part t cs.toArray off).run P w = .ok (.agg c1.toArray) w := by
    intro d hu hd
    simp only [part, Sem.run_bind, isAgg_run hu, hd, Result.andThen_ok, if_true, info_size hs, Sem.run_pure]
    congr 2
    apply Array.ext'
    rw [Array.toList_extract]
    simp only [List.toList_toArray, Nat.add_sub_cancel_left, List.extract_eq_take_drop, hc, ← hl]
    simp
  cases ty with
  | u8 =>
    simp only [Ty.eqFits] at hf
    split at hf <;> try simp only [Bool.false_eq_true] at hf
    rename_i hu
    have hx : c1 = [.int .u8 (x.toNat : Int)] := hx
    rw [one _ _ hx hu rfl, hx]; rfl
  | nat k =>
    simp only [Ty.eqFits] at hf
    split at hf <;> try simp only [Bool.false_eq_true] at hf
    rename_i hu
    obtain ⟨hx, _⟩ := hx
    rw [one _ _ hx hu rfl, hx]; rfl
  | int k =>
    simp only [Ty.eqFits] at hf
    split at hf <;> try simp only [Bool.false_eq_true] at hf
    rename_i hu
    obtain ⟨hx, _⟩ := hx
    rw [one _ _ hx hu rfl, hx]; rfl
  | bool =>
    simp only [Ty.eqFits] at hf
    split at hf <;> try simp only [Bool.false_eq_true] at hf
    rename_i hu
    have hx : c1 = [.bool x] := hx
    rw [one _ _ hx hu rfl, hx]; rfl
  | str =>
    simp only [Ty.eqFits] at hf
    split at hf <;> try simp only [Bool.false_eq_true] at hf
    rename_i hu
    obtain ⟨hx, _⟩ := hx
    rw [one _ _ hx hu rfl, hx]; rfl
  | arr n a =>
    simp only [Ty.eqFits] at hf
    split at hf <;> try simp only [Bool.false_eq_true] at hf
    rename_i hu
    exact agg _ hu rfl
  | sl a => simp [Ty.eqFits] at hf
  | st c =>
    simp only [Ty.eqFits] at hf
    split at hf <;> try simp only [Bool.false_eq_true] at hf
    rename_i hu
    exact agg _ hu rfl
  | unit => simp [Ty.eqFits] at hf
  | pair a b => simp [Ty.eqFits] at hf

theorem eq_loop {W1 W2 : World} {F1 F2 : Fp} (a : Ty) (e : TypeId) (d : Nat) (hf : (a.eqFits P).1 e = true) (hs : (P.info? e).map (·.size) = some a.size)
    (ih : ∀ (w : World) (c1 c2 : List Value) (x y : a.Data), a.holds W1 F1 c1 x → a.holds W2 F2 c2 y → (Op.equalIn d e (a.val c1) (a.val c2)).run P w = .ok (a.eqv x y) w) (cs ds : List Value) :
    ∀ (l m : List a.Data) (i : Nat) (w : World), l.length = m.length → AllH (a.holds W1 F1) (cs.drop (i * a.size)) l → AllH (a.holds W2 F2) (ds.drop (i * a.size)) m →
    ∃ r : Option Bool, (forIn (m := Sem) (List.range' i l.length 1) ((none : Option Bool), ()) fun i _ => do
        let x ← part e cs.toArray (i * a.size)
        let y ← part e ds.toArray (i * a.size)
        let b ← Op.equalIn d e x y
        if (!b) = true then pure (ForInStep.done (some false, ())) else pure (ForInStep.yield (none, ()))).run P w = .ok (r, ()) w ∧ (r.getD true) = eqvL a.eqv l m
  | [], [], _, _, _, _, _ => ⟨none, by simp, rfl⟩
  | [], _ :: _, _, _, h, _, _ => by simp at h
  | _ :: _, [], _, _, h, _, _ => by simp at h
  | x :: l, y :: m, i, w, h, h1, h2 => by
    obtain ⟨c1, c2, e1, g1, g2⟩ := h1
    obtain ⟨d1, d2, e2, k1, k2⟩ := h2
    have hp1 := part_run a hf hs cs c1 c2 (i * a.size) e1 g1 w
    have hp2 := part_run a hf hs ds d1 d2 (i * a.size) e2 k1 w
    have he := ih w c1 d1 x y g1 k1
    have n1 : cs.drop ((i + 1) * a.size) = c2 := by
      rw [Nat.add_mul, Nat.one_mul, ← List.drop_drop, e1, ← Ty.len a g1, List.drop_left]
    have n2 : ds.drop ((i + 1) * a.size) = d2 := by
      rw [Nat.add_mul, Nat.one_mul, ← List.drop_drop, e2, ← Ty.len a k1, List.drop_left]
    obtain ⟨r, hr, hr2⟩ := eq_loop a e d hf hs ih cs ds l m (i + 1) w (by simpa using h) (by rw [n1]; exact g2) (by rw [n2]; exact k2)
    simp only [List.length_cons, List.range'_succ, List.forIn_cons, Sem.run_bind, hp1, hp2, he, Result.andThen_ok]
    cases hb : a.eqv x y
    · exact ⟨some false, by simp, by simp [eqvL, hb]⟩
    · refine ⟨r, ?_, by simp [eqvL, hb, hr2]⟩
      simpa using hr
theorem eq_both : ∀ (ty : Ty),
    (∀ (t : TypeId) (d : Nat), (ty.eqFits P).1 t = true → ty.deep ≤ d → ∀ (w W1 W2 : World) (F1 F2 : Fp) (cs ds : List Value) (x y : ty.Data), ty.holds W1 F1 cs x → ty.holds W2 F2 ds y → (Op.equalIn d t (ty.val cs) (ty.val ds)).run P w = .ok (ty.eqv x y) w) ∧
    (∀ (fs : List Field) (off d : Nat), (ty.eqFits P).2 fs off = true → ty.deep ≤ d → ∀ (w W1 W2 : World) (F1 F2 : Fp) (cs ds : List Value) (x y : ty.Data), ty.holds W1 F1 (cs.drop off) x → ty.holds W2 F2 (ds.drop off) y → (Op.eqFields d cs.toArray ds.toArray fs).run P w = .ok (ty.eqv x y) w)
  | .u8 => ⟨fun t d hf hd w _ _ _ _ cs ds x y h1 h2 => by
      simp only [Ty.eqFits] at hf
      split at hf <;> try simp only [Bool.false_eq_true] at hf
      rename_i hu
      obtain ⟨d, rfl⟩ : ∃ k, d = k + 1 := ⟨d - 1, by simp only [Ty.deep] at hd; omega⟩
      have h1 : cs = [.int .u8 (x.toNat : Int)] := h1
      have h2 : ds = [.int .u8 (y.toNat : Int)] := h2
      subst h1 h2
      show (Op.equalIn (d + 1) t (.int .u8 _) (.int .u8 _)).run P w = _
      rw [run_equalIn_int w d t .u8 .u8 _ _ hu]
      congr 1
      show _ = (x == y)
      rw [Bool.eq_iff_iff]
      simp [← UInt8.toNat_inj]
      omega, fun _ _ _ hf => by simp [Ty.eqFits] at hf⟩
  | .nat k => ⟨fun t d hf hd w _ _ _ _ cs ds x y h1 h2 => by
      simp only [Ty.eqFits] at hf
      split at hf <;> try simp only [Bool.false_eq_true] at hf
      rename_i hu
      obtain ⟨d, rfl⟩ : ∃ k, d = k + 1 := ⟨d - 1, by simp only [Ty.deep] at hd; omega⟩
      obtain ⟨rfl, _⟩ := h1
      obtain ⟨rfl, _⟩ := h2
      show (Op.equalIn (d + 1) t (.int k _) (.int k _)).run P w = _
      rw [run_equalIn_int w d t k _ _ _ hu]
      congr 1
      show _ = ((x : Nat) == y)
      rw [Bool.eq_iff_iff, beq_iff_eq, beq_iff_eq]
      exact Int.ofNat_inj, fun _ _ _ hf => by simp [Ty.eqFits] at hf⟩
  | .int k => ⟨fun t d hf hd w _ _ _ _ cs ds x y h1 h2 => by
      simp only [Ty.eqFits] at hf
      split at hf <;> try simp only [Bool.false_eq_true] at hf
      rename_i hu
      obtain ⟨d, rfl⟩ : ∃ k, d = k + 1 := ⟨d - 1, by simp only [Ty.deep] at hd; omega⟩
      obtain ⟨rfl, _⟩ := h1
      obtain ⟨rfl, _⟩ := h2
      show (Op.equalIn (d + 1) t (.int k _) (.int k _)).run P w = _
      rw [run_equalIn_int w d t k _ _ _ hu]
      rfl, fun _ _ _ hf => by simp [Ty.eqFits] at hf⟩
  | .bool => ⟨fun t d hf hd w _ _ _ _ cs ds x y h1 h2 => by
      simp only [Ty.eqFits] at hf
      split at hf <;> try simp only [Bool.false_eq_true] at hf
      rename_i hu
      obtain ⟨d, rfl⟩ : ∃ k, d = k + 1 := ⟨d - 1, by simp only [Ty.deep] at hd; omega⟩
      have h1 : cs = [.bool x] := h1
      have h2 : ds = [.bool y] := h2
      subst h1 h2
      show (Op.equalIn (d + 1) t (.bool _) (.bool _)).run P w = _
      rw [run_equalIn_bool' w d t _ _ hu]
      rfl, fun _ _ _ hf => by simp [Ty.eqFits] at hf⟩
  | .str => ⟨fun t d hf hd w _ _ _ _ cs ds x y h1 h2 => by
      simp only [Ty.eqFits] at hf
      split at hf <;> try simp only [Bool.false_eq_true] at hf
      rename_i hu
      obtain ⟨d, rfl⟩ : ∃ k, d = k + 1 := ⟨d - 1, by simp only [Ty.deep] at hd; omega⟩
      obtain ⟨rfl, _⟩ := h1
      obtain ⟨rfl, _⟩ := h2
      show (Op.equalIn (d + 1) t (.string _) (.string _)).run P w = _
      rw [run_equalIn_string w d t _ _ hu]
      rfl, fun _ _ _ hf => by simp [Ty.eqFits] at hf⟩
  | .arr n a => ⟨fun t d hf hd w W1 W2 F1 F2 cs ds x y h1 h2 => by
      simp only [Ty.eqFits] at hf
      split at hf <;> try simp only [Bool.false_eq_true] at hf
      rename_i m e hu
      simp only [Bool.and_eq_true, beq_iff_eq] at hf
      obtain ⟨⟨rfl, hfa⟩, hs⟩ := hf
      obtain ⟨d, rfl⟩ : ∃ k, d = k + 1 := ⟨d - 1, by simp only [Ty.deep] at hd; omega⟩
      simp only [Ty.deep] at hd
      obtain ⟨hx1, hx2⟩ := h1
      obtain ⟨hy1, hy2⟩ := h2
      obtain ⟨r, hr, hr2⟩ := eq_loop (W1 := W1) (W2 := W2) (F1 := F1) (F2 := F2) a e d hfa hs (fun w c1 c2 x y g1 g2 => (eq_both a).1 e d hfa (by omega) w W1 W2 F1 F2 c1 c2 x y g1 g2) cs ds x y 0 w (hx1.trans hy1.symm) (by simpa using hx2) (by simpa using hy2)
      show (Op.equalIn (d + 1) t (.agg cs.toArray) (.agg ds.toArray)).run P w = .ok (eqvL a.eqv x y) w
      rw [Op.equalIn]
      rw [hx1] at hr
      simp only [Sem.run_bind, run_underlying hu, Result.andThen_ok, info_size hs, Std.Legacy.Range.forIn_eq_forIn_range', Std.Legacy.Range.size, Nat.sub_zero, Nat.add_sub_cancel, Nat.div_one]
      (try simp only [Sem.run_bind] at hr)
      rw [hr, ← hr2]
      cases r <;> simp, fun _ _ _ hf => by simp [Ty.eqFits] at hf⟩
  | .sl a => ⟨fun _ _ hf => by simp [Ty.eqFits] at hf, fun _ _ _ hf => by simp [Ty.eqFits] at hf⟩
  | .st c => ⟨fun t d hf hd w W1 W2 F1 F2 cs ds x y h1 h2 => by
      simp only [Ty.eqFits] at hf
      split at hf <;> try simp only [Bool.false_eq_true] at hf
      rename_i fs hu
      simp only [Bool.and_eq_true, Bool.not_eq_true'] at hf
      obtain ⟨hfc, hst⟩ := hf
      obtain ⟨d, rfl⟩ : ∃ k, d = k + 1 := ⟨d - 1, by simp only [Ty.deep] at hd; omega⟩
      simp only [Ty.deep] at hd
      have hfo : P.fieldsOf t = fs := by simp only [Program.fieldsOf, hu]
      show (Op.equalIn (d + 1) t (.agg cs.toArray) (.agg ds.toArray)).run P w = .ok (c.eqv x y) w
      rw [run_equalIn_struct w d t _ _ (by rw [hfo]; exact hu) hst, hfo]
      exact (eq_both c).2 fs.toList 0 d hfc (by omega) w W1 W2 F1 F2 cs ds x y (by rw [List.drop_zero]; exact h1) (by rw [List.drop_zero]; exact h2), fun _ _ _ hf => by simp [Ty.eqFits] at hf⟩
  | .unit => ⟨fun _ _ hf => by simp [Ty.eqFits] at hf, fun fs off d hf _ w _ _ _ _ cs ds x y _ _ => by
      cases fs with
      | nil => simp [Op.eqFields, Ty.eqv]
      | cons f r => simp [Ty.eqFits] at hf⟩
  | .pair a b => ⟨fun _ _ hf => by simp [Ty.eqFits] at hf, fun fs off d hf hd w W1 W2 F1 F2 cs ds x y h1 h2 => by
      cases fs with
      | nil => simp [Ty.eqFits] at hf
      | cons f r =>
        simp only [Ty.eqFits, Bool.and_eq_true, beq_iff_eq, bne_iff_ne] at hf
        obtain ⟨⟨⟨⟨hn, rfl⟩, hfa⟩, hs⟩, hfb⟩ := hf
        simp only [Ty.deep] at hd
        obtain ⟨c1, c2, e1, g1, g2⟩ := h1
        obtain ⟨d1, d2, e2, k1, k2⟩ := h2
        have n1 : cs.drop (f.offset + a.size) = c2 := by rw [← List.drop_drop, e1, ← Ty.len a g1, List.drop_left]
        have n2 : ds.drop (f.offset + a.size) = d2 := by rw [← List.drop_drop, e2, ← Ty.len a k1, List.drop_left]
        have ha := (eq_both a).1 f.type d hfa (by omega) w W1 W2 F1 F2 c1 d1 x.1 y.1 g1 k1
        have hb := (eq_both b).2 r (f.offset + a.size) d hfb (by omega) w W1 W2 F1 F2 cs ds x.2 y.2 (by rw [n1]; exact g2) (by rw [n2]; exact k2)
        simp only [Op.eqFields, hn, ne_eq, not_false_eq_true, if_true, Sem.run_bind, part_run a hfa hs cs c1 c2 f.offset e1 g1 w, part_run a hfa hs ds d1 d2 f.offset e2 k1 w, ha, Result.andThen_ok, Sem.run_ite, Sem.run_pure, hb, Ty.eqv]
        cases a.eqv x.1 y.1 <;> simp⟩
/-- '==' at structs and arrays. -/
theorem run_eqTy (ty : Ty) (t : TypeId) (hf : (ty.eqFits P).1 t = true) (hd : ty.deep ≤ 10000) (w W1 W2 : World) (F1 F2 : Fp) (cs ds : List Value) (x y : ty.Data) (h1 : ty.holds W1 F1 cs x) (h2 : ty.holds W2 F2 ds y) (hv : ∀ cs, ty.val cs = .agg cs.toArray) :
    (binOp .eql t (.agg cs.toArray) (.agg ds.toArray)).run P w = .ok (.bool (ty.eqv x y)) w := by
  have h := (eq_both ty).1 t 10000 hf hd w W1 W2 F1 F2 cs ds x y h1 h2
  rw [hv, hv] at h
  rw [run_eql_struct, h]; rfl
theorem run_neTy (ty : Ty) (t : TypeId) (hf : (ty.eqFits P).1 t = true) (hd : ty.deep ≤ 10000) (w W1 W2 : World) (F1 F2 : Fp) (cs ds : List Value) (x y : ty.Data) (h1 : ty.holds W1 F1 cs x) (h2 : ty.holds W2 F2 ds y) (hv : ∀ cs, ty.val cs = .agg cs.toArray) :
    (binOp .neq t (.agg cs.toArray) (.agg ds.toArray)).run P w = .ok (.bool (!ty.eqv x y)) w := by
  have h := (eq_both ty).1 t 10000 hf hd w W1 W2 F1 F2 cs ds x y h1 h2
  rw [hv, hv] at h
  rw [run_neq_struct, h]; rfl
end
end
section
open Go.RowKit
section
variable {P : Program} {C : World → Prop} {o : Oper} {a : Act} {K : Act → Prop}
theorem quiet_eqTy (ty : Ty) (t t' : TypeId) (x y : Operand) (ho : o.op = .binOp .eql t x y t') (hf : (ty.eqFits P).1 t = true) (hd : ty.deep ≤ 10000) (hg : P.eqGuardType P.depth t = false) (hv : ∀ cs, ty.val cs = .agg cs.toArray)
    {W1 W2 : World} {F1 F2 : Fp} (cs ds : List Value) (d1 d2 : ty.Data) (hx : a.eval x = .agg cs.toArray) (hy : a.eval y = .agg ds.toArray) (h1 : ty.holds W1 F1 cs d1) (h2 : ty.holds W2 F2 ds d2) (hk : K (a.put o.dst (.bool (ty.eqv d1 d2)))) : o.quiet P a C K :=
  quiet_run _ (fun w _ => by
    unfold execOp
    simp only [ho, hx, hy, Sem.run_bind, run_eqGuard w .eql t x y _ _ (.inl rfl) hg, run_eqTy ty t hf hd w W1 W2 F1 F2 cs ds d1 d2 h1 h2 hv, Result.andThen_ok, Sem.run_pure]) hk
theorem quiet_neTy (ty : Ty) (t t' : TypeId) (x y : Operand) (ho : o.op = .binOp .neq t x y t') (hf : (ty.eqFits P).1 t = true) (hd : ty.deep ≤ 10000) (hg : P.eqGuardType P.depth t = false) (hv : ∀ cs, ty.val cs = .agg cs.toArray)
    {W1 W2 : World} {F1 F2 : Fp} (cs ds : List Value) (d1 d2 : ty.Data) (hx : a.eval x = .agg cs.toArray) (hy : a.eval y = .agg ds.toArray) (h1 : ty.holds W1 F1 cs d1) (h2 : ty.holds W2 F2 ds d2) (hk : K (a.put o.dst (.bool (!ty.eqv d1 d2)))) : o.quiet P a C K :=
  quiet_run _ (fun w _ => by
    unfold execOp
    simp only [ho, hx, hy, Sem.run_bind, run_eqGuard w .neq t x y _ _ (.inr rfl) hg, run_neTy ty t hf hd w W1 W2 F1 F2 cs ds d1 d2 h1 h2 hv, Result.andThen_ok, Sem.run_pure]) hk
theorem wpList_eqTy {w : World} {ops : Array Oper} {rest : List Oper} {Q : Exit → Act → World → Prop} (hgd : o.guard = none ∨ Region.wanted o (yielded ops a.tmps) = true) (ty : Ty) (t t' : TypeId) (x y : Operand) (ho : o.op = .binOp .eql t x y t') (hf : (ty.eqFits P).1 t = true) (hd : ty.deep ≤ 10000) (hg : P.eqGuardType P.depth t = false) (hv : ∀ cs, ty.val cs = .agg cs.toArray)
    {W1 W2 : World} {F1 F2 : Fp} (cs ds : List Value) (d1 d2 : ty.Data) (hx : a.eval x = .agg cs.toArray) (hy : a.eval y = .agg ds.toArray) (h1 : ty.holds W1 F1 cs d1) (h2 : ty.holds W2 F2 ds d2) (b : Bool) (hb : ty.eqv d1 d2 = b) (hk : wpList P ops Q rest (a.put o.dst (.bool b)) w) : wpList P ops Q (o :: rest) a w :=
  wpList_want hgd fun K hK => by
    subst hb
    unfold Oper.wp execOp
    simp only [ho, hx, hy, Sem.run_bind, run_eqGuard w .eql t x y _ _ (.inl rfl) hg, run_eqTy ty t hf hd w W1 W2 F1 F2 cs ds d1 d2 h1 h2 hv, Result.andThen_ok, Sem.run_pure]
    exact hK _ _ hk
theorem wpList_neTy {w : World} {ops : Array Oper} {rest : List Oper} {Q : Exit → Act → World → Prop} (hgd : o.guard = none ∨ Region.wanted o (yielded ops a.tmps) = true) (ty : Ty) (t t' : TypeId) (x y : Operand) (ho : o.op = .binOp .neq t x y t') (hf : (ty.eqFits P).1 t = true) (hd : ty.deep ≤ 10000) (hg : P.eqGuardType P.depth t = false) (hv : ∀ cs, ty.val cs = .agg cs.toArray)
    {W1 W2 : World} {F1 F2 : Fp} (cs ds : List Value) (d1 d2 : ty.Data) (hx : a.eval x = .agg cs.toArray) (hy : a.eval y = .agg ds.toArray) (h1 : ty.holds W1 F1 cs d1) (h2 : ty.holds W2 F2 ds d2) (b : Bool) (hb : (!ty.eqv d1 d2) = b) (hk : wpList P ops Q rest (a.put o.dst (.bool b)) w) : wpList P ops Q (o :: rest) a w :=
  wpList_want hgd fun K hK => by
    subst hb
    unfold Oper.wp execOp
    simp only [ho, hx, hy, Sem.run_bind, run_eqGuard w .neq t x y _ _ (.inr rfl) hg, run_neTy ty t hf hd w W1 W2 F1 F2 cs ds d1 d2 h1 h2 hv, Result.andThen_ok, Sem.run_pure]
    exact hK _ _ hk
end
end
section
open Go.RowKit

def chunks : Nat → List UInt8 → List (List UInt8)
  | 0, _ => []
  | n + 1, B => B.take 16 :: chunks n (B.drop 16)
theorem chunks_length : ∀ n B, (chunks n B).length = n
  | 0, _ => rfl
  | n + 1, B => by rw [chunks, List.length_cons, chunks_length]
theorem chunks_holds {w : World} {F : Fp} : ∀ (n : Nat) (B : List UInt8), B.length = 16 * n → AllH (PieceT.holds w F) (bv B) (chunks n B)
  | 0, B, h => by
    obtain rfl : B = [] := List.eq_nil_of_length_eq_zero (by omega)
    rfl
  | n + 1, B, h => by
    refine ⟨bv (B.take 16), bv (B.drop 16), by rw [← bv_append, List.take_append_drop], ⟨by show (B.take 16).length = 16; rw [List.length_take]; omega, AllH.bytes.2 rfl⟩, chunks_holds n (B.drop 16) (by rw [List.length_drop]; omega)⟩
theorem sig_holds (S : List UInt8) (hS : S.length = 1024) (w : World) (F : Fp) : SigT.holds w F (bv S) (chunks 32 (S.take 512), chunks 32 (S.drop 512), ()) := by
  refine ⟨bv (S.take 512), bv (S.drop 512), by rw [← bv_append, List.take_append_drop], ⟨chunks_length _ _, chunks_holds 32 _ (by rw [List.length_take]; omega)⟩, bv (S.drop 512), [], by rw [List.append_nil], ⟨chunks_length _ _, chunks_holds 32 _ (by rw [List.length_drop]; omega)⟩, rfl⟩
theorem rsig_fits : (SigT.eqFits Try.prog).1 38 = true := by kernel_rfl
theorem rsig_same (S : List UInt8) (hS : S.length = 1024) : (∀ (x y : Operand) (w : World), (eqGuard .eql 38 x y (.agg (bv S).toArray) (.agg (bv S).toArray)).run Try.prog w = .ok () w) ∧ ∀ w, (binOp .eql 38 (.agg (bv S).toArray) (.agg (bv S).toArray)).run Try.prog w = .ok (.bool true) w :=
  ⟨fun x y w => run_eqGuard w .eql 38 x y _ _ (.inl rfl) (by kernel_rfl), fun w => by
    obtain ⟨sg, hsg⟩ : ∃ sg : SigT.Data, ∀ (w : World) (F : Fp), SigT.holds w F (bv S) sg := ⟨_, fun w F => sig_holds S hS w F⟩
    have h := run_eqTy (P := Try.prog) SigT 38 rsig_fits (by decide) w w w (fun _ => False) (fun _ => False) (bv S) (bv S) sg sg (hsg w _) (hsg w _) (fun _ => rfl)
    have e : SigT.eqv sg sg = true := (Ty.eqv_iff SigT rfl sg sg).2 rfl
    rw [e] at h
    exact h⟩
theorem tabs_one : ∀ u ∈ tabsC, u.oneCell' = true := by
  intro u hu
  rcases List.mem_cons.1 hu with rfl | hu
  · rfl
  · obtain rfl : u = .string tabRounds := by simpa using hu
    rfl
set_option maxRecDepth 100000 in
set_option maxHeartbeats 8000000 in
theorem Signs (seed : List UInt8) (hs : seed.length = 32) (n : Nat) (hn : (Lit.int .u32 (n : Int)).wf = true) (d : List UInt8) (hd : d.length = 32) (w : World) :
    Calls Try.prog 3 #[.agg (bv seed).toArray, .int .u32 (n : Int), .agg (bv d).toArray] w fun e w' => e = .returned (.bool true) ∧ Ext w w' := by
  have hn32 : n < 4294967296 := by have := bounds_u32 hn; omega
  have hsl : (bv seed).length = 32 := by rw [bv_length]; exact hs
  have hdl : (bv d).length = 32 := by rw [bv_length]; exact hd
  have hnew := fun W => NewKey seed hs n W
  have hlf := fun W => KLeaf seed hs n hn W
  have hrl := fun W => RLeaf seed hs n hn32 W
  have hsg := fun W => Sign seed hs n hn d hd W
  have hrs := fun W => RSign seed hs n hn32 d hd W
  have hfm := fun W => From04 (bv (signM seed n d)) W (by rw [bv_length, signM_length]) (bv_one _)
  have hmk := fun W => Ref_Make W
  have htb : (#[Value.string tabFirst, Value.string tabRounds] : Array Value) = tabsC.toArray := rfl
  rw [htb] at hmk
  have heq := eqD_self (leafM seed n) (leafOf_length _)
  have hes := rsig_same (signM seed n d) (signM_length _ _ _)
  have hts : (Try.prog.info? 25).map (·.size) = some tabsC.length := tabs_size rfl
  obtain ⟨ZT, hzt, hztl⟩ : ∃ ZT : List Value, (Try.prog.info? 25).bind (fun i => i.zero.map (·.cells)) = some ZT.toArray ∧ tabsC.length = ZT.length := ⟨_, tables_zero, rfl⟩
  obtain ⟨ZK, hzk, hzkl⟩ : ∃ ZK : List Value, (Try.prog.info? 28).bind (fun i => i.zero.map (·.cells)) = some ZK.toArray ∧ ZK.length = 33 := ⟨_, key_zero, keyC_len (by simp) 0⟩
  have hkl := keyC_len hs n
  have hko := keyC_one seed n
  have hto := tabs_one
  generalize tabsC = TB at *
  generalize bv (leafM seed n) = LF at *
  generalize bv (signM seed n d) = SG at *
  generalize keyC seed n = KC at *
  have hb0 : Blk ((w.alloc (.cells (bv seed).toArray 22)).alloc (.cells (bv d).toArray 22)) w.heap.size 22 (bv seed) := (Blk.new _ _ _).keep ((Ext.refl _).alloc _) (by simp)
  have hb1 : Blk ((w.alloc (.cells (bv seed).toArray 22)).alloc (.cells (bv d).toArray 22)) (w.heap.size + 1) 22 (bv d) := Blk.fresh (by simp) _ _
  have hx0 : Ext w ((w.alloc (.cells (bv seed).toArray 22)).alloc (.cells (bv d).toArray 22)) := ((Ext.refl w).alloc _).alloc _
  generalize bv seed = SC at *
  generalize bv d = DC at *
  have HB0r := Lib.hid hb0
  have HB1r := Lib.hid hb1
  have HX0 := Lib.hid hx0
  have HSL := Lib.hid hsl
  have HDL := Lib.hid hdl
  have HNEW := Lib.hid hnew
  have HLF := Lib.hid hlf
  have HRL := Lib.hid hrl
  have HSG := Lib.hid hsg
  have HRS := Lib.hid hrs
  have HFM := Lib.hid hfm
  have HMK := Lib.hid hmk
  have HEQ := Lib.hid heq
  have HES := Lib.hid hes
  have HTS := Lib.hid hts
  have HZTL := Lib.hid hztl
  have HZKL := Lib.hid hzkl
  have HKL := Lib.hid hkl
  clear hb0 hb1 hx0 hsl hdl hnew hlf hrl hsg hrs hfm hmk heq hes hts hztl hzkl hkl htb hn32
  go_enter Try.func3, Try.ntmps3
  go_wp2_with fail
  refine (HMK.out _).mono ?_
  rintro e w1 ⟨rfl, hx1⟩
  have hx2 := hx1.alloc (.cells TB.toArray 25)
  have hc0 := (HB0r.out.keep hx2 (by simp)).cells
  go_wp2_with (first
    | (refine wpList_alloc _ rfl 25 rfl _ hzt ?_)
    | (refine wpList_store_new _ rfl 25 (.tmp 7) (.tmp 9) rfl rfl ZT TB _ rfl HTS.out HZTL.out hto ?_)
    | (refine wpList_load_agg _ rfl 22 (.tmp 3) rfl _ rfl SC _ Try.underlying22 rfl (arr_size HSL.out) hc0 ?_)
    | fail)
  refine (HNEW.out _).mono ?_
  rintro e w3 ⟨rfl, hx3⟩
  have hx4 : Ext (w1.alloc (.cells TB.toArray 25)) (w3.alloc (.cells KC.toArray 28)).drew := (hx3.alloc _).trans (Ext.refl _).drew
  have HB0 := Lib.hid ((HB0r.out.keep hx2 (by simp)).keep hx4 (by simp))
  have HB1 := Lib.hid ((HB1r.out.keep hx2 (by simp)).keep hx4 (by simp))
  have HB2 := Lib.hid ((Blk.new w1 25 TB).keep hx4 (by simp))
  have HB3 := Lib.hid ((Blk.new w3 28 KC).keep (Ext.refl _).drew (by simp))
  have HX5 := Lib.hid (HX0.out.trans (hx2.trans hx4))
  clear hx1 hx2 hx3 hx4 hc0 HB0r HB1r HX0
  go_wp2_with (first
    | (refine wpList_alloc _ rfl 28 rfl _ hzk ?_)
    | (refine wpList_store_new _ rfl 28 (.tmp 8) (.tmp 12) rfl rfl ZK KC _ rfl (key_size HKL.out) (by rw [HKL.out, HZKL.out]) hko ?_)
    | fail)
  refine stab_plain Ext ext_refl ext_trans [[0], [0, 1], [0, 1, 2], [0, 1, 2, 3], [0, 1, 4], [0, 1, 5], [0, 1, 6], [0, 1, 2, 3, 4, 5, 6, 7], [0, 1, 2, 3, 4, 5, 6, 7, 8], [0, 1, 2, 3, 4, 5, 6, 7, 8, 9], [0, 1, 2, 3, 4, 5, 6, 7, 8, 9, 10], [0, 1, 2, 3, 4, 5, 6, 7, 8, 9, 10, 11], [0, 1, 2, 3, 4, 5, 6, 7, 8, 9, 10, 12], [0, 1, 2, 3, 4, 5, 6, 7, 8, 9, 10, 11, 12, 13], [0, 1, 2, 3, 4, 5, 6, 7, 8, 9, 10, 11, 12, 13, 14], [0, 1, 2, 3, 4, 5, 6, 7, 8, 9, 10, 15], [0, 1, 2, 3, 4, 5, 6, 7, 8, 9, 10, 16], [0, 1, 2, 3, 4, 5, 6, 7, 8, 9, 10, 17], [0, 1, 2, 3, 4, 5, 6, 7, 8, 9, 10, 18], [0, 1, 2, 3, 4, 5, 6, 7, 8, 9, 10, 11, 12, 13, 14, 15, 16, 17, 18, 19], [0, 1, 2, 3, 4, 5, 6, 7, 8, 9, 10, 11, 12, 13, 14, 15, 16, 17, 18, 19, 20], [0, 1, 2, 3, 4, 5, 6, 7, 8, 9, 10, 11, 12, 13, 14, 15, 16, 17, 18, 19, 20, 21], [0, 1, 2, 3, 4, 5, 6, 7, 8, 9, 10, 11, 12, 13, 14, 15, 16, 17, 18, 19, 20, 21, 22]] (fun i v wv => match i with | 0 => v = .bool true | 1 => v = .bool true | 2 => v = .agg KC.toArray | 3 => v = .agg LF.toArray | 4 => v = .agg TB.toArray | 5 => v = .agg SC.toArray | 6 => v = .int .u32 (n : Int) | 7 => v = .agg LF.toArray | 8 => v = .bool true | 9 => v = .bool true | 10 => v = .bool true | 11 => v = .agg KC.toArray | 12 => v = .agg DC.toArray | 13 => v = .agg SG.toArray | 14 => v = .agg SG.toArray | 15 => v = .agg TB.toArray | 16 => v = .agg SC.toArray | 17 => v = .int .u32 (n : Int) | 18 => v = .agg DC.toArray | 19 => v = .agg SG.toArray | 20 => v = .bool true | 21 => v = .bool true | 22 => v = .bool true | _ => True) (by kernel_rfl) (by kernel_rfl) (by kernel_rfl) ?_ ?_ ?_
  · intro i v w1 w2 h hx
    match i, h with
    | 0, h => exact h
    | 1, h => exact h
    | 2, h => exact h
    | 3, h => exact h
    | 4, h => exact h
    | 5, h => exact h
    | 6, h => exact h
    | 7, h => exact h
    | 8, h => exact h
    | 9, h => exact h
    | 10, h => exact h
    | 11, h => exact h
    | 12, h => exact h
    | 13, h => exact h
    | 14, h => exact h
    | 15, h => exact h
    | 16, h => exact h
    | 17, h => exact h
    | 18, h => exact h
    | 19, h => exact h
    | 20, h => exact h
    | 21, h => exact h
    | 22, h => exact h
    | i + 23, h => trivial
  · intro i hi o ho
    match i, hi, ho with
    | 0, _, ho =>
      obtain rfl := Option.some.inj ho
      intro s W hX hd K hK
      rw [if_pos (wanted_plain rfl)]
      clear hd
      replace hK : ∀ (v : Value) (W' : World), Ext W W' → (v = .bool true) → _ := hK
      simp only [mkOf, List.map_cons, List.map_nil, Act.put, List.setIfInBounds_toArray, List.set_cons_succ, List.set_cons_zero, Nat.reduceAdd, Nat.zero_add] at hK ⊢
      go_simp
      refine (LAwake _).mono ?_
      rintro e w' ⟨rfl, hx⟩
      exact hK _ _ hx rfl
    | 1, _, ho =>
      obtain rfl := Option.some.inj ho
      intro s W hX hd K hK
      rw [if_pos (wanted_plain rfl)]
      have d13 : (s 0) = .bool true := hd 0 (by decide) (by decide)
      clear hd
      replace hK : ∀ (v : Value) (W' : World), Ext W W' → (v = .bool true) → _ := hK
      simp only [mkOf, List.map_cons, List.map_nil, Act.put, List.setIfInBounds_toArray, List.set_cons_succ, List.set_cons_zero, Nat.reduceAdd, Nat.zero_add] at hK ⊢
      simp only [d13] at hK ⊢
      go_simp
      exact hK _ _ (Ext.refl _) rfl
    | 2, _, ho =>
      obtain rfl := Option.some.inj ho
      intro s W hX hd K hK
      have d14 : (s 1) = .bool true := hd 1 (by decide) (by decide)
      clear hd
      replace hK : ∀ (v : Value) (W' : World), Ext W W' → (v = .agg KC.toArray) → _ := hK
      simp only [mkOf, List.map_cons, List.map_nil, Act.put, List.setIfInBounds_toArray, List.set_cons_succ, List.set_cons_zero, Nat.reduceAdd, Nat.zero_add] at hK ⊢
      simp only [d14] at hK ⊢
      rw [if_pos (by kernel_rfl)]
      refine wp_load_agg 28 (.tmp 8) rfl _ rfl KC _ Try.underlying28 rfl (key_size HKL.out) (HB3.out.keep hX (by simp)).cells ?_
      exact hK _ _ (Ext.refl _) rfl
    | 3, _, ho =>
      obtain rfl := Option.some.inj ho
      intro s W hX hd K hK
      have d14 : (s 1) = .bool true := hd 1 (by decide) (by decide)
      have d15 : (s 2) = .agg KC.toArray := hd 2 (by decide) (by decide)
      clear hd
      replace hK : ∀ (v : Value) (W' : World), Ext W W' → (v = .agg LF.toArray) → _ := hK
      simp only [mkOf, List.map_cons, List.map_nil, Act.put, List.setIfInBounds_toArray, List.set_cons_succ, List.set_cons_zero, Nat.reduceAdd, Nat.zero_add] at hK ⊢
      simp only [d14, d15] at hK ⊢
      rw [if_pos (by kernel_rfl)]
      go_simp
      refine (HLF.out _).mono ?_
      rintro e w' ⟨rfl, hx⟩
      exact hK _ _ hx rfl
    | 4, _, ho =>
      obtain rfl := Option.some.inj ho
      intro s W hX hd K hK
      have d14 : (s 1) = .bool true := hd 1 (by decide) (by decide)
      clear hd
      replace hK : ∀ (v : Value) (W' : World), Ext W W' → (v = .agg TB.toArray) → _ := hK
      simp only [mkOf, List.map_cons, List.map_nil, Act.put, List.setIfInBounds_toArray, List.set_cons_succ, List.set_cons_zero, Nat.reduceAdd, Nat.zero_add] at hK ⊢
      simp only [d14] at hK ⊢
      rw [if_pos (by kernel_rfl)]
      refine wp_load_agg 25 (.tmp 7) rfl _ rfl TB _ Try.underlying25 rfl (HTS.out) (HB2.out.keep hX (by simp)).cells ?_
      exact hK _ _ (Ext.refl _) rfl
    | 5, _, ho =>
      obtain rfl := Option.some.inj ho
      intro s W hX hd K hK
      have d14 : (s 1) = .bool true := hd 1 (by decide) (by decide)
      clear hd
      replace hK : ∀ (v : Value) (W' : World), Ext W W' → (v = .agg SC.toArray) → _ := hK
      simp only [mkOf, List.map_cons, List.map_nil, Act.put, List.setIfInBounds_toArray, List.set_cons_succ, List.set_cons_zero, Nat.reduceAdd, Nat.zero_add] at hK ⊢
      simp only [d14] at hK ⊢
      rw [if_pos (by kernel_rfl)]
      refine wp_load_agg 22 (.tmp 3) rfl _ rfl SC _ Try.underlying22 rfl (arr_size HSL.out) (HB0.out.keep hX (by simp)).cells ?_
      exact hK _ _ (Ext.refl _) rfl
    | 6, _, ho =>
      obtain rfl := Option.some.inj ho
      intro s W hX hd K hK
      have d14 : (s 1) = .bool true := hd 1 (by decide) (by decide)
      clear hd
      replace hK : ∀ (v : Value) (W' : World), Ext W W' → (v = .int .u32 (n : Int)) → _ := hK
      simp only [mkOf, List.map_cons, List.map_nil, Act.put, List.setIfInBounds_toArray, List.set_cons_succ, List.set_cons_zero, Nat.reduceAdd, Nat.zero_add] at hK ⊢
      simp only [d14] at hK ⊢
      rw [if_pos (by kernel_rfl)]
      go_simp
      exact hK _ _ (Ext.refl _) rfl
    | 7, _, ho =>
      obtain rfl := Option.some.inj ho
      intro s W hX hd K hK
      have d14 : (s 1) = .bool true := hd 1 (by decide) (by decide)
      have d17 : (s 4) = .agg TB.toArray := hd 4 (by decide) (by decide)
      have d18 : (s 5) = .agg SC.toArray := hd 5 (by decide) (by decide)
      have d19 : (s 6) = .int .u32 (n : Int) := hd 6 (by decide) (by decide)
      clear hd
      replace hK : ∀ (v : Value) (W' : World), Ext W W' → (v = .agg LF.toArray) → _ := hK
      simp only [mkOf, List.map_cons, List.map_nil, Act.put, List.setIfInBounds_toArray, List.set_cons_succ, List.set_cons_zero, Nat.reduceAdd, Nat.zero_add] at hK ⊢
      simp only [d14, d17, d18, d19] at hK ⊢
      rw [if_pos (by kernel_rfl)]
      go_simp
      refine (HRL.out _).mono ?_
      rintro e w' ⟨rfl, hx⟩
      exact hK _ _ hx rfl
    | 8, _, ho =>
      obtain rfl := Option.some.inj ho
      intro s W hX hd K hK
      have d14 : (s 1) = .bool true := hd 1 (by decide) (by decide)
      have d16 : (s 3) = .agg LF.toArray := hd 3 (by decide) (by decide)
      have d20 : (s 7) = .agg LF.toArray := hd 7 (by decide) (by decide)
      clear hd
      replace hK : ∀ (v : Value) (W' : World), Ext W W' → (v = .bool true) → _ := hK
      simp only [mkOf, List.map_cons, List.map_nil, Act.put, List.setIfInBounds_toArray, List.set_cons_succ, List.set_cons_zero, Nat.reduceAdd, Nat.zero_add] at hK ⊢
      simp only [d14, d16, d20] at hK ⊢
      rw [if_pos (by kernel_rfl)]
      refine wp_bin2 .eql 31 (.tmp 16) (.tmp 20) rfl _ _ rfl rfl (HEQ.out.1 _ _ W) (HEQ.out.2 W) ?_
      exact hK _ _ (Ext.refl _) rfl
    | 9, _, ho =>
      obtain rfl := Option.some.inj ho
      intro s W hX hd K hK
      rw [if_pos (wanted_plain rfl)]
      have d14 : (s 1) = .bool true := hd 1 (by decide) (by decide)
      have d21 : (s 8) = .bool true := hd 8 (by decide) (by decide)
      clear hd
      replace hK : ∀ (v : Value) (W' : World), Ext W W' → (v = .bool true) → _ := hK
      simp only [mkOf, List.map_cons, List.map_nil, Act.put, List.setIfInBounds_toArray, List.set_cons_succ, List.set_cons_zero, Nat.reduceAdd, Nat.zero_add] at hK ⊢
      simp only [d14, d21] at hK ⊢
      go_simp
      exact hK _ _ (Ext.refl _) rfl
    | 10, _, ho =>
      obtain rfl := Option.some.inj ho
      intro s W hX hd K hK
      rw [if_pos (wanted_plain rfl)]
      have d22 : (s 9) = .bool true := hd 9 (by decide) (by decide)
      clear hd
      replace hK : ∀ (v : Value) (W' : World), Ext W W' → (v = .bool true) → _ := hK
      simp only [mkOf, List.map_cons, List.map_nil, Act.put, List.setIfInBounds_toArray, List.set_cons_succ, List.set_cons_zero, Nat.reduceAdd, Nat.zero_add] at hK ⊢
      simp only [d22] at hK ⊢
      go_simp
      exact hK _ _ (Ext.refl _) rfl
    | 11, _, ho =>
      obtain rfl := Option.some.inj ho
      intro s W hX hd K hK
      have d23 : (s 10) = .bool true := hd 10 (by decide) (by decide)
      clear hd
      replace hK : ∀ (v : Value) (W' : World), Ext W W' → (v = .agg KC.toArray) → _ := hK
      simp only [mkOf, List.map_cons, List.map_nil, Act.put, List.setIfInBounds_toArray, List.set_cons_succ, List.set_cons_zero, Nat.reduceAdd, Nat.zero_add] at hK ⊢
      simp only [d23] at hK ⊢
      rw [if_pos (by kernel_rfl)]
      refine wp_load_agg 28 (.tmp 8) rfl _ rfl KC _ Try.underlying28 rfl (key_size HKL.out) (HB3.out.keep hX (by simp)).cells ?_
      exact hK _ _ (Ext.refl _) rfl
    | 12, _, ho =>
      obtain rfl := Option.some.inj ho
      intro s W hX hd K hK
      have d23 : (s 10) = .bool true := hd 10 (by decide) (by decide)
      clear hd
      replace hK : ∀ (v : Value) (W' : World), Ext W W' → (v = .agg DC.toArray) → _ := hK
      simp only [mkOf, List.map_cons, List.map_nil, Act.put, List.setIfInBounds_toArray, List.set_cons_succ, List.set_cons_zero, Nat.reduceAdd, Nat.zero_add] at hK ⊢
      simp only [d23] at hK ⊢
      rw [if_pos (by kernel_rfl)]
      refine wp_load_agg 22 (.tmp 5) rfl _ rfl DC _ Try.underlying22 rfl (arr_size HDL.out) (HB1.out.keep hX (by simp)).cells ?_
      exact hK _ _ (Ext.refl _) rfl
    | 13, _, ho =>
      obtain rfl := Option.some.inj ho
      intro s W hX hd K hK
      have d23 : (s 10) = .bool true := hd 10 (by decide) (by decide)
      have d24 : (s 11) = .agg KC.toArray := hd 11 (by decide) (by decide)
      have d25 : (s 12) = .agg DC.toArray := hd 12 (by decide) (by decide)
      clear hd
      replace hK : ∀ (v : Value) (W' : World), Ext W W' → (v = .agg SG.toArray) → _ := hK
      simp only [mkOf, List.map_cons, List.map_nil, Act.put, List.setIfInBounds_toArray, List.set_cons_succ, List.set_cons_zero, Nat.reduceAdd, Nat.zero_add] at hK ⊢
      simp only [d23, d24, d25] at hK ⊢
      rw [if_pos (by kernel_rfl)]
      go_simp
      refine (HSG.out _).mono ?_
      rintro e w' ⟨rfl, hx⟩
      exact hK _ _ hx rfl
    | 14, _, ho =>
      obtain rfl := Option.some.inj ho
      intro s W hX hd K hK
      have d23 : (s 10) = .bool true := hd 10 (by decide) (by decide)
      have d26 : (s 13) = .agg SG.toArray := hd 13 (by decide) (by decide)
      clear hd
      replace hK : ∀ (v : Value) (W' : World), Ext W W' → (v = .agg SG.toArray) → _ := hK
      simp only [mkOf, List.map_cons, List.map_nil, Act.put, List.setIfInBounds_toArray, List.set_cons_succ, List.set_cons_zero, Nat.reduceAdd, Nat.zero_add] at hK ⊢
      simp only [d23, d26] at hK ⊢
      rw [if_pos (by kernel_rfl)]
      go_simp
      refine (HFM.out _).mono ?_
      rintro e w' ⟨rfl, hx⟩
      exact hK _ _ hx rfl
    | 15, _, ho =>
      obtain rfl := Option.some.inj ho
      intro s W hX hd K hK
      have d23 : (s 10) = .bool true := hd 10 (by decide) (by decide)
      clear hd
      replace hK : ∀ (v : Value) (W' : World), Ext W W' → (v = .agg TB.toArray) → _ := hK
      simp only [mkOf, List.map_cons, List.map_nil, Act.put, List.setIfInBounds_toArray, List.set_cons_succ, List.set_cons_zero, Nat.reduceAdd, Nat.zero_add] at hK ⊢
      simp only [d23] at hK ⊢
      rw [if_pos (by kernel_rfl)]
      refine wp_load_agg 25 (.tmp 7) rfl _ rfl TB _ Try.underlying25 rfl (HTS.out) (HB2.out.keep hX (by simp)).cells ?_
      exact hK _ _ (Ext.refl _) rfl
    | 16, _, ho =>
      obtain rfl := Option.some.inj ho
      intro s W hX hd K hK
      have d23 : (s 10) = .bool true := hd 10 (by decide) (by decide)
      clear hd
      replace hK : ∀ (v : Value) (W' : World), Ext W W' → (v = .agg SC.toArray) → _ := hK
      simp only [mkOf, List.map_cons, List.map_nil, Act.put, List.setIfInBounds_toArray, List.set_cons_succ, List.set_cons_zero, Nat.reduceAdd, Nat.zero_add] at hK ⊢
      simp only [d23] at hK ⊢
      rw [if_pos (by kernel_rfl)]
      refine wp_load_agg 22 (.tmp 3) rfl _ rfl SC _ Try.underlying22 rfl (arr_size HSL.out) (HB0.out.keep hX (by simp)).cells ?_
      exact hK _ _ (Ext.refl _) rfl
    | 17, _, ho =>
      obtain rfl := Option.some.inj ho
      intro s W hX hd K hK
      have d23 : (s 10) = .bool true := hd 10 (by decide) (by decide)
      clear hd
      replace hK : ∀ (v : Value) (W' : World), Ext W W' → (v = .int .u32 (n : Int)) → _ := hK
      simp only [mkOf, List.map_cons, List.map_nil, Act.put, List.setIfInBounds_toArray, List.set_cons_succ, List.set_cons_zero, Nat.reduceAdd, Nat.zero_add] at hK ⊢
      simp only [d23] at hK ⊢
      rw [if_pos (by kernel_rfl)]
      go_simp
      exact hK _ _ (Ext.refl _) rfl
    | 18, _, ho =>
      obtain rfl := Option.some.inj ho
      intro s W hX hd K hK
      have d23 : (s 10) = .bool true := hd 10 (by decide) (by decide)
      clear hd
      replace hK : ∀ (v : Value) (W' : World), Ext W W' → (v = .agg DC.toArray) → _ := hK
      simp only [mkOf, List.map_cons, List.map_nil, Act.put, List.setIfInBounds_toArray, List.set_cons_succ, List.set_cons_zero, Nat.reduceAdd, Nat.zero_add] at hK ⊢
      simp only [d23] at hK ⊢
      rw [if_pos (by kernel_rfl)]
      refine wp_load_agg 22 (.tmp 5) rfl _ rfl DC _ Try.underlying22 rfl (arr_size HDL.out) (HB1.out.keep hX (by simp)).cells ?_
      exact hK _ _ (Ext.refl _) rfl
    | 19, _, ho =>
      obtain rfl := Option.some.inj ho
      intro s W hX hd K hK
      have d23 : (s 10) = .bool true := hd 10 (by decide) (by decide)
      have d28 : (s 15) = .agg TB.toArray := hd 15 (by decide) (by decide)
      have d29 : (s 16) = .agg SC.toArray := hd 16 (by decide) (by decide)
      have d30 : (s 17) = .int .u32 (n : Int) := hd 17 (by decide) (by decide)
      have d31 : (s 18) = .agg DC.toArray := hd 18 (by decide) (by decide)
      clear hd
      replace hK : ∀ (v : Value) (W' : World), Ext W W' → (v = .agg SG.toArray) → _ := hK
      simp only [mkOf, List.map_cons, List.map_nil, Act.put, List.setIfInBounds_toArray, List.set_cons_succ, List.set_cons_zero, Nat.reduceAdd, Nat.zero_add] at hK ⊢
      simp only [d23, d28, d29, d30, d31] at hK ⊢
      rw [if_pos (by kernel_rfl)]
      go_simp
      refine (HRS.out _).mono ?_
      rintro e w' ⟨rfl, hx⟩
      exact hK _ _ hx rfl
    | 20, _, ho =>
      obtain rfl := Option.some.inj ho
      intro s W hX hd K hK
      have d23 : (s 10) = .bool true := hd 10 (by decide) (by decide)
      have d27 : (s 14) = .agg SG.toArray := hd 14 (by decide) (by decide)
      have d32 : (s 19) = .agg SG.toArray := hd 19 (by decide) (by decide)
      clear hd
      replace hK : ∀ (v : Value) (W' : World), Ext W W' → (v = .bool true) → _ := hK
      simp only [mkOf, List.map_cons, List.map_nil, Act.put, List.setIfInBounds_toArray, List.set_cons_succ, List.set_cons_zero, Nat.reduceAdd, Nat.zero_add] at hK ⊢
      simp only [d23, d27, d32] at hK ⊢
      rw [if_pos (by kernel_rfl)]
      refine wp_bin2 .eql 38 (.tmp 27) (.tmp 32) rfl _ _ rfl rfl (HES.out.1 _ _ W) (HES.out.2 W) ?_
      exact hK _ _ (Ext.refl _) rfl
    | 21, _, ho =>
      obtain rfl := Option.some.inj ho
      intro s W hX hd K hK
      rw [if_pos (wanted_plain rfl)]
      have d23 : (s 10) = .bool true := hd 10 (by decide) (by decide)
      have d33 : (s 20) = .bool true := hd 20 (by decide) (by decide)
      clear hd
      replace hK : ∀ (v : Value) (W' : World), Ext W W' → (v = .bool true) → _ := hK
      simp only [mkOf, List.map_cons, List.map_nil, Act.put, List.setIfInBounds_toArray, List.set_cons_succ, List.set_cons_zero, Nat.reduceAdd, Nat.zero_add] at hK ⊢
      simp only [d23, d33] at hK ⊢
      go_simp
      exact hK _ _ (Ext.refl _) rfl
    | 22, _, ho =>
      obtain rfl := Option.some.inj ho
      intro s W hX hd K hK
      rw [if_pos (wanted_plain rfl)]
      have d34 : (s 21) = .bool true := hd 21 (by decide) (by decide)
      clear hd
      replace hK : ∀ (v : Value) (W' : World), Ext W W' → (v = .bool true) → _ := hK
      simp only [mkOf, List.map_cons, List.map_nil, Act.put, List.setIfInBounds_toArray, List.set_cons_succ, List.set_cons_zero, Nat.reduceAdd, Nat.zero_add] at hK ⊢
      simp only [d34] at hK ⊢
      go_simp
      exact hK _ _ (Ext.refl _) rfl
    | i + 23, hi, _ => exact absurd hi (by simp)
  · intro s W hX hd
    have d13 : (s 0) = .bool true := hd 0 (by decide)
    have d14 : (s 1) = .bool true := hd 1 (by decide)
    have d15 : (s 2) = .agg KC.toArray := hd 2 (by decide)
    have d16 : (s 3) = .agg LF.toArray := hd 3 (by decide)
    have d17 : (s 4) = .agg TB.toArray := hd 4 (by decide)
    have d18 : (s 5) = .agg SC.toArray := hd 5 (by decide)
    have d19 : (s 6) = .int .u32 (n : Int) := hd 6 (by decide)
    have d20 : (s 7) = .agg LF.toArray := hd 7 (by decide)
    have d21 : (s 8) = .bool true := hd 8 (by decide)
    have d22 : (s 9) = .bool true := hd 9 (by decide)
    have d23 : (s 10) = .bool true := hd 10 (by decide)
    have d24 : (s 11) = .agg KC.toArray := hd 11 (by decide)
    have d25 : (s 12) = .agg DC.toArray := hd 12 (by decide)
    have d26 : (s 13) = .agg SG.toArray := hd 13 (by decide)
    have d27 : (s 14) = .agg SG.toArray := hd 14 (by decide)
    have d28 : (s 15) = .agg TB.toArray := hd 15 (by decide)
    have d29 : (s 16) = .agg SC.toArray := hd 16 (by decide)
    have d30 : (s 17) = .int .u32 (n : Int) := hd 17 (by decide)
    have d31 : (s 18) = .agg DC.toArray := hd 18 (by decide)
    have d32 : (s 19) = .agg SG.toArray := hd 19 (by decide)
    have d33 : (s 20) = .bool true := hd 20 (by decide)
    have d34 : (s 21) = .bool true := hd 21 (by decide)
    have d6 : (s 22) = .bool true := hd 22 (by decide)
    clear hd
    simp only [mkOf, List.map_cons, List.map_nil, Act.put, List.setIfInBounds_toArray, List.set_cons_succ, List.set_cons_zero, Nat.reduceAdd, Nat.zero_add]
    (try simp only [Exit.then])
    go_wp2_with fail
    go_ret
    exact ⟨by simp [d6], HX5.out.trans hX⟩
end
section
open Go.RowKit

def GrB (g : Nat) (w w' : World) : Prop := w.grownBy w' (some g)
theorem GrB.of {g : Nat} {w w' : World} (h : GrB g w w') : w.grownBy w' (some g) := h
theorem GrB.rf (g : Nat) (a : World) : GrB g a a := World.grownBy.refl _ _
theorem GrB.tr (g : Nat) (a b c : World) (h : GrB g a b) (k : GrB g b c) : GrB g a c := World.grownBy.trans h k
section
variable {P : Program} {md : Region.Mode} {ops : Array Oper} {Q : Exit → Act → World → Prop} {B : Nat}
theorem takeG (i : Nat) {oi : Oper} {fuel : Nat} {listed : Array Bool} {a : Act} {w : World} (hi : (ops.toList.drop i).head? = some oi)
    (hs : Region.noSelect ops = true) (hf : Region.free md ops listed i = true) (hr : (Region.ready md ops listed).contains i = true) (hc : valB oi.op = true)
    (hQ : ∀ v c a w, Q (.panic c) (a.put oi.dst v) w → Q (.panic c) a w) (hw : Region.wanted oi (yielded ops a.tmps) = true)
    (h : ∀ K : Act → Prop, (∀ a', wpAnyM P md ops Q (GrB B) fuel (listed.setIfInBounds i true) a' w → K a') → oi.quiet P a (GrB B w) K) : wpAnyM P md ops Q (GrB B) (fuel + 1) listed a w :=
  takeM (GrB.rf B) (GrB.tr B) i (op_at hi) hs hf hr hQ hw fun K hK => quiet_val hc (h K hK)
theorem skipG (i : Nat) {oi : Oper} {fuel : Nat} {listed : Array Bool} {a : Act} {w : World} (hi : (ops.toList.drop i).head? = some oi)
    (hs : Region.noSelect ops = true) (hf : Region.free md ops listed i = true) (hr : (Region.ready md ops listed).contains i = true)
    (hQ : ∀ v c a w, Q (.panic c) (a.put oi.dst v) w → Q (.panic c) a w) (hw : Region.wanted oi (yielded ops a.tmps) = false)
    (h : wpAnyM P md ops Q (GrB B) fuel (listed.setIfInBounds i true) (a.put oi.dst undef) w) : wpAnyM P md ops Q (GrB B) (fuel + 1) listed a w :=
  skipM (GrB.rf B) (GrB.tr B) i (op_at hi) hs hf hr hQ hw h
theorem nilG (i : Nat) {oi : Oper} {fuel : Nat} {listed : Array Bool} {a : Act} {w : World} (hi : (ops.toList.drop i).head? = some oi)
    (hs : Region.noSelect ops = true) (hf : Region.free md ops listed i = true) (hr : (Region.ready md ops listed).contains i = true) (x : Operand) (ho : oi.op = .nilCheck x) (ad : Addr) (hx : a.eval x = .pointer (some ad))
    (hQ : ∀ v c a w, Q (.panic c) (a.put oi.dst v) w → Q (.panic c) a w) (hw : Region.wanted oi (yielded ops a.tmps) = true)
    (h : wpAnyM P md ops Q (GrB B) fuel (listed.setIfInBounds i true) (a.put oi.dst (.pointer (some ad))) w) : wpAnyM P md ops Q (GrB B) (fuel + 1) listed a w :=
  takeM (GrB.rf B) (GrB.tr B) i (op_at hi) hs hf hr hQ hw fun K hK => ⟨_, fun w' _ => by unfold execOp; simp only [ho, hx]; rfl, hK _ h⟩
end
section
variable {P : Program} {C : World → Prop} {o : Oper} {a : Act} {K : Act → Prop}
/-- A comparison whose run is known. -/
theorem quiet_bin2 (op : BinOp) (t : TypeId) {t' : TypeId} (x y : Operand) (ho : o.op = .binOp op t x y t') (u v : Value) {r : Value} (hx : a.eval x = u) (hy : a.eval y = v)
    (hg : ∀ w, (eqGuard op t x y u v).run P w = .ok () w) (hb : ∀ w, (binOp op t u v).run P w = .ok r w) (hk : K (a.put o.dst r)) : o.quiet P a C K :=
  quiet_run r (fun w _ => by
    unfold execOp
    simp only [ho, hx, hy, Sem.run_bind, hg, hb, Result.andThen_ok, Sem.run_pure]) hk
end
end
section
open Go.RowKit

theorem rin_zero : (Try.prog.info? 67).bind (fun i => i.zero.map (·.cells)) = some [Value.slice none 0 0, .int .i64 0, .int .i64 0].toArray := by kernel_rfl
theorem eq_guard_int {P : Program} (t : TypeId) (x y : Operand) (k : IntKind) (a b : Int) (w : World) : (eqGuard .eql t x y (.int k a) (.int k b)).run P w = .ok () w := rfl
theorem eq_true_int {P : Program} (t : TypeId) (k : IntKind) (a : Int) (w : World) : (binOp .eql t (.int k a) (.int k a)).run P w = .ok (.bool true) w := by simp [binOp, Op.intCmp]
theorem eq_guard_str {P : Program} (t : TypeId) (x y : Operand) (a b : ByteArray) (w : World) : (eqGuard .eql t x y (.string a) (.string b)).run P w = .ok () w := rfl
theorem eq_true_str {P : Program} (t : TypeId) (a : ByteArray) (w : World) : (binOp .eql t (.string a) (.string a)).run P w = .ok (.bool true) w := by simp [binOp, Op.stringOp]
theorem srcN9 {w : World} {A : Option Addr} {n c : Nat} {bs : List UInt8} (h : OwnB w (.slice A n c) bs) (hn : bs.length = n) : Src w A n (bv bs) := by subst hn; exact OwnB.src h
theorem own_some {w : World} {v : Value} {bs : List UInt8} (h : OwnB w v bs) (hn : bs.length ≠ 0) : ∃ g c, v = .slice (some ⟨g, 0, none⟩) bs.length c := by
  rcases h.2 with ⟨rfl, h0⟩ | ⟨g, cap, cur, rfl, _⟩
  · exact absurd h0 hn
  · exact ⟨_, _, rfl⟩
theorem BLay (S : List UInt8) (hS : S.length = 1024) (hll : (layS S 32).length = 1024) : ∀ W0 : World, Calls Try.prog 21 #[.agg (bv S).toArray, .slice (some ⟨W0.heap.size, 0, none⟩) 1 1] (W0.alloc (.cells #[.int .u8 7] 5)) fun e w' => ∃ b c, e = .returned (.slice (some ⟨b, 0, none⟩) 1025 c) ∧ OwnB w' (.slice (some ⟨b, 0, none⟩) 1025 c) (7 :: layS S 32) ∧ Ext W0 w' := by
  intro W0
  have hcall := Lamp_Lay S _ [7] _ hS (own_one (w := W0) 7) (by simp)
  generalize layS S 32 = Ls at *
  refine hcall.mono ?_
  rintro e w' ⟨v', rfl, ho', hm⟩
  obtain ⟨b, c, rfl⟩ := own_some ho' (by simp)
  have hl : ([7] ++ Ls).length = 1025 := by simp [hll]
  rw [hl] at ho' hm ⊢
  exact ⟨b, c, rfl, ho', grown_then ((Ext.refl W0).alloc _) hm.grown (.inr (by intro g hg; simp [Value.ownBlock] at hg; omega))⟩
theorem BRLay (S : List UInt8) (hS : S.length = 1024) (hll : (layS S 32).length = 1024) : ∀ W v, OwnB W v [7] → Calls Try.prog 28 #[v, .agg (bv S).toArray] W fun e w' => ∃ b c, e = .returned (.slice (some ⟨b, 0, none⟩) 1025 c) ∧ OwnB w' (.slice (some ⟨b, 0, none⟩) 1025 c) (7 :: layS S 32) ∧ Ext W w' ∧ W.heap.size ≤ b := by
  intro W v ho
  have hcall := RLamp_Lay S v [7] W _ hS ho.holds ho.lt (by simp)
  generalize layS S 32 = Ls at *
  refine hcall.mono ?_
  rintro e w' ⟨v', rfl, ho', hx, hb⟩
  obtain ⟨b, c, rfl⟩ := own_some ho' (by simp)
  have hl : ([7] ++ Ls).length = 1025 := by simp [hll]
  rw [hl] at ho' hb ⊢
  exact ⟨b, c, rfl, ho', hx, hb b rfl⟩
theorem BTake (S : List UInt8) (hS : S.length = 1024) (hll : (layS S 32).length = 1024) : ∀ W g q, InAt W g q (layS S 32, 0) → Calls Try.prog 23 #[.pointer (some ⟨g, 0, none⟩)] W fun e w' => e = .returned (.agg (bv S).toArray) ∧ InAt w' g q ([], 0) ∧ W.grownBy w' (some g) := by
  intro W g q h
  have := Take W h
  rw [takeS_back S hS, state_back S hS] at this
  exact this
theorem BEnd (S : List UInt8) (hS : S.length = 1024) (hll : (layS S 32).length = 1024) : ∀ W g q, InAt W g q ([], 0) → Calls Try.prog 29 #[.pointer (some ⟨g, 0, none⟩)] W fun e w' => e = .returned (.int .i64 0) ∧ W.grownBy w' (some g) := by
  intro W g q h
  exact (In_End (h := h)).mono fun e w' ⟨h1, _, h3⟩ => ⟨h1, h3⟩
theorem BHolds (S : List UInt8) (hS : S.length = 1024) (hll : (layS S 32).length = 1024) : ∀ W A c, OwnB W (.slice A 1025 c) (7 :: layS S 32) → ∀ ad, A = some ad → (Ty.sl .u8).holds W (fun b => b = ad.block) [.slice (some (ad.add 1)) 1024 (c - 1)] (layS S 32) ∧ 1025 ≤ c := by
  generalize layS S 32 = Ls at *
  rintro W A c ho ad rfl
  obtain ⟨A', c', xs, hv, h1, h2, h3, h4, h5⟩ := ho.holds
  simp only [List.cons.injEq, Value.slice.injEq, and_true] at hv
  obtain ⟨rfl, _, rfl⟩ := hv
  obtain ⟨ad', hA, hF, hc⟩ := h4 (by simp)
  cases hA
  have h5' := AllH.bytes.1 h5
  have hlen : (7 :: Ls).length = 1025 := by simp [hll]
  rw [hlen] at h1
  refine ⟨⟨_, _, bv Ls, by rw [hll], by rw [hll]; omega, by omega, by simp, fun _ => ⟨_, rfl, add_block _ _, ?_⟩, AllH.bytes.2 rfl⟩, h1⟩
  have := hc.drop 1
  rw [h5'] at this
  exact this
set_option maxRecDepth 100000 in
set_option maxHeartbeats 8000000 in
theorem BytesShort (S : List UInt8) (hS : S.length = 1024) (A : Option Addr) (c : Nat) (B : List UInt8) (F : Fp) (w : World) (hh : (Ty.sl .u8).holds w F [.slice A B.length c] B) (hF : ∀ b, F b → b < w.heap.size) (hn : B.length ≤ 5000) :
    Calls Try.prog 7 #[.agg (bv S).toArray, .slice A B.length c] w fun e w' => e = .returned (.bool true) ∧ Ext w w' := by
  have hcl : (bv S).length = 1024 := by rw [bv_length]; exact hS
  have hx0 : Ext w (w.alloc (.cells (bv S).toArray 38)) := (Ext.refl w).alloc _
  have hb0 : Blk (w.alloc (.cells (bv S).toArray 38)) w.heap.size 38 (bv S) := Blk.new _ _ _
  have hof := In_Of _ B (w.alloc (.cells (bv S).toArray 38)) F (hx0.holds hF hh) (by omega)
  have hll : (layS S 32).length = 1024 := layS_len hS 32 (Nat.le_refl _)
  have hto := fun W => To04 (bv S) W hcl (bv_one S)
  have hfc := fun W => From04 (bv S) W hcl (bv_one S)
  have hec := rsig_same S hS
  have hly := BLay S hS hll
  have hrl := BRLay S hS hll
  have htb := BTake S hS hll
  have hend := BEnd S hS hll
  have hol := BHolds S hS hll
  have hll7 : (7 :: layS S 32).length = 1025 := by simp [hll]
  have hone7 := own_one (w := w) 7
  obtain ⟨L, hL⟩ : ∃ L, L = 7 :: layS S 32 := ⟨_, rfl⟩
  obtain ⟨L0, hL0⟩ : ∃ L0, L0 = layS S 32 := ⟨_, rfl⟩
  rw [← hL] at hly hrl hol hll7
  rw [← hL0] at htb hol hll
  clear hL hL0 hone7
  have HH := Lib.hid hh
  have HF := Lib.hid hF
  have HOF := Lib.hid hof
  have HX0 := Lib.hid hx0
  have HB0 := Lib.hid hb0
  have HLY := Lib.hid hly
  have HRL := Lib.hid hrl
  have HTB := Lib.hid htb
  have HEND := Lib.hid hend
  have HOL := Lib.hid hol
  have HLL := Lib.hid hll7
  have HL0 := Lib.hid hll
  have HTO := Lib.hid hto
  have HFC := Lib.hid hfc
  have HEC := Lib.hid hec
  have HCL := Lib.hid hcl
  clear hh hF hof hx0 hb0 hly hrl htb hend hol hll7 hll hto hfc hec hcl
  generalize bv S = C at *
  go_enter Try.func7, Try.ntmps7
  go_wp2_with fail
  refine HOF.out.mono ?_
  rintro e w1 ⟨g, q, rfl, hin, hx1, hg, hq⟩
  have hxr : Ext w1 (w1.alloc (.cells #[Value.slice A B.length c, .int .i64 0, .int .i64 0] 67)) := (Ext.refl w1).alloc _
  have hx01 := HX0.out.trans hx1
  have hg0 : w.heap.size < g := by have := hg; simp at this; omega
  have hrin : RIn (w1.alloc (.cells #[Value.slice A B.length c, .int .i64 0, .int .i64 0] 67)) w1.heap.size F (B, 0) :=
    ⟨A, c, B, 0, Blk.new w1 67 [Value.slice A B.length c, .int .i64 0, .int .i64 0], hxr.holds (fun b hb => Nat.lt_of_lt_of_le (HF.out b hb) hx01.size) (hx01.holds HF.out HH.out), Nat.zero_le _, fun _ => rfl, fun h => absurd rfl h, fun b hb => ⟨by have h1 := HF.out b hb; have h2 := hx01.size; simp; omega, by have h1 := HF.out b hb; have h2 := hx01.size; omega⟩, by omega, (show (Lit.int .i64 0).wf = true by decide)⟩
  have hin1 := hin.ext hxr
  have hgr1 : g < w1.heap.size ∧ q < w1.heap.size := ⟨hin.lt, by obtain ⟨_, h, _⟩ := hin; exact h⟩
  have hbx := (HB0.out.keep hx1 (by simp)).keep hxr (by simp)
  have HIN := Lib.hid hin1
  have HRIN := Lib.hid hrin
  have HBX := Lib.hid hbx
  have HX1 := Lib.hid (hx01.trans hxr)
  have HG0 := Lib.hid hg0
  have HGR := Lib.hid hgr1
  clear hin hx1 hg hq hxr hx01 hrin hin1 hbx hg0 hgr1
  go_wp2_with fail
  refine (Take _ HIN.out).mono ?_
  rintro e w2 ⟨rfl, hin2, hg2⟩
  have hrin2 := HRIN.out.keep hg2 (by have := HGR.out; simp; omega) (fun b hb => by have h1 := HF.out b hb; have h2 := HG0.out; simp; omega)
  have hrt := RTake hrin2
  have HRT := Lib.hid hrt
  have HIN2 := Lib.hid hin2
  have HBX2 := Lib.hid (HBX.out.keep hg2 (by have := HG0.out; simp; omega))
  have HX2 : Hid (Ext w w2) := Lib.hid (grown_then HX1.out hg2 (.inr (by rintro b ⟨⟩; exact Nat.le_of_lt HG0.out)))
  clear hin2 hg2 hrin2 hrt
  go_wp2_with fail
  refine HRT.out.mono ?_
  rintro e w3 ⟨rfl, hrin3, hg3⟩
  have hlt := HG0.out
  have hgq := HGR.out
  have HIN3 := Lib.hid (HIN2.out.keep hg3 (by simp only [Option.some.injEq, ne_eq]; omega) (by simp only [Option.some.injEq, ne_eq]; omega))
  have HBX3 := Lib.hid (HBX2.out.keep hg3 (by simp only [Option.some.injEq, ne_eq]; omega))
  have HX3 : Hid (Ext w w3) := Lib.hid (grown_then HX2.out hg3 (.inr (by rintro b ⟨⟩; omega)))
  have HRI3 := Lib.hid hrin3
  have hxl : (bv (takeS (B, 0))).length = 1024 := by rw [bv_length, takeS_length]
  have hxo := bv_one (takeS (B, 0))
  have hfm := fun W => From04 (bv (takeS (B, 0))) W hxl hxo
  have hex := rsig_same (takeS (B, 0)) (takeS_length _)
  generalize bv (takeS (B, 0)) = X at *
  generalize stT (B, 0) 32 = ST at *
  obtain ⟨ZA, hza, hzal⟩ : ∃ Z : List Value, (Try.prog.info? 43).bind (fun i => i.zero.map (·.cells)) = some Z.toArray ∧ Z.length = 1024 := ⟨_, zSigTo04, List.length_replicate⟩
  obtain ⟨ZB, hzb, hzbl⟩ : ∃ Z : List Value, (Try.prog.info? 38).bind (fun i => i.zero.map (·.cells)) = some Z.toArray ∧ Z.length = 1024 := ⟨_, rsig_zero, List.length_replicate⟩
  have hr1 : ((w3.alloc (.cells ZA.toArray 43)).alloc (.cells ZB.toArray 38)).heap[w3.heap.size]? = some (.cells ZA.toArray 43 (0, 0)) := (Blk.new w3 43 ZA).keep ((Ext.refl _).alloc _) (by simp)
  have hr2 : (((w3.alloc (.cells ZA.toArray 43)).alloc (.cells ZB.toArray 38)).setRow w3.heap.size X.toArray).heap[w3.heap.size + 1]? = some (.cells ZB.toArray 38 (0, 0)) := Blk.keep (Blk.fresh (by simp) _ _) (setRow_only _) (by simp)
  have hx34 : Ext w3 ((((w3.alloc (.cells ZA.toArray 43)).alloc (.cells ZB.toArray 38)).setRow w3.heap.size X.toArray).setRow (w3.heap.size + 1) X.toArray) := setRow_grown (setRow_grown (((Ext.refl w3).alloc _).alloc _) _ _ (Nat.le_refl _)) _ _ (by omega)
  have hb7 : Blk ((((w3.alloc (.cells ZA.toArray 43)).alloc (.cells ZB.toArray 38)).setRow w3.heap.size X.toArray).setRow (w3.heap.size + 1) X.toArray) w3.heap.size 43 X := Blk.keep (setRow_at hr1) (setRow_only _) (by simp)
  have hb8 : Blk ((((w3.alloc (.cells ZA.toArray 43)).alloc (.cells ZB.toArray 38)).setRow w3.heap.size X.toArray).setRow (w3.heap.size + 1) X.toArray) (w3.heap.size + 1) 38 X := setRow_at hr2
  have hbc := (HBX3.out.keep hx34 (by simp)).cells
  have HXL := Lib.hid hxl
  have HZA := Lib.hid hzal
  have HZB := Lib.hid hzbl
  have HFM := Lib.hid hfm
  have HEX := Lib.hid hex
  have HB7 := Lib.hid hb7
  have HB8 := Lib.hid hb8
  have HX34 := Lib.hid hx34
  clear hrin3 hg3 hxl hzal hzbl hlt hgq hfm hex hb7 hb8 hx34
  go_wp2_with (first
    | (refine wpList_alloc _ rfl 43 rfl _ hza ?_)
    | (refine wpList_alloc _ rfl 38 rfl _ hzb ?_)
    | (refine wpList_store_row _ rfl 43 (.tmp 7) (.tmp 21) rfl w3.heap.size rfl ZA X _ rfl hr1 (tsig_size HXL.out) (by rw [HXL.out, HZA.out]) hxo ?_; go_must (refine wpList_store_row _ rfl 38 (.tmp 8) (.tmp 23) rfl (w3.heap.size + 1) (by simp [Act.put, Act.eval]) ZB X _ rfl hr2 (lrsig_size HXL.out) (by rw [HXL.out, HZB.out]) hxo ?_))
    | (refine wpList_load_agg _ rfl 38 (.tmp 2) rfl _ rfl C _ Try.underlying38 rfl (lrsig_size HCL.out) hbc ?_)
    | fail)
  refine (HTO.out _).mono ?_
  rintro e w5 ⟨rfl, hx5⟩
  have hx35 := HX34.out.trans hx5
  have HB7b := Lib.hid (HB7.out.keep hx5 (by simp))
  have HB8b := Lib.hid (HB8.out.keep hx5 (by simp))
  have HX35 := Lib.hid hx35
  have hs7 := HB8b.out.lt
  clear hx5 hx35 hbc hr1 hr2 HB7 HB8 HX34
  go_wp2_with fail
  refine (HLY.out _).mono ?_
  rintro e w6 ⟨b9, c9, rfl, ho9, hx6⟩
  have hb9 := ho9.lt b9 rfl
  obtain ⟨hsl, hc9⟩ := HOL.out _ _ _ ho9 _ rfl
  have hof2 := In_Of _ _ w6 _ hsl (by rw [HL0.out]; decide)
  have HO9 := Lib.hid ho9
  have HX36 := Lib.hid (HX35.out.trans hx6)
  have HX6 := Lib.hid hx6
  have HOF2 := Lib.hid hof2
  clear ho9 hsl hof2 hx6
  go_wp2_with fail
  refine (HOF2.out).mono ?_
  rintro e w7 ⟨g2, q2, rfl, hin7, hx7, hg7, hq7⟩
  have hx67 := (HX6.out.trans hx7).drew
  have hx37 := (HX36.out.trans hx7).drew
  have hx99 := hx7.drew
  have HNE : Hid (w.heap.size < g2 ∧ w3.heap.size + 1 < g2 ∧ g < g2 ∧ q < g2 ∧ w1.heap.size < g2 ∧ b9 < g2) := Lib.hid (by
    have h1 := HG0.out
    have h2 := HGR.out
    have h3 := HRI3.out.lt
    have h4 := HX6.out.size
    omega)
  have H7 := Lib.hid (HB7b.out.keep hx67 (by simp))
  have H8 := Lib.hid (HB8b.out.keep hx67 (by simp))
  have H2 := Lib.hid (HBX3.out.keep hx37 (by simp))
  have HI := Lib.hid (HIN3.out.ext hx37)
  have hr := HRI3.out.keep hx37 (by simp) (fun b _ => by simp)
  have HFR : Hid (∀ b, F b → b < g2) := Lib.hid fun b hb => by have h1 := HF.out b hb; have h2 := HNE.out; omega
  have HO := Lib.hid (HO9.out.ext hx99)
  have hj := hin7.ext (Ext.refl w7).drew
  have HXW := Lib.hid (HX3.out.trans hx37)
  have HR := Lib.hid hr
  obtain ⟨A', c', B', at', hrb, -, -, -, -, -, -, -⟩ := hr
  have HRB := Lib.hid hrb
  clear hx67 hx37 hx99 hin7 hx7 hg7 hq7 hrb hb9 hc9 hs7 HOF2 HB7b HB8b HBX3 HIN3 HRI3 HO9
  go_wp2_with fail
  refine startM (GrB g2) (by kernel_rfl) ?_
  have hxx : w7.drew.grownBy w7.drew (some g2) := World.grownBy.refl _ _
  generalize w7.drew = wb at *
  refine stepM 0 rfl (by kernel_rfl) rfl (fun K hK => ?_)
  go_simp
  refine (LAwake _).mono ?_
  rintro e w' ⟨rfl, hx'⟩
  have hk : GrB g2 _ w' := hx'.any _
  replace hxx := hxx.trans hk.of
  replace hj := hj.ext hx'
  (try clear hx')
  refine hK _ _ (hk) ?_
  clear hK K
  refine takeG 1 rfl (by kernel_rfl) (by kernel_rfl) (by kernel_rfl) rfl (fun _ _ _ _ h => h) rfl (fun K hK => ?_)
  go_big_quiet_op
  first | refine hK _ ?_ | refine ⟨_, fun _ _ => rfl, hK _ ?_⟩
  clear hK K
  refine takeG 2 rfl (by kernel_rfl) (by kernel_rfl) (by kernel_rfl) rfl (fun _ _ _ _ h => h) rfl (fun K hK => ?_)
  refine quiet_agg 43 (.tmp 7) rfl _ rfl X _ Try.underlying43 rfl (tsig_size HXL.out) (fun W' h => (H7.out.keep (hxx.trans h.of) (by simp only [Option.some.injEq, ne_eq]; have := HNE.out; omega)).cells) ?_
  refine hK _ ?_
  simp only [Act.put, List.setIfInBounds_toArray, List.set_cons_succ, List.set_cons_zero]
  clear hK K
  refine takeG 4 rfl (by kernel_rfl) (by kernel_rfl) (by kernel_rfl) rfl (fun _ _ _ _ h => h) rfl (fun K hK => ?_)
  refine quiet_agg 38 (.tmp 8) rfl _ rfl X _ Try.underlying38 rfl (lrsig_size HXL.out) (fun W' h => (H8.out.keep (hxx.trans h.of) (by simp only [Option.some.injEq, ne_eq]; have := HNE.out; omega)).cells) ?_
  refine hK _ ?_
  simp only [Act.put, List.setIfInBounds_toArray, List.set_cons_succ, List.set_cons_zero]
  clear hK K
  refine stepM 3 rfl (by kernel_rfl) rfl (fun K hK => ?_)
  go_simp
  refine (HFM.out _).mono ?_
  rintro e w' ⟨rfl, hx'⟩
  have hk : GrB g2 _ w' := hx'.any _
  replace hxx := hxx.trans hk.of
  replace hj := hj.ext hx'
  (try clear hx')
  refine hK _ _ (hk) ?_
  clear hK K
  refine takeG 5 rfl (by kernel_rfl) (by kernel_rfl) (by kernel_rfl) rfl (fun _ _ _ _ h => h) rfl (fun K hK => ?_)
  refine quiet_bin2 .eql 38 (.tmp 37) (.tmp 38) rfl _ _ rfl rfl (fun W' => HEX.out.1 _ _ W') (fun W' => HEX.out.2 W') ?_
  refine hK _ ?_
  simp only [Act.put, List.setIfInBounds_toArray, List.set_cons_succ, List.set_cons_zero]
  clear hK K
  refine takeG 6 rfl (by kernel_rfl) (by kernel_rfl) (by kernel_rfl) rfl (fun _ _ _ _ h => h) rfl (fun K hK => ?_)
  go_big_quiet_op
  first | refine hK _ ?_ | refine ⟨_, fun _ _ => rfl, hK _ ?_⟩
  clear hK K
  refine takeG 7 rfl (by kernel_rfl) (by kernel_rfl) (by kernel_rfl) rfl (fun _ _ _ _ h => h) rfl (fun K hK => ?_)
  go_big_quiet_op
  first | refine hK _ ?_ | refine ⟨_, fun _ _ => rfl, hK _ ?_⟩
  clear hK K
  refine takeG 8 rfl (by kernel_rfl) (by kernel_rfl) (by kernel_rfl) rfl (fun _ _ _ _ h => h) rfl (fun K hK => ?_)
  go_big_quiet_op
  first | refine hK _ ?_ | refine ⟨_, fun _ _ => rfl, hK _ ?_⟩
  clear hK K
  refine takeG 10 rfl (by kernel_rfl) (by kernel_rfl) (by kernel_rfl) rfl (fun _ _ _ _ h => h) rfl (fun K hK => ?_)
  go_big_quiet_op
  first | refine hK _ ?_ | refine ⟨_, fun _ _ => rfl, hK _ ?_⟩
  clear hK K
  refine nilG 11 rfl (by kernel_rfl) (by kernel_rfl) (by kernel_rfl) _ rfl _ rfl (fun _ _ _ _ h => h) rfl ?_
  (try simp only [Act.put, List.setIfInBounds_toArray, List.set_cons_succ, List.set_cons_zero])
  refine takeG 12 rfl (by kernel_rfl) (by kernel_rfl) (by kernel_rfl) rfl (fun _ _ _ _ h => h) rfl (fun K hK => ?_)
  go_big_quiet_op
  first | refine hK _ ?_ | refine ⟨_, fun _ _ => rfl, hK _ ?_⟩
  clear hK K
  refine takeG 13 rfl (by kernel_rfl) (by kernel_rfl) (by kernel_rfl) rfl (fun _ _ _ _ h => h) rfl (fun K hK => ?_)
  refine quiet_cell 3 (.tmp 46) rfl ⟨w1.heap.size, 2, none⟩ rfl (.int .i64 ST.2) _ Try.underlying3 rfl (fun W' h => (HRB.out.keep (hxx.trans h.of) (by simp only [Option.some.injEq, ne_eq]; have := HNE.out; omega)).cell 2) ?_
  refine hK _ ?_
  simp only [Act.put, List.setIfInBounds_toArray, List.set_cons_succ, List.set_cons_zero]
  clear hK K
  refine stepM 9 rfl (by kernel_rfl) rfl (fun K hK => ?_)
  go_simp
  refine (In_Bad (h := HI.out.keep hxx (by simp only [Option.some.injEq, ne_eq]; have := HNE.out; omega) (by simp only [Option.some.injEq, ne_eq]; have := HNE.out; omega))).mono ?_
  rintro e w' ⟨rfl, hx'⟩
  subst hx'
  have hk : GrB g2 _ w' := GrB.rf _ _
  replace hxx := hxx.trans hk.of
  refine hK _ _ (hk) ?_
  clear hK K
  refine takeG 14 rfl (by kernel_rfl) (by kernel_rfl) (by kernel_rfl) rfl (fun _ _ _ _ h => h) rfl (fun K hK => ?_)
  refine quiet_bin2 .eql 3 (.tmp 43) (.tmp 47) rfl _ _ rfl rfl (fun W' => eq_guard_int _ _ _ _ _ _ W') (fun W' => eq_true_int _ _ _ W') ?_
  refine hK _ ?_
  simp only [Act.put, List.setIfInBounds_toArray, List.set_cons_succ, List.set_cons_zero]
  clear hK K
  refine takeG 15 rfl (by kernel_rfl) (by kernel_rfl) (by kernel_rfl) rfl (fun _ _ _ _ h => h) rfl (fun K hK => ?_)
  go_big_quiet_op
  first | refine hK _ ?_ | refine ⟨_, fun _ _ => rfl, hK _ ?_⟩
  clear hK K
  refine takeG 16 rfl (by kernel_rfl) (by kernel_rfl) (by kernel_rfl) rfl (fun _ _ _ _ h => h) rfl (fun K hK => ?_)
  go_big_quiet_op
  first | refine hK _ ?_ | refine ⟨_, fun _ _ => rfl, hK _ ?_⟩
  clear hK K
  refine takeG 17 rfl (by kernel_rfl) (by kernel_rfl) (by kernel_rfl) rfl (fun _ _ _ _ h => h) rfl (fun K hK => ?_)
  go_big_quiet_op
  first | refine hK _ ?_ | refine ⟨_, fun _ _ => rfl, hK _ ?_⟩
  clear hK K
  refine takeG 19 rfl (by kernel_rfl) (by kernel_rfl) (by kernel_rfl) rfl (fun _ _ _ _ h => h) rfl (fun K hK => ?_)
  go_big_quiet_op
  first | refine hK _ ?_ | refine ⟨_, fun _ _ => rfl, hK _ ?_⟩
  clear hK K
  refine stepM 18 rfl (by kernel_rfl) rfl (fun K hK => ?_)
  go_simp
  refine (In_Left (h := HI.out.keep hxx (by simp only [Option.some.injEq, ne_eq]; have := HNE.out; omega) (by simp only [Option.some.injEq, ne_eq]; have := HNE.out; omega))).mono ?_
  rintro e w' ⟨rfl, hx'⟩
  subst hx'
  have hk : GrB g2 _ w' := GrB.rf _ _
  replace hxx := hxx.trans hk.of
  refine hK _ _ (hk) ?_
  clear hK K
  refine stepM 20 rfl (by kernel_rfl) rfl (fun K hK => ?_)
  go_simp
  refine (RLeft (HR.out.keep hxx (by simp only [Option.some.injEq, ne_eq]; have := HNE.out; omega) (fun b hb => by have h1 := HFR.out b hb; have h2 := HNE.out; simp only [Option.some.injEq, ne_eq]; omega))).mono ?_
  rintro e w' ⟨rfl, hx'⟩
  have hk : GrB g2 _ w' := hx'.any _
  replace hxx := hxx.trans hk.of
  replace hj := hj.ext hx'
  (try clear hx')
  refine hK _ _ (hk) ?_
  clear hK K
  refine takeG 21 rfl (by kernel_rfl) (by kernel_rfl) (by kernel_rfl) rfl (fun _ _ _ _ h => h) rfl (fun K hK => ?_)
  refine quiet_bin2 .eql 3 (.tmp 52) (.tmp 54) rfl _ _ rfl rfl (fun W' => eq_guard_int _ _ _ _ _ _ W') (fun W' => eq_true_int _ _ _ W') ?_
  refine hK _ ?_
  simp only [Act.put, List.setIfInBounds_toArray, List.set_cons_succ, List.set_cons_zero]
  clear hK K
  refine takeG 22 rfl (by kernel_rfl) (by kernel_rfl) (by kernel_rfl) rfl (fun _ _ _ _ h => h) rfl (fun K hK => ?_)
  go_big_quiet_op
  first | refine hK _ ?_ | refine ⟨_, fun _ _ => rfl, hK _ ?_⟩
  clear hK K
  refine takeG 23 rfl (by kernel_rfl) (by kernel_rfl) (by kernel_rfl) rfl (fun _ _ _ _ h => h) rfl (fun K hK => ?_)
  go_big_quiet_op
  first | refine hK _ ?_ | refine ⟨_, fun _ _ => rfl, hK _ ?_⟩
  clear hK K
  refine takeG 24 rfl (by kernel_rfl) (by kernel_rfl) (by kernel_rfl) rfl (fun _ _ _ _ h => h) rfl (fun K hK => ?_)
  go_big_quiet_op
  first | refine hK _ ?_ | refine ⟨_, fun _ _ => rfl, hK _ ?_⟩
  clear hK K
  refine takeG 25 rfl (by kernel_rfl) (by kernel_rfl) (by kernel_rfl) rfl (fun _ _ _ _ h => h) rfl (fun K hK => ?_)
  refine quiet_str 56 9 _ rfl 5 Try.underlying56 Try.underlying5 Try.underlying9 (some ⟨b9, 0, none⟩) 1025 c9 L rfl HLL.out (fun W' h => srcN9 (HO.out.keep (hxx.trans h.of) (.inr (by simp only [Value.ownBlock, Option.map_some, Option.some.injEq, ne_eq]; have := HNE.out; omega))) HLL.out) ?_
  refine hK _ ?_
  simp only [Act.put, List.setIfInBounds_toArray, List.set_cons_succ, List.set_cons_zero]
  clear hK K
  refine takeG 27 rfl (by kernel_rfl) (by kernel_rfl) (by kernel_rfl) rfl (fun _ _ _ _ h => h) rfl (fun K hK => ?_)
  refine quiet_agg 38 (.tmp 2) rfl _ rfl C _ Try.underlying38 rfl (lrsig_size HCL.out) (fun W' h => (H2.out.keep (hxx.trans h.of) (by simp only [Option.some.injEq, ne_eq]; have := HNE.out; omega)).cells) ?_
  refine hK _ ?_
  simp only [Act.put, List.setIfInBounds_toArray, List.set_cons_succ, List.set_cons_zero]
  clear hK K
  refine stepM 26 rfl (by kernel_rfl) rfl (fun K hK => ?_)
  go_simp
  refine hK _ _ ((World.grownBy_alloc _ _ _)) ?_
  clear hK K
  obtain ⟨wn, hwn⟩ : ∃ wn, wn = w'.alloc (.cells #[.int .u8 7] 5) := ⟨_, rfl⟩
  rw [← hwn]
  have hown : OwnB wn (.slice (some ⟨w'.heap.size, 0, none⟩) 1 1) [7] := by rw [hwn]; exact own_one 7
  have hx' : Ext w' wn := by rw [hwn]; exact (Ext.refl w').alloc _
  replace hxx := hxx.trans (hx'.any _)
  replace hj := hj.ext hx'
  clear hwn hx'
  refine stepM 28 rfl (by kernel_rfl) rfl (fun K hK => ?_)
  go_simp
  refine (HRL.out _ _ hown).mono ?_
  rintro e w' ⟨b10, c10, rfl, hol, hx', hvb⟩
  have hk : GrB g2 _ w' := hx'.any _
  replace hxx := hxx.trans hk.of
  have hn10 : b10 ≠ g2 := by (have h1 := hj.lt; omega)
  replace hj := hj.ext hx'
  (try clear hx')
  refine hK _ _ (hk) ?_
  clear hK K
  refine takeG 29 rfl (by kernel_rfl) (by kernel_rfl) (by kernel_rfl) rfl (fun _ _ _ _ h => h) rfl (fun K hK => ?_)
  refine quiet_str 55 9 _ rfl 5 Try.underlying55 Try.underlying5 Try.underlying9 (some ⟨b10, 0, none⟩) 1025 c10 L rfl HLL.out (fun W' h => srcN9 (hol.keep h.of (.inr (by simp only [Value.ownBlock, Option.map_some, Option.some.injEq, ne_eq]; exact hn10))) HLL.out) ?_
  refine hK _ ?_
  simp only [Act.put, List.setIfInBounds_toArray, List.set_cons_succ, List.set_cons_zero]
  clear hK K
  refine takeG 30 rfl (by kernel_rfl) (by kernel_rfl) (by kernel_rfl) rfl (fun _ _ _ _ h => h) rfl (fun K hK => ?_)
  refine quiet_bin2 .eql 9 (.tmp 59) (.tmp 63) rfl _ _ rfl rfl (fun W' => eq_guard_str _ _ _ _ _ W') (fun W' => eq_true_str _ _ W') ?_
  refine hK _ ?_
  simp only [Act.put, List.setIfInBounds_toArray, List.set_cons_succ, List.set_cons_zero]
  clear hK K
  refine takeG 31 rfl (by kernel_rfl) (by kernel_rfl) (by kernel_rfl) rfl (fun _ _ _ _ h => h) rfl (fun K hK => ?_)
  go_big_quiet_op
  first | refine hK _ ?_ | refine ⟨_, fun _ _ => rfl, hK _ ?_⟩
  clear hK K
  refine takeG 32 rfl (by kernel_rfl) (by kernel_rfl) (by kernel_rfl) rfl (fun _ _ _ _ h => h) rfl (fun K hK => ?_)
  go_big_quiet_op
  first | refine hK _ ?_ | refine ⟨_, fun _ _ => rfl, hK _ ?_⟩
  clear hK K
  refine takeG 33 rfl (by kernel_rfl) (by kernel_rfl) (by kernel_rfl) rfl (fun _ _ _ _ h => h) rfl (fun K hK => ?_)
  go_big_quiet_op
  first | refine hK _ ?_ | refine ⟨_, fun _ _ => rfl, hK _ ?_⟩
  clear hK K
  refine takeG 36 rfl (by kernel_rfl) (by kernel_rfl) (by kernel_rfl) rfl (fun _ _ _ _ h => h) rfl (fun K hK => ?_)
  refine quiet_agg 38 (.tmp 2) rfl _ rfl C _ Try.underlying38 rfl (lrsig_size HCL.out) (fun W' h => (H2.out.keep (hxx.trans h.of) (by simp only [Option.some.injEq, ne_eq]; have := HNE.out; omega)).cells) ?_
  refine hK _ ?_
  simp only [Act.put, List.setIfInBounds_toArray, List.set_cons_succ, List.set_cons_zero]
  clear hK K
  refine stepM 34 rfl (by kernel_rfl) rfl (fun K hK => ?_)
  go_simp
  refine (HTB.out _ _ _ hj).mono ?_
  rintro e w' ⟨rfl, hj', hx'⟩
  have hk : GrB g2 _ w' := hx'
  replace hxx := hxx.trans hk.of
  clear hj
  have hj := hj'
  clear hj' hx'
  refine hK _ _ (hk) ?_
  clear hK K
  refine stepM 35 rfl (by kernel_rfl) rfl (fun K hK => ?_)
  go_simp
  refine (HFC.out _).mono ?_
  rintro e w' ⟨rfl, hx'⟩
  have hk : GrB g2 _ w' := hx'.any _
  replace hxx := hxx.trans hk.of
  replace hj := hj.ext hx'
  (try clear hx')
  refine hK _ _ (hk) ?_
  clear hK K
  refine takeG 37 rfl (by kernel_rfl) (by kernel_rfl) (by kernel_rfl) rfl (fun _ _ _ _ h => h) rfl (fun K hK => ?_)
  refine quiet_bin2 .eql 38 (.tmp 69) (.tmp 70) rfl _ _ rfl rfl (fun W' => HEC.out.1 _ _ W') (fun W' => HEC.out.2 W') ?_
  refine hK _ ?_
  simp only [Act.put, List.setIfInBounds_toArray, List.set_cons_succ, List.set_cons_zero]
  clear hK K
  refine takeG 38 rfl (by kernel_rfl) (by kernel_rfl) (by kernel_rfl) rfl (fun _ _ _ _ h => h) rfl (fun K hK => ?_)
  go_big_quiet_op
  first | refine hK _ ?_ | refine ⟨_, fun _ _ => rfl, hK _ ?_⟩
  clear hK K
  refine takeG 39 rfl (by kernel_rfl) (by kernel_rfl) (by kernel_rfl) rfl (fun _ _ _ _ h => h) rfl (fun K hK => ?_)
  go_big_quiet_op
  first | refine hK _ ?_ | refine ⟨_, fun _ _ => rfl, hK _ ?_⟩
  clear hK K
  refine takeG 40 rfl (by kernel_rfl) (by kernel_rfl) (by kernel_rfl) rfl (fun _ _ _ _ h => h) rfl (fun K hK => ?_)
  go_big_quiet_op
  first | refine hK _ ?_ | refine ⟨_, fun _ _ => rfl, hK _ ?_⟩
  clear hK K
  refine stepM 41 rfl (by kernel_rfl) rfl (fun K hK => ?_)
  go_simp
  refine (HEND.out _ _ _ hj).mono ?_
  rintro e w' ⟨rfl, hx'⟩
  have hk : GrB g2 _ w' := hx'
  replace hxx := hxx.trans hk.of
  clear hj hx'
  refine hK _ _ (hk) ?_
  clear hK K
  refine takeG 42 rfl (by kernel_rfl) (by kernel_rfl) (by kernel_rfl) rfl (fun _ _ _ _ h => h) rfl (fun K hK => ?_)
  refine quiet_bin2 .eql 61 (.tmp 75) _ rfl _ _ rfl rfl (fun W' => eq_guard_int _ _ _ _ _ _ W') (fun W' => eq_true_int _ _ _ W') ?_
  refine hK _ ?_
  simp only [Act.put, List.setIfInBounds_toArray, List.set_cons_succ, List.set_cons_zero]
  clear hK K
  refine takeG 43 rfl (by kernel_rfl) (by kernel_rfl) (by kernel_rfl) rfl (fun _ _ _ _ h => h) rfl (fun K hK => ?_)
  go_big_quiet_op
  first | refine hK _ ?_ | refine ⟨_, fun _ _ => rfl, hK _ ?_⟩
  clear hK K
  refine takeG 44 rfl (by kernel_rfl) (by kernel_rfl) (by kernel_rfl) rfl (fun _ _ _ _ h => h) rfl (fun K hK => ?_)
  go_big_quiet_op
  first | refine hK _ ?_ | refine ⟨_, fun _ _ => rfl, hK _ ?_⟩
  clear hK K
  refine doneM (by kernel_rfl) ?_ _
  (try simp only [Exit.then])
  go_wp2_with fail
  go_ret
  exact ⟨rfl, grown_then HXW.out hxx (.inr (by rintro b ⟨⟩; have := HNE.out; omega))⟩
theorem BytesAll (S : List UInt8) (hS : S.length = 1024) (A : Option Addr) (n c : Nat) (B : List UInt8) (F : Fp) (w : World) (hh : (Ty.sl .u8).holds w F [.slice A n c] B) (hF : ∀ b, F b → b < w.heap.size) :
    Calls Try.prog 7 #[.agg (bv S).toArray, .slice A n c] w fun e w' => e = .returned (.bool true) ∧ Ext w w' := by
  have hh0 := hh
  obtain ⟨A', c', xs, hv, hlc, hcm, _, _, _⟩ := hh0
  simp only [List.cons.injEq, Value.slice.injEq, and_true] at hv
  obtain ⟨rfl, rfl, rfl⟩ := hv
  by_cases hl : B.length ≤ 5000
  · exact BytesShort S hS A c B F w hh hF hl
  · exact BytesLong S A B.length c (by omega) (by unfold maxLen at hcm; omega) w
end
section
open Go.ChangeShapes Go.WideShapes Go.ChangeAt Go.RowKit

def okZipB (P : Program) (w : World) (t : TypeId) (cs : List Value) : Bool :=
  match P.cellTypes P.depth t with
  | some ts => (ts.length == cs.length && cs.length == P.cellsOf t) && (ts.zip cs).all fun p => Cell.okWideB P w p.1 p.2
  | none => false
theorem zip_at {α β : Type} : ∀ (xs : List α) (ys : List β) (i : Nat) (y : β), xs.length = ys.length → ys[i]? = some y → ∃ x, xs[i]? = some x ∧ (x, y) ∈ xs.zip ys
  | [], [], i, y, _, h => by simp at h
  | x :: xs, z :: ys, 0, y, _, h => by
    have e : z = y := by simpa using h
    subst e
    exact ⟨x, rfl, by simp⟩
  | x :: xs, z :: ys, i + 1, y, hl, h => by
    obtain ⟨u, h1, h2⟩ := zip_at xs ys i y (by simpa using hl) (by simpa using h)
    exact ⟨u, by simpa using h1, by simp [h2]⟩
  | [], _ :: _, _, _, h, _ => by simp at h
  | _ :: _, [], _, _, h, _ => by simp at h
theorem okWide_of_zip {P : Program} {w : World} {base : Nat} {t : TypeId} {fs : Array Field} {cs : List Value} (hu : P.underlying t = some (.struct fs)) (h : okZipB P w t cs = true) : Value.okWide P w .any base t (.agg cs.toArray) := by
  unfold okZipB at h
  split at h
  · rename_i ts hts
    simp only [Bool.and_eq_true, beq_iff_eq, List.all_eq_true] at h
    obtain ⟨⟨h1, h2⟩, h3⟩ := h
    unfold Value.okWide
    simp only [hu]
    refine ⟨_, rfl, by simpa using h2, ts, hts, ⟨1, by simp [h1]⟩, fun i v hv => ?_⟩
    have hv' : cs[i]? = some v := by simpa using hv
    have hi : i < cs.length := (List.getElem?_eq_some_iff.1 hv').1
    obtain ⟨x, hx, hm⟩ := zip_at ts cs i v h1 hv'
    rw [Nat.mod_eq_of_lt (by omega)]
    exact ⟨x, hx, Cell.okWide_of_okWideB (h3 _ hm)⟩
  · cases h
theorem witness6W {H : Type} {enc : TypeId × Value → H} {C : Checked} {os : Os} {f : FuncId} {fn : Func} {s : ChangeSpec} {conds : List PathCond} {apart : Bool} (modest : Bool) (i : Input) (fuel : Nat)
    (hv : (World.plainHolding C.prog os i).variablesB C.prog = true)
    (hr : ((World.plainHolding C.prog os i).heap.toList.drop C.prog.globals.size).take ((begin C.prog (fun _ _ => 0) default).world.heap.size - C.prog.globals.size) =
      (begin C.prog (fun _ _ => 0) default).world.heap.toList.drop C.prog.globals.size)
    (hok : ∀ base, Input.okWide C.prog (World.plainHolding C.prog os i) .any base f ⟨#[], i.args, []⟩)
    (hpre : s.preB enc C.prog fn conds apart (World.plainHolding C.prog os i).memory i.args fuel = true)
    (hsz : s.sizedB enc C.prog fn apart (World.plainHolding C.prog os i).memory i.args fuel = true) :
    ∃ (w : World) (tape : Tape) (i : Input), w.os = os ∧ (w.forCall tape i).Shaped C.prog ∧ i.vars = [] ∧ Input.okWide C.prog (w.forCall tape i) .any w.heap.size f i ∧
      s.pre6 enc C.prog fn conds apart (w.forCall tape i).memory i.args ∧ ({ modest := modest } : Assume).holds C.prog (lone (Frame.enter C.prog f i.args .normal) [] (w.forCall tape i)) :=
  ⟨World.holding C.prog os i, fun _ _ => 0, ⟨#[], i.args, []⟩, rfl, World.shaped_of_B hv hr, rfl, hok _, ⟨ChangeSpec.pre_of_preB hpre, sizedMet_of_sizedB hsz⟩, by
    simp only [Assume.holds]
    exact ⟨by simp, by simp, fun _ => Modest.zero, by simp, by simp⟩⟩
end
end Go.Proofs.Ytfoomnibfibfnaa

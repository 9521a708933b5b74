/- What lies in memory ahead of each round of MillLogs, and how each step of a round turns it. No condition but what each names. -/
import Derived.Test.YtklljkfnlakdaaaLogM
import Derived.Test.YtklljkfnlakdaaaTwoApp
set_option linter.unusedVariables false
set_option linter.unusedSimpArgs false
set_option linter.unnecessarySimpa false
namespace Go.Proofs.Ytklljkfnlakdaaa
open Go.RowKit
open Go.Maps (Keyed IsMap Tidy)

theorem log_zero : (Try.prog.info? 49).bind (fun i => i.zero.map (·.cells)) = some #[.map none, .bool false] := by kernel_rfl
theorem arr32_zero : (Try.prog.info? 24).bind (fun i => i.zero.map (·.cells)) = some (bv (List.replicate 32 0)).toArray := by kernel_rfl
theorem arr4_zero : (Try.prog.info? 52).bind (fun i => i.zero.map (·.cells)) = some (bv (List.replicate 4 0)).toArray := by kernel_rfl
theorem str_info : (Try.prog.info? 9).map (fun i => (i.zero, i.size, i.bytes)) = some (some (.string ByteArray.empty), 1, 16) := by kernel_rfl
theorem arr4_info : (Try.prog.info? 52).map (fun i => (i.zero, i.size, i.bytes)) = some (some (.agg (bv (List.replicate 4 0)).toArray), 4, 4) := by kernel_rfl
abbrev sv (ls : List (List UInt8)) : List Value := ls.map fun t => .string (strOf t)
/-- What lies in memory ahead of each round. -/
structure LogsMem (w0 : World) (kv lv : Value) (met : Bool) (k : Nat) (wr : World) (ks ls : List (List UInt8)) (D : DU) (mo : Option Nat) : Prop where
  ext : Ext w0 wr
  log : Blk wr w0.heap.size 49 [.map mo, .bool met]
  map_ : MapIs wr mo k D
  keys : Own wr 52 4 kv ks.length (ks.flatMap bv)
  last : Own wr 9 1 lv ls.length (sv ls)
  kg : ∀ b, kv.ownBlock = some b → w0.heap.size < b
  lg : ∀ b, lv.ownBlock = some b → w0.heap.size < b
  mg : ∀ b, mo = some b → w0.heap.size < b
  apart : Apart kv lv
  mapart : ∀ b, mo = some b → kv.ownBlock ≠ some b ∧ lv.ownBlock ≠ some b
structure LogsAt (w0 : World) (kv lv : Value) (met : Bool) (k : Nat) (wr : World) (ks ls : List (List UInt8)) (D : DU) (mo : Option Nat) : Prop extends LogsMem w0 kv lv met k wr ks ls D mo where
  rel : LogRel D ks ls
  few : ks.length ≤ k
theorem MapIs.lt {w : World} {b k : Nat} {D : DU} (h : MapIs w (some b) k D) : b < w.heap.size := OwnM.lt (show OwnM w b k D from h)
theorem MapIs.same {w w' : World} {mo : Option Nat} {k : Nat} {D : DU} (h : MapIs w mo k D) (hk : ∀ b, mo = some b → w'.heap[b]? = w.heap[b]?) : MapIs w' mo k D := by
  unfold MapIs at h ⊢
  cases mo with
  | none => exact h
  | some b =>
    obtain ⟨es, clock, hb, r⟩ := h
    exact ⟨es, clock, (hk b rfl).trans hb, r⟩
section
variable {w0 wr w' : World} {kv lv : Value} {met : Bool} {k : Nat} {ks ls : List (List UInt8)} {D : DU} {mo : Option Nat}
theorem LogsMem.later (h : LogsMem w0 kv lv met k wr ks ls D mo) (hx : Ext wr w') : LogsMem w0 kv lv met k w' ks ls D mo :=
  ⟨h.ext.trans hx, h.log.keep hx (by simp), h.map_.same (fun b e => by
    subst e
    exact hx.block b h.map_.lt (by simp)), h.keys.ext hx, h.last.ext hx, h.kg, h.lg, h.mg, h.apart, h.mapart⟩
theorem LogsAt.later (h : LogsAt w0 kv lv met k wr ks ls D mo) (hx : Ext wr w') : LogsAt w0 kv lv met k w' ks ls D mo := ⟨h.toLogsMem.later hx, h.rel, h.few⟩
theorem LogsMem.added (h : LogsMem w0 kv lv met k wr ks ls D mo) {key t : List UInt8} {a v b u : Value} (hj : TA wr 52 4 kv ks.length (ks.flatMap bv) (bv key) 9 1 lv ls.length (sv ls) (sv [t]) (some a) (some v) (some b) (some u) w') :
    LogsMem w0 v u met k w' (ks ++ [key]) (ls ++ [t]) D mo := by
  obtain ⟨o1, p1⟩ := hj.o1 v rfl
  obtain ⟨o2, p2⟩ := hj.o2 u rfl
  have hlg : w0.heap.size < wr.heap.size := h.log.lt
  refine ⟨⟨hj.keep.os.trans h.ext.os, hj.keep.tape.trans h.ext.tape, hj.keep.output.trans h.ext.output, Nat.le_trans h.ext.size hj.keep.size, fun x hx hn => (hj.keep.block x (Nat.lt_of_lt_of_le hx h.ext.size) ?_).trans (h.ext.block x hx hn)⟩,
    (hj.keep.block _ hlg ?_).trans h.log, h.map_.same fun x e => hj.keep.block x ?_ ?_, by simpa using o1, by simpa [sv] using o2, ?_, ?_, h.mg, hj.apart, ?_⟩
  · rintro (e | e)
    · have := h.kg x e; omega
    · have := h.lg x e; omega
  · rintro (e | e)
    · have := h.kg _ e; omega
    · have := h.lg _ e; omega
  · subst e; exact h.map_.lt
  · rintro (e2 | e2)
    · exact (h.mapart x e).1 e2
    · exact (h.mapart x e).2 e2
  · intro x e
    rcases p1 with e1 | hn
    · exact h.kg x (e1.symm.trans e)
    · have := hn x e; omega
  · intro x e
    rcases p2 with e1 | hn
    · exact h.lg x (e1.symm.trans e)
    · have := hn x e; omega
  · intro x e
    have hxl : x < wr.heap.size := by subst e; exact h.map_.lt
    constructor
    · intro e1
      rcases p1 with e2 | hn
      · exact (h.mapart x e).1 (e2.symm.trans e1)
      · have := hn x e1; omega
    · intro e1
      rcases p2 with e2 | hn
      · exact (h.mapart x e).2 (e2.symm.trans e1)
      · have := hn x e1; omega
/-- The last text of a key is another. -/
theorem LogsMem.stored {gl cl : Nat} (h : LogsMem w0 kv (.slice (some ⟨gl, 0, none⟩) ls.length cl) met k wr ks ls D mo) (i : Nat) (t : List UInt8) :
    LogsMem w0 kv (.slice (some ⟨gl, 0, none⟩) ls.length cl) met k (wr.setCell ⟨gl, i, none⟩ (.string (strOf t))) ks (ls.set i t) D mo := by
  obtain ⟨h1, h2⟩ := World.ownsRow.stored h.last i (.string (strOf t))
  have hgl : w0.heap.size < gl := h.lg gl rfl
  refine ⟨grown_then h.ext h2 (.inr (by rintro g ⟨⟩; omega)), h.log.keep h2 (by intro e; cases e; omega), h.map_.same (fun b e => h2.block b (by subst e; exact h.map_.lt) (fun e2 => (h.mapart b e).2 e2.symm)), h.keys.keep h2 ?_, ?_, h.kg, h.lg, h.mg, h.apart, h.mapart⟩
  · cases e : kv.ownBlock with
    | none => exact .inl rfl
    | some g => exact .inr fun e2 => h.apart g e (by rw [e2]; rfl)
  · rw [List.length_set]
    simpa [sv, List.map_set, Own] using h1
/-- .. behind a note. -/
theorem LogsMem.noted {b : Nat} {d t : List UInt8} {m' : Bool} (h : LogsMem w0 kv lv met k wr ks ls D mo) (hb : mo = some b ∨ (mo = none ∧ wr.heap.size ≤ b)) (hn : Noted wr w' w0.heap.size b k D d t met) (hm : ∀ s, D.atKey (klit d) (slit []) = slit s → metN D d t met s = m') :
    LogsMem w0 kv lv m' (k + 1) w' ks ls (D.put (klit d) (slit t)) (some b) := by
  obtain ⟨s, hs, hl, ho, wm, g1, g2⟩ := hn
  rw [hm s hs] at hl
  have hgb : w0.heap.size < b := by
    rcases hb with e | ⟨_, e⟩
    · exact h.mg b e
    · have := h.log.lt; omega
  have hkb : ∀ (v : Value), (∀ g, v.ownBlock = some g → g < wr.heap.size) → (∀ b, mo = some b → v.ownBlock ≠ some b) → v.ownBlock ≠ some b := fun v hv hm e => by
    rcases hb with e1 | ⟨_, e1⟩
    · exact hm b e1 e
    · have := hv b e; omega
  have k1 := fun g e => (World.ownsRow.lt h.keys g e).2
  have k2 := fun g e => (World.ownsRow.lt h.last g e).2
  refine ⟨grown_then (grown_then h.ext g1 (.inr (by rintro g ⟨⟩; exact Nat.le_refl _))) g2 (.inr (by rintro g ⟨⟩; omega)), hl, ho, ?_, ?_, h.kg, h.lg, by rintro x ⟨⟩; exact hgb, h.apart, ?_⟩
  · refine (h.keys.keep g1 ?_).keep g2 ?_
    · cases e : kv.ownBlock with
      | none => exact .inl rfl
      | some g => exact .inr fun e2 => by cases e2; have := h.kg _ e; omega
    · cases e : kv.ownBlock with
      | none => exact .inl rfl
      | some g => exact .inr fun e2 => by cases e2; exact hkb kv k1 (fun b e => (h.mapart b e).1) e
  · refine (h.last.keep g1 ?_).keep g2 ?_
    · cases e : lv.ownBlock with
      | none => exact .inl rfl
      | some g => exact .inr fun e2 => by cases e2; have := h.lg _ e; omega
    · cases e : lv.ownBlock with
      | none => exact .inl rfl
      | some g => exact .inr fun e2 => by cases e2; exact hkb lv k2 (fun b e => (h.mapart b e).2) e
  · rintro x ⟨⟩
    exact ⟨hkb kv k1 (fun b e => (h.mapart b e).1), hkb lv k2 (fun b e => (h.mapart b e).2)⟩
end
theorem Noted.mono {w w' : World} {g b n m : Nat} {D : DU} {d t : List UInt8} {met : Bool} (h : Noted w w' g b n D d t met) (hn : n ≤ m) : Noted w w' g b m D d t met := by
  obtain ⟨s, h1, h2, h3, h4⟩ := h
  exact ⟨s, h1, h2, World.ownsMap.mono h3 (by omega), h4⟩
theorem Note_any {w0 wr : World} {kv lv : Value} {met : Bool} {k : Nat} {ks ls : List (List UInt8)} {D : DU} {mo : Option Nat} (h : LogsMem w0 kv lv met k wr ks ls D mo) (d t : List UInt8) (tv : Value) (F : Fp) (hd : d.length = 32) (hk : k < 1000)
    (ht : (Ty.sl .u8).holds wr F [tv] t) (hF : ∀ b, F b → b < w0.heap.size) (htl : t.length ≤ 1000) :
    Calls Try.prog 21 #[.pointer (some ⟨w0.heap.size, 0, none⟩), .agg (bv d).toArray, tv] wr fun e w' => e = .returned (.tuple #[]) ∧ ∃ b, (mo = some b ∨ (mo = none ∧ wr.heap.size ≤ b)) ∧ Noted wr w' w0.heap.size b k D d t met := by
  cases mo with
  | none =>
    refine (Note_first w0.heap.size 0 D rfl h.map_ met d tv t wr F hd h.log ht (fun b hb => ⟨Nat.lt_of_lt_of_le (hF b hb) h.ext.size, by have := hF b hb; omega⟩) htl).mono ?_
    rintro e w' ⟨rfl, b, hb, hn⟩
    exact ⟨rfl, b, .inr ⟨rfl, hb⟩, hn.mono (by omega)⟩
  | some b =>
    refine (Note_one w0.heap.size b k D met d tv t wr F hd h.log h.map_ hk ht (fun c hc => ⟨Nat.lt_of_lt_of_le (hF c hc) h.ext.size, by have := hF c hc; omega, by have := hF c hc; have := h.mg b rfl; omega⟩) htl).mono ?_
    rintro e w' ⟨rfl, hn⟩
    exact ⟨rfl, b, .inl rfl, hn⟩
theorem flat_part : ∀ (ks : List (List UInt8)) (q : Nat) (h : q < ks.length), (∀ x ∈ ks, x.length = 4) → ((ks.flatMap bv).drop (q * 4)).take 4 = bv ks[q]
  | [], _, h, _ => by simp at h
  | x :: ks, 0, _, h4 => by
    have := h4 x (by simp)
    simp only [List.flatMap_cons, Nat.zero_mul, List.drop_zero, List.getElem_cons_zero]
    rw [List.take_append_of_le_length (by simp; omega), List.take_of_length_le (by simp; omega)]
  | x :: ks, q + 1, h, h4 => by
    have hx := h4 x (by simp)
    have := flat_part ks q (by simpa using h) (fun y hy => h4 y (by simp [hy]))
    simp only [List.flatMap_cons, List.getElem_cons_succ]
    rw [← this, List.drop_append, List.drop_eq_nil_of_le (by simp; omega), List.nil_append]
    congr 2
    simp; omega
end Go.Proofs.Ytklljkfnlakdaaa

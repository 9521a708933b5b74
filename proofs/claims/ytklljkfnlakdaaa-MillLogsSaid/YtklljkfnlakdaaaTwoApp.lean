/- Two appends beside one another, in whatever order their parts come. No condition but what each names. -/
import Derived.Test.YtklljkfnlakdaaaMono2
import Derived.Test.YtklljkfnlakdaaaByt
import Derived.Laws.Tables
set_option linter.unusedVariables false
set_option linter.unusedSimpArgs false
set_option linter.unnecessarySimpa false
namespace Go.Proofs.Ytklljkfnlakdaaa
open Go.RowKit

section
variable {P : Program} (w : World)
theorem wp_oneV {o : Oper} {a : Act} {K : Act → World → Prop} {Q : Exit → Act → World → Prop} (t : TypeId) (x : Operand) (ho : o.op = .buildSlice t 1 #[(0, x)])
    (e : TypeId) (u : Value) (cs : List Value) (ht : P.underlying t = some (.slice e)) (hx : a.eval x = u) (hv : u.cells = cs.toArray) (hi : (P.info? e).map (·.size) = some cs.length) (hz : ((P.info? e).bind (·.zero)).isSome = true) (hl : cs.length ≤ 16777216) (hn : 0 < cs.length)
    (h : K (a.put o.dst (.slice (some ⟨w.heap.size, 0, none⟩) 1 1)) (w.alloc (.cells cs.toArray e))) : o.wp P a w K Q := by
    obtain ⟨i, hi', hs⟩ := Option.map_eq_some_iff.1 hi
    rw [hi', Option.bind_some] at hz
    obtain ⟨z, hz⟩ := Option.isSome_iff_exists.1 hz
    have hfill : ∀ (c : Array Value), c.size = cs.length → Instr.fill (fun i => some (i * cs.length, cs.length)) c [(0, u)] = some cs.toArray := by
      intro c hc
      rw [fill_list _ c 0 u cs 0 [] hv (by simp) (by omega)]
      simp only [Instr.fill, List.take_zero, List.nil_append, Nat.zero_add]
      rw [List.drop_eq_nil_of_le (by rw [Array.length_toList]; omega), List.append_nil]
    unfold Oper.wp execOp
    have hrun : (Instr.buildSlice t 1 #[(0, u)]).run P w = .ok (.slice (some ⟨w.heap.size, 0, none⟩) 1 1) (w.alloc (.cells cs.toArray e)) := by
      unfold Instr.buildSlice
      simp only [Sem.run_bind, run_underlying ht, Result.andThen_ok, sizeOf, typeInfo, run_program, hi', Sem.run_pure, hs, Nat.one_mul]
      rw [if_neg (by omega)]
      have h0 : ¬ cs.length = 0 := by omega
      simp only [h0, if_false, Sem.run_bind, Sem.run_pure, Result.andThen_ok, zeroValue, typeInfo, run_program, hi', hz]
      have := hfill ((Array.range cs.length).map fun x => z.cells[x % z.cells.size]!) (by simp)
      simp only [this]
      simp [newRow]
    simp only [ho, List.map_toArray, List.map_cons, List.map_nil, hx, Sem.run_bind, hrun, Result.andThen_ok, Sem.run_pure]
    exact h
end
/-- Nothing that was there has changed but in some blocks. -/
structure KeepS (S : Nat → Prop) (w w' : World) : Prop where
  os : w'.os = w.os
  tape : w'.tape = w.tape
  output : w'.output = w.output
  size : w.heap.size ≤ w'.heap.size
  block : ∀ b, b < w.heap.size → ¬ S b → w'.heap[b]? = w.heap[b]?
theorem KeepS.refl (S : Nat → Prop) (w : World) : KeepS S w w := ⟨rfl, rfl, rfl, Nat.le_refl _, fun _ _ _ => rfl⟩
theorem KeepS.trans {S : Nat → Prop} {a b c : World} (h : KeepS S a b) (k : KeepS S b c) : KeepS S a c :=
  ⟨k.os.trans h.os, k.tape.trans h.tape, k.output.trans h.output, Nat.le_trans h.size k.size, fun x hx hn => (k.block x (Nat.lt_of_lt_of_le hx h.size) hn).trans (h.block x hx hn)⟩
theorem KeepS.of_grown {S : Nat → Prop} {a b : World} {r : Option Nat} (h : a.grownBy b r) (hr : ∀ g, r = some g → S g) : KeepS S a b :=
  ⟨h.os, h.tape, h.output, h.size, fun x hx hn => h.block x hx (fun e => hn (hr x e.symm))⟩
/-- .. new blocks may change as they like. -/
theorem KeepS.then {S : Nat → Prop} {a b c : World} {r : Option Nat} (h : KeepS S a b) (k : b.grownBy c r) (hr : ∀ g, r = some g → S g ∨ a.heap.size ≤ g) : KeepS S a c :=
  ⟨k.os.trans h.os, k.tape.trans h.tape, k.output.trans h.output, Nat.le_trans h.size k.size, fun x hx hn => (k.block x (Nat.lt_of_lt_of_le hx h.size) (fun e => (hr x e.symm).elim hn (fun h => by omega))).trans (h.block x hx hn)⟩
/-- How far two appends have come: 'a' the block of the new element, 'v' what was appended to. -/
structure TA (w0 : World) (e1 : TypeId) (s1 : Nat) (v1 : Value) (n1 : Nat) (x1 y1 : List Value) (e2 : TypeId) (s2 : Nat) (v2 : Value) (n2 : Nat) (x2 y2 : List Value) (a v b u : Option Value) (W : World) : Prop where
  keep : KeepS (fun g => v1.ownBlock = some g ∨ v2.ownBlock = some g) w0 W
  pa : ∀ x, a = some x → ∃ g, x = .slice (some ⟨g, 0, none⟩) 1 1 ∧ Blk W g e1 y1 ∧ w0.heap.size ≤ g
  pb : ∀ x, b = some x → ∃ g, x = .slice (some ⟨g, 0, none⟩) 1 1 ∧ Blk W g e2 y2 ∧ w0.heap.size ≤ g
  k1 : v = none → Own W e1 s1 v1 n1 x1
  k2 : u = none → Own W e2 s2 v2 n2 x2
  o1 : ∀ x, v = some x → Own W e1 s1 x (n1 + 1) (x1 ++ y1) ∧ (x.ownBlock = v1.ownBlock ∨ ∀ g, x.ownBlock = some g → w0.heap.size ≤ g)
  o2 : ∀ x, u = some x → Own W e2 s2 x (n2 + 1) (x2 ++ y2) ∧ (x.ownBlock = v2.ownBlock ∨ ∀ g, x.ownBlock = some g → w0.heap.size ≤ g)
  apart : Apart (v.getD v1) (u.getD v2)
  l1 : ∀ g, v1.ownBlock = some g → g < w0.heap.size
  l2 : ∀ g, v2.ownBlock = some g → g < w0.heap.size
section
variable {w0 W W' : World} {e1 : TypeId} {s1 : Nat} {v1 : Value} {n1 : Nat} {x1 y1 : List Value} {e2 : TypeId} {s2 : Nat} {v2 : Value} {n2 : Nat} {x2 y2 : List Value} {a v b u : Option Value}
theorem TA.start (k1 : Own w0 e1 s1 v1 n1 x1) (k2 : Own w0 e2 s2 v2 n2 x2) (ha : Apart v1 v2) : TA w0 e1 s1 v1 n1 x1 y1 e2 s2 v2 n2 x2 y2 none none none none w0 :=
  ⟨KeepS.refl _ _, fun _ h => (by cases h), fun _ h => (by cases h), fun _ => k1, fun _ => k2, fun _ h => (by cases h), fun _ h => (by cases h), ha, fun g hg => (World.ownsRow.lt k1 g hg).2, fun g hg => (World.ownsRow.lt k2 g hg).2⟩
theorem TA.swap (h : TA w0 e1 s1 v1 n1 x1 y1 e2 s2 v2 n2 x2 y2 a v b u W) : TA w0 e2 s2 v2 n2 x2 y2 e1 s1 v1 n1 x1 y1 b u a v W :=
  ⟨⟨h.keep.os, h.keep.tape, h.keep.output, h.keep.size, fun x hx hn => h.keep.block x hx (fun e => hn e.symm)⟩, h.pb, h.pa, h.k2, h.k1, h.o2, h.o1, h.apart.symm, h.l2, h.l1⟩
theorem TA.lay (h : TA w0 e1 s1 v1 n1 x1 y1 e2 s2 v2 n2 x2 y2 none v b u W) : TA w0 e1 s1 v1 n1 x1 y1 e2 s2 v2 n2 x2 y2 (some (.slice (some ⟨W.heap.size, 0, none⟩) 1 1)) v b u (W.alloc (.cells y1.toArray e1)) := by
  have hx : Ext W (W.alloc (.cells y1.toArray e1)) := (Ext.refl W).alloc _
  exact ⟨h.keep.then hx (by simp), fun x e => (by cases e; exact ⟨_, rfl, Blk.new W e1 y1, h.keep.size⟩), fun x e => (let ⟨g, e1, e2, e3⟩ := h.pb x e; ⟨g, e1, e2.keep hx (by simp), e3⟩), fun e => (h.k1 e).ext hx, fun e => (h.k2 e).ext hx,
    fun x e => ⟨(h.o1 x e).1.ext hx, (h.o1 x e).2⟩, fun x e => ⟨(h.o2 x e).1.ext hx, (h.o2 x e).2⟩, h.apart, h.l1, h.l2⟩
theorem TA.app_ (h : TA w0 e1 s1 v1 n1 x1 y1 e2 s2 v2 n2 x2 y2 a none b u W) {v' : Value} (ho : Own W' e1 s1 v' (n1 + 1) (x1 ++ y1)) (hm : Moved W W' v1 v') : TA w0 e1 s1 v1 n1 x1 y1 e2 s2 v2 n2 x2 y2 a (some v') b u W' := by
  have hg := hm.grown
  have hk : ∀ g, w0.heap.size ≤ g → some g ≠ v1.ownBlock := fun g hg e => by have := h.l1 g e.symm; omega
  have hu : (u.getD v2).ownBlock = none ∨ (u.getD v2).ownBlock ≠ v1.ownBlock := by
    cases e : (u.getD v2).ownBlock with
    | none => exact .inl rfl
    | some g => exact .inr fun e2 => h.apart g e2.symm e
  have hul : ∀ g, (u.getD v2).ownBlock = some g → g < W.heap.size := fun g e => by
    cases hu' : u with
    | none => subst hu'; exact (World.ownsRow.lt (h.k2 rfl) g e).2
    | some x => subst hu'; exact (World.ownsRow.lt (h.o2 x rfl).1 g e).2
  have hat : v'.ownBlock = v1.ownBlock ∨ ∀ g, v'.ownBlock = some g → w0.heap.size ≤ g := hm.at_.imp id (fun hn g e => Nat.le_trans h.keep.size (hn g e))
  refine ⟨h.keep.then hg (fun g e => .inl (.inl e)), fun x e => (let ⟨g, e1, e2, e3⟩ := h.pa x e; ⟨g, e1, e2.keep hg (hk g e3), e3⟩), fun x e => (let ⟨g, e1, e2, e3⟩ := h.pb x e; ⟨g, e1, e2.keep hg (hk g e3), e3⟩), fun e => (by cases e), fun e => ?_,
    fun x e => (by cases e; exact ⟨ho, hat⟩), fun x e => ?_, fun g e k => ?_, h.l1, h.l2⟩
  · subst e; exact (h.k2 rfl).keep hg hu
  · subst e; exact ⟨(h.o2 x rfl).1.keep hg hu, (h.o2 x rfl).2⟩
  · rcases hm.at_ with e2 | hn
    · exact h.apart g (e2.symm.trans e) k
    · have := hn g e; have := hul g k; omega
end
section
variable {P : Program} {w0 W : World} {e1 : TypeId} {s1 : Nat} {v1 : Value} {n1 : Nat} {x1 y1 : List Value} {e2 : TypeId} {s2 : Nat} {v2 : Value} {n2 : Nat} {x2 y2 : List Value} {a v b u : Option Value}
  {o : Oper} {a0 : Act} {K : Act → World → Prop} {Q : Exit → Act → World → Prop} {B : Nat → Prop}
theorem wp_ta_a (h : TA w0 e1 s1 v1 n1 x1 y1 e2 s2 v2 n2 x2 y2 none v b u W) (hB : ∀ g, B g → g < w0.heap.size) (t : TypeId) (x : Operand) (ho : o.op = .buildSlice t 1 #[(0, x)]) (uv : Value) (ht : P.underlying t = some (.slice e1)) (hx : a0.eval x = uv) (hv : uv.cells = y1.toArray)
    (hi : (P.info? e1).map (·.size) = some y1.length) (hz : ((P.info? e1).bind (·.zero)).isSome = true) (hl : y1.length ≤ 16777216) (hn : 0 < y1.length)
    (hk : ∀ g W', TA w0 e1 s1 v1 n1 x1 y1 e2 s2 v2 n2 x2 y2 (some g) v b u W' → KeepB B W W' → K (a0.put o.dst g) W') : o.wp P a0 W K Q :=
  wp_oneV W t x ho e1 uv y1 ht hx hv hi hz hl hn (hk _ _ h.lay (fun g hg => Below.heap_alloc _ _ _ (Nat.lt_of_lt_of_le (hB g hg) h.keep.size)))
theorem wp_ta_v {g : Value} (h : TA w0 e1 s1 v1 n1 x1 y1 e2 s2 v2 n2 x2 y2 (some g) none b u W) (hB : ∀ k, B k → k < w0.heap.size ∧ v1.ownBlock ≠ some k) (s x : Operand) (t : TypeId)
    (ho : o.op = .call { callee := .builtin .append, args := #[s, x], argTypes := #[t, t] }) (i : TypeInfo) (z : Value) (bytes : Nat) (ht : P.underlying t = some (.slice e1)) (hi : P.info? e1 = some i) (hz : i.zero = some z)
    (hsize : i.size = s1) (hby : i.bytes = bytes) (hzs : z.cells.size = s1) (hsz : 0 < s1) (hs : a0.eval s = v1) (hx : a0.eval x = g) (hl : y1.length = s1) (h1 : ∀ u ∈ y1, u.oneCell' = true)
    (h63 : n1 + 1 ≤ maxLen) (hbytes : (n1 + 1) * bytes ≤ 140737488355328)
    (hk : ∀ v' W', TA w0 e1 s1 v1 n1 x1 y1 e2 s2 v2 n2 x2 y2 (some g) (some v') b u W' → KeepB B W W' → K (a0.put o.dst v') W') : o.wp P a0 W K Q := by
  obtain ⟨gb, hgb, hblk, _⟩ := h.pa g rfl
  exact wp_app W s x t t ho e1 e1 i z s1 bytes ht ht hi hz hsize hby hzs hsz v1 n1 x1 hs (h.k1 rfl) _ 1 1 y1 (hx.trans hgb) (by omega) (fun _ => ⟨_, rfl, hblk.cells⟩) h1 h63 hbytes
    fun v' w' h2 h3 => hk v' w' (h.app_ h2 h3) (fun k hk => h3.grown.block k (Nat.lt_of_lt_of_le (hB k hk).1 h.keep.size) (fun e => (hB k hk).2 e.symm))
theorem wp_ta_b (h : TA w0 e1 s1 v1 n1 x1 y1 e2 s2 v2 n2 x2 y2 a v none u W) (hB : ∀ g, B g → g < w0.heap.size) (t : TypeId) (x : Operand) (ho : o.op = .buildSlice t 1 #[(0, x)]) (uv : Value) (ht : P.underlying t = some (.slice e2)) (hx : a0.eval x = uv) (hv : uv.cells = y2.toArray)
    (hi : (P.info? e2).map (·.size) = some y2.length) (hz : ((P.info? e2).bind (·.zero)).isSome = true) (hl : y2.length ≤ 16777216) (hn : 0 < y2.length)
    (hk : ∀ g W', TA w0 e1 s1 v1 n1 x1 y1 e2 s2 v2 n2 x2 y2 a v (some g) u W' → KeepB B W W' → K (a0.put o.dst g) W') : o.wp P a0 W K Q :=
  wp_ta_a h.swap hB t x ho uv ht hx hv hi hz hl hn fun g W' h2 h3 => hk g W' h2.swap h3
theorem wp_ta_u {g : Value} (h : TA w0 e1 s1 v1 n1 x1 y1 e2 s2 v2 n2 x2 y2 a v (some g) none W) (hB : ∀ k, B k → k < w0.heap.size ∧ v2.ownBlock ≠ some k) (s x : Operand) (t : TypeId)
    (ho : o.op = .call { callee := .builtin .append, args := #[s, x], argTypes := #[t, t] }) (i : TypeInfo) (z : Value) (bytes : Nat) (ht : P.underlying t = some (.slice e2)) (hi : P.info? e2 = some i) (hz : i.zero = some z)
    (hsize : i.size = s2) (hby : i.bytes = bytes) (hzs : z.cells.size = s2) (hsz : 0 < s2) (hs : a0.eval s = v2) (hx : a0.eval x = g) (hl : y2.length = s2) (h1 : ∀ u ∈ y2, u.oneCell' = true)
    (h63 : n2 + 1 ≤ maxLen) (hbytes : (n2 + 1) * bytes ≤ 140737488355328)
    (hk : ∀ v' W', TA w0 e1 s1 v1 n1 x1 y1 e2 s2 v2 n2 x2 y2 a v (some g) (some v') W' → KeepB B W W' → K (a0.put o.dst v') W') : o.wp P a0 W K Q :=
  wp_ta_v h.swap hB s x t ho i z bytes ht hi hz hsize hby hzs hsz hs hx hl h1 h63 hbytes fun v' W' h2 h3 => hk v' W' h2.swap h3
end
theorem sharedT {Q : Prop} {A : Value → Value → Value → World → Prop} (J : Value → Value → Value → World → Prop) (h1 : (∀ a b c w, J a b c w → A a b c w) → Q) (h2 : ∀ a b c w, J a b c w → A a b c w) : Q := h1 h2
end Go.Proofs.Ytklljkfnlakdaaa

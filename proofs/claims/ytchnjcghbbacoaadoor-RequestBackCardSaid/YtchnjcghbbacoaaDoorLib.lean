/- A small library, with no program in it: what a Go value holds in memory, as a Lean value of a described type; frames; laws for the walk. No condition. -/
import Derived.WalkKit
import Derived.WalkSpells
import Derived.WalkLawsBesides
import Derived.ProofKit
import Derived.OpenShut
import Derived.Deep.Slices
import Derived.Deep.AppendLies
import Derived.Deep.Draws
import Derived.Maps.AppendAt
import Derived.Lib.Hide
set_option linter.unusedVariables false
set_option linter.unusedSimpArgs false
set_option linter.unnecessarySimpa false
namespace Go.Proofs.YtchnjcghbbacoaaDoor
open Go.RowKit

/-! ### Addresses -/
theorem add_block (a : Addr) (n : Nat) : (a.add n).block = a.block := by unfold Addr.add; split <;> rfl
theorem add_add' (a : Addr) (i j : Nat) : (a.add i).add j = a.add (i + j) := by
  unfold Addr.add
  by_cases hi : i = 0 <;> by_cases hj : j = 0 <;> simp [hi, hj, Nat.add_assoc]

/-! ### Cells -/
/-- From the address on, the cells hold these values. -/
def Cells (w : World) (a : Addr) (cs : List Value) : Prop := ∀ j u, cs[j]? = some u → w.cell? (a.add j) = some u
theorem Cells.nil (w : World) (a : Addr) : Cells w a [] := by intro j u h; simp at h
theorem Cells.keep {w w' : World} {a : Addr} {cs : List Value} (h : Cells w a cs) (hk : w'.heap[a.block]? = w.heap[a.block]?) : Cells w' a cs :=
  fun j u hu => (World.cell?_of_block (by rw [add_block]; exact hk)).trans (h j u hu)
theorem Cells.left {w : World} {a : Addr} {xs ys : List Value} (h : Cells w a (xs ++ ys)) : Cells w a xs := fun j u hu =>
  h j u (by rw [List.getElem?_append_left (List.getElem?_eq_some_iff.1 hu).1]; exact hu)
theorem Cells.right {w : World} {a : Addr} {xs ys : List Value} (h : Cells w a (xs ++ ys)) : Cells w (a.add xs.length) ys := fun j u hu => by
  rw [add_add']
  exact h _ u (by rw [List.getElem?_append_right (by omega)]; simpa using hu)
theorem Cells.append {w : World} {a : Addr} {xs ys : List Value} (h : Cells w a xs) (k : Cells w (a.add xs.length) ys) : Cells w a (xs ++ ys) := fun j u hu => by
  rcases Nat.lt_or_ge j xs.length with hj | hj
  · rw [List.getElem?_append_left hj] at hu; exact h j u hu
  · rw [List.getElem?_append_right hj] at hu
    have := k _ u hu
    rw [add_add'] at this
    rwa [show xs.length + (j - xs.length) = j by omega] at this
theorem Cells.take {w : World} {a : Addr} {xs : List Value} (h : Cells w a xs) (n : Nat) : Cells w a (xs.take n) :=
  Cells.left (ys := xs.drop n) (by rw [List.take_append_drop]; exact h)
theorem Cells.drop {w : World} {a : Addr} {xs : List Value} (h : Cells w a xs) (n : Nat) : Cells w (a.add n) (xs.drop n) := fun j u hu => by
  rw [add_add']
  exact h _ u (by rw [← hu, List.getElem?_drop])
theorem Cells.of_block {w : World} {g : Nat} {cs : Array Value} {t : TypeId} {fr : Nat × Nat} (hb : w.heap[g]? = some (.cells cs t fr)) : Cells w ⟨g, 0, none⟩ cs.toList := World.news_of_block hb
theorem Cells.lt {w : World} {a : Addr} {cs : List Value} (h : Cells w a cs) (hn : cs ≠ []) : a.block < w.heap.size := by
  cases cs with
  | nil => exact absurd rfl hn
  | cons c r =>
    have := World.block_lt_of_cell? w (a.add 0) (h 0 c rfl)
    rwa [add_block] at this

/-! ### Described types -/
abbrev Fp := Nat → Prop
inductive Ty where
  | u8 | nat (k : IntKind) | int (k : IntKind) | bool | str
  | arr (n : Nat) (t : Ty) | sl (t : Ty) | st (fields : Ty) | unit | pair (a b : Ty)
@[reducible] def Ty.Data : Ty → Type
  | .u8 => UInt8 | .nat _ => Nat | .int _ => Int | .bool => Bool | .str => ByteArray
  | .arr _ t => List t.Data | .sl t => List t.Data | .st t => t.Data | .unit => Unit | .pair a b => a.Data × b.Data
def Ty.size : Ty → Nat
  | .arr n t => n * t.size | .st t => t.size | .unit => 0 | .pair a b => a.size + b.size | _ => 1
def AllH {α : Type} (R : List Value → α → Prop) : List Value → List α → Prop
  | cs, [] => cs = []
  | cs, a :: l => ∃ c1 c2, cs = c1 ++ c2 ∧ R c1 a ∧ AllH R c2 l
def Ty.holds (w : World) (F : Fp) : (t : Ty) → List Value → t.Data → Prop
  | .u8, cs, b => cs = [.int .u8 (b.toNat : Int)]
  | .nat k, cs, n => cs = [.int k (n : Int)] ∧ (Lit.int k n).wf = true
  | .int k, cs, n => cs = [.int k n] ∧ (Lit.int k n).wf = true
  | .bool, cs, b => cs = [.bool b]
  | .str, cs, s => cs = [.string s] ∧ s.size ≤ maxLen
  | .arr n t, cs, l => l.length = n ∧ AllH (t.holds w F) cs l
  | .sl t, cs, l => ∃ A c xs, cs = [.slice A l.length c] ∧ l.length ≤ c ∧ c ≤ maxLen ∧ (A = none → c = 0) ∧ (l ≠ [] → ∃ ad, A = some ad ∧ F ad.block ∧ Cells w ad xs) ∧ AllH (t.holds w F) xs l
  | .st t, cs, d => t.holds w F cs d
  | .unit, cs, _ => cs = []
  | .pair a b, cs, d => ∃ c1 c2, cs = c1 ++ c2 ∧ a.holds w F c1 d.1 ∧ b.holds w F c2 d.2

theorem AllH.mono {α : Type} {R S : List Value → α → Prop} : ∀ {l : List α} {cs : List Value}, (∀ c a, a ∈ l → R c a → S c a) → AllH R cs l → AllH S cs l
  | [], _, _, h => h
  | a :: l, _, hi, h => by
    obtain ⟨c1, c2, rfl, h1, h2⟩ := h
    exact ⟨c1, c2, rfl, hi _ _ (by simp) h1, AllH.mono (fun c b hb => hi c b (List.mem_cons_of_mem _ hb)) h2⟩
theorem AllH.length {α : Type} {R : List Value → α → Prop} {n : Nat} (hR : ∀ c a, R c a → c.length = n) : ∀ {l : List α} {cs : List Value}, AllH R cs l → cs.length = l.length * n
  | [], _, h => by subst h; simp
  | a :: l, _, h => by
    obtain ⟨c1, c2, rfl, h1, h2⟩ := h
    rw [List.length_append, hR _ _ h1, AllH.length hR h2, List.length_cons, Nat.add_mul, Nat.one_mul, Nat.add_comm]
theorem Ty.len {w : World} {F : Fp} : ∀ (t : Ty) {cs : List Value} {d : t.Data}, t.holds w F cs d → cs.length = t.size
  | .u8, _, _, h => by subst h; rfl
  | .nat _, _, _, h => by obtain ⟨rfl, _⟩ := h; rfl
  | .int _, _, _, h => by obtain ⟨rfl, _⟩ := h; rfl
  | .bool, _, _, h => by subst h; rfl
  | .str, _, _, h => by obtain ⟨rfl, _⟩ := h; rfl
  | .arr n t, _, _, h => by rw [AllH.length (n := t.size) (fun _ _ h => Ty.len t h) h.2, h.1]; rfl
  | .sl _, _, _, h => by obtain ⟨A, c, xs, rfl, _⟩ := h; rfl
  | .st t, _, _, h => Ty.len t h
  | .unit, _, _, h => by subst h; rfl
  | .pair a b, _, _, h => by
    obtain ⟨c1, c2, rfl, h1, h2⟩ := h
    rw [List.length_append, Ty.len a h1, Ty.len b h2]; rfl
theorem Ty.keep {w w' : World} {F G : Fp} (hk : ∀ b, F b → w'.heap[b]? = w.heap[b]?) (hG : ∀ b, F b → G b) : ∀ (t : Ty) {cs : List Value} {d : t.Data}, t.holds w F cs d → t.holds w' G cs d
  | .u8, _, _, h => h
  | .nat _, _, _, h => h
  | .int _, _, _, h => h
  | .bool, _, _, h => h
  | .str, _, _, h => h
  | .arr _ t, _, _, h => ⟨h.1, AllH.mono (fun _ _ _ h => Ty.keep hk hG t h) h.2⟩
  | .sl t, _, _, h => by
    obtain ⟨A, c, xs, rfl, h1, h2, h3, h4, h5⟩ := h
    refine ⟨A, c, xs, rfl, h1, h2, h3, fun hn => ?_, AllH.mono (fun _ _ _ h => Ty.keep hk hG t h) h5⟩
    obtain ⟨ad, e, hf, hc⟩ := h4 hn
    exact ⟨ad, e, hG _ hf, hc.keep (hk _ hf)⟩
  | .st t, _, _, h => Ty.keep hk hG t h
  | .unit, _, _, h => h
  | .pair a b, _, _, h => by
    obtain ⟨c1, c2, rfl, h1, h2⟩ := h
    exact ⟨c1, c2, rfl, Ty.keep hk hG a h1, Ty.keep hk hG b h2⟩

theorem AllH.one_of {α : Type} {R : List Value → α → Prop} (hR : ∀ c a, R c a → ∀ u ∈ c, u.oneCell' = true) : ∀ {l : List α} {cs : List Value}, AllH R cs l → ∀ u ∈ cs, u.oneCell' = true
  | [], _, h => by subst h; simp
  | a :: l, _, h => by
    obtain ⟨c1, c2, rfl, h1, h2⟩ := h
    intro u hu
    rcases List.mem_append.1 hu with hu | hu
    · exact hR _ _ h1 u hu
    · exact AllH.one_of hR h2 u hu
theorem Ty.one {w : World} {F : Fp} : ∀ (t : Ty) {cs : List Value} {d : t.Data}, t.holds w F cs d → ∀ u ∈ cs, u.oneCell' = true
  | .u8, _, _, h => by subst h; simp [Value.oneCell']
  | .nat _, _, _, h => by obtain ⟨rfl, _⟩ := h; simp [Value.oneCell']
  | .int _, _, _, h => by obtain ⟨rfl, _⟩ := h; simp [Value.oneCell']
  | .bool, _, _, h => by subst h; simp [Value.oneCell']
  | .str, _, _, h => by obtain ⟨rfl, _⟩ := h; simp [Value.oneCell']
  | .arr _ t, _, _, h => AllH.one_of (fun _ _ h => Ty.one t h) h.2
  | .sl _, _, _, h => by obtain ⟨A, c, xs, rfl, _⟩ := h; simp [Value.oneCell']
  | .st t, _, _, h => Ty.one t h
  | .unit, _, _, h => by subst h; simp
  | .pair a b, _, _, h => by
    obtain ⟨c1, c2, rfl, h1, h2⟩ := h
    intro u hu
    rcases List.mem_append.1 hu with hu | hu
    · exact Ty.one a h1 u hu
    · exact Ty.one b h2 u hu

/-- The part of the cells that holds the element of that number. -/
theorem AllH.at {α : Type} {R : List Value → α → Prop} {n : Nat} (hR : ∀ c a, R c a → c.length = n) : ∀ {l : List α} {cs : List Value} {i : Nat} {a : α}, AllH R cs l → l[i]? = some a → R ((cs.drop (i * n)).take n) a
  | [], _, i, _, _, hi => by simp at hi
  | b :: l, _, 0, a, h, hi => by
    obtain ⟨c1, c2, rfl, h1, h2⟩ := h
    simp at hi
    subst hi
    rw [Nat.zero_mul, List.drop_zero, ← hR _ _ h1, List.take_left]
    exact h1
  | b :: l, _, i + 1, a, h, hi => by
    obtain ⟨c1, c2, rfl, h1, h2⟩ := h
    have := AllH.at hR h2 (i := i) (a := a) (by simpa using hi)
    have e : (c1 ++ c2).drop ((i + 1) * n) = c2.drop (i * n) := by
      rw [List.drop_append, List.drop_eq_nil_of_le (by rw [hR _ _ h1, Nat.add_mul]; omega), List.nil_append, hR _ _ h1]
      congr 1
      rw [Nat.add_mul]
      omega
    rw [e]
    exact this
theorem AllH.append {α : Type} {R : List Value → α → Prop} : ∀ {l m : List α} {cs ds : List Value}, AllH R cs l → AllH R ds m → AllH R (cs ++ ds) (l ++ m)
  | [], _, _, _, h, k => by subst h; exact k
  | a :: l, _, _, _, h, k => by
    obtain ⟨c1, c2, rfl, h1, h2⟩ := h
    exact ⟨c1, c2 ++ _, by rw [List.append_assoc], h1, AllH.append h2 k⟩
theorem AllH.one {α : Type} {R : List Value → α → Prop} {c : List Value} {a : α} (h : R c a) : AllH R c [a] := ⟨c, [], by simp, h, rfl⟩

/-! ### Bytes -/
def bv (bs : List UInt8) : List Value := bs.map fun b => .int .u8 (b.toNat : Int)
@[simp] theorem bv_length (bs : List UInt8) : (bv bs).length = bs.length := by simp [bv]
theorem bv_append (a b : List UInt8) : bv (a ++ b) = bv a ++ bv b := by simp [bv]
theorem bv_one (bs : List UInt8) : ∀ u ∈ bv bs, u.oneCell' = true := by
  intro u hu
  obtain ⟨_, _, rfl⟩ := List.mem_map.1 hu
  rfl
theorem AllH.bytes {w : World} {F : Fp} : ∀ {l : List UInt8} {cs : List Value}, AllH (Ty.u8.holds w F) cs l ↔ cs = bv l
  | [], _ => Iff.rfl
  | b :: l, cs => by
    constructor
    · rintro ⟨c1, c2, rfl, h1, h2⟩
      rw [h1, AllH.bytes.1 h2]; rfl
    · rintro rfl
      exact ⟨[.int .u8 (b.toNat : Int)], bv l, rfl, rfl, AllH.bytes.2 rfl⟩

theorem AllH.nat_at {w : World} {F : Fp} {q : IntKind} : ∀ {l : List Nat} {cs : List Value} {k : Nat}, AllH ((Ty.nat q).holds w F) cs l → (h : k < l.length) → cs[k]? = some (.int q ((l[k] : Nat) : Int)) ∧ (Lit.int q ((l[k] : Nat) : Int)).wf = true
  | [], _, _, _, h => by simp at h
  | a :: l, _, 0, h, _ => by
    obtain ⟨c1, c2, rfl, ⟨rfl, hw⟩, h2⟩ := h
    exact ⟨rfl, hw⟩
  | a :: l, _, k + 1, h, hk => by
    obtain ⟨c1, c2, rfl, ⟨rfl, _⟩, h2⟩ := h
    simpa using AllH.nat_at h2 (k := k) (by simpa using hk)

/-- The cells of one element of a slice. -/
theorem AllH.elem {w : World} {F : Fp} {t : Ty} {l : List t.Data} {cs : List Value} {k : Nat} (h : AllH (t.holds w F) cs l) (hk : k < l.length) : t.holds w F ((cs.drop (k * t.size)).take t.size) l[k] :=
  AllH.at (R := t.holds w F) (fun _ _ h => Ty.len t h) h (List.getElem?_eq_getElem hk)
theorem AllH.u8_at {w : World} {F : Fp} {l : List UInt8} {cs : List Value} {k : Nat} (h : AllH (Ty.u8.holds w F) cs l) (hk : k < l.length) : cs[k]? = some (.int .u8 (l[k].toNat : Int)) := by
  rw [AllH.bytes.1 h]
  simp [bv, List.getElem?_eq_getElem hk]
theorem AllH.sl_at {w : World} {F : Fp} {t : Ty} : ∀ {l : List (List t.Data)} {cs : List Value} {k : Nat}, AllH ((Ty.sl t).holds w F) cs l → (h : k < l.length) → ∃ v, cs[k]? = some v ∧ (Ty.sl t).holds w F [v] l[k]
  | [], _, _, _, h => by simp at h
  | a :: l, _, 0, h, _ => by
    obtain ⟨c1, c2, rfl, h1, h2⟩ := h
    obtain ⟨A, c, xs, rfl, h3⟩ := h1
    exact ⟨_, rfl, A, c, xs, rfl, h3⟩
  | a :: l, _, k + 1, h, hk => by
    obtain ⟨c1, c2, rfl, h1, h2⟩ := h
    obtain ⟨A, c, xs, rfl, _⟩ := h1
    simpa using AllH.sl_at h2 (k := k) (by simpa using hk)

/-! ### Frames -/
/-- Nothing that was there has changed. -/
abbrev Ext (w w' : World) : Prop := w.grownBy w' none
theorem Ext.refl (w : World) : Ext w w := World.grownBy.refl w none
theorem Ext.alloc {a w : World} (h : Ext a w) (o : Obj) : Ext a (w.alloc o) := h.trans (World.grownBy_alloc w o none)
theorem Ext.trans {a b c : World} (h : Ext a b) (k : Ext b c) : Ext a c := World.grownBy.trans h k
theorem Ext.drew {a w : World} (h : Ext a w) : Ext a w.drew := ⟨h.os, h.tape, h.output, h.size, h.block⟩
theorem Ext.drewN {a w : World} (h : Ext a w) (n : Nat) : Ext a (w.drewN n) := ⟨h.os, h.tape, h.output, h.size, h.block⟩
theorem grownBy_of {a w : World} {row row' : Option Nat} (h : a.grownBy w row) (hr : row = row' ∨ ∀ g, row = some g → a.heap.size ≤ g) : a.grownBy w row' :=
  ⟨h.os, h.tape, h.output, h.size, fun k hk hne => h.block k hk (fun e => by
    rcases hr with rfl | hr
    · exact hne e
    · have := hr k e.symm; omega)⟩
theorem Ext.any {a w : World} (h : Ext a w) (row : Option Nat) : a.grownBy w row := grownBy_of h (.inr (by simp))
theorem Ext.setCell {a w : World} (h : Ext a w) {p : Addr} (hp : a.heap.size ≤ p.block) (u : Value) : Ext a (w.setCell p u) :=
  ⟨h.os, h.tape, h.output, by simpa [World.setCell] using h.size, fun i hi hne => (Below.heap_setCell w p u i (by omega)).trans (h.block i hi hne)⟩
/-- Two steps; what the second changes is the first's row, or new since. -/
theorem grown_then {a b c : World} {r s : Option Nat} (h : a.grownBy b r) (k : b.grownBy c s) (hs : s = r ∨ ∀ g, s = some g → a.heap.size ≤ g) : a.grownBy c r :=
  ⟨k.os.trans h.os, k.tape.trans h.tape, k.output.trans h.output, Nat.le_trans h.size k.size, fun i hi hne => (k.block i (Nat.lt_of_lt_of_le hi h.size) (fun e => by
    rcases hs with rfl | hs
    · exact hne e
    · have := hs i e.symm; omega)).trans (h.block i hi hne)⟩
/-- A slice that is used up by a call: only its own row may have changed; the new one lies in that row, or in a new one. -/
structure Moved (w w' : World) (v v' : Value) : Prop where
  grown : w.grownBy w' v.ownBlock
  at_ : v'.ownBlock = v.ownBlock ∨ ∀ g, v'.ownBlock = some g → w.heap.size ≤ g
theorem Moved.refl (w : World) (v : Value) : Moved w w v v := ⟨World.grownBy.refl _ _, .inl rfl⟩
theorem Moved.trans {a b c : World} {u v x : Value} (h : Moved a b u v) (k : Moved b c v x) : Moved a c u x := by
  refine ⟨grown_then h.grown k.grown (h.at_.imp id id), ?_⟩
  rcases k.at_ with e | hg
  · rw [e]; exact h.at_
  · exact .inr fun g e => Nat.le_trans h.grown.size (hg g e)
theorem Moved.pre {a b c : World} {u v : Value} (h : Ext a b) (k : Moved b c u v) : Moved a c u v :=
  ⟨grown_then (h.any _) k.grown (.inl rfl), k.at_.imp id fun hg g e => Nat.le_trans h.size (hg g e)⟩
theorem Moved.post {a b c : World} {u v : Value} (h : Moved a b u v) (k : Ext b c) : Moved a c u v :=
  ⟨grown_then h.grown (k.any none) (.inr (by simp)), h.at_⟩
/-- Behind a fresh start the row is new: nothing old has changed. -/
theorem Moved.ext {w w' : World} {v' : Value} (h : Moved w w' (.slice none 0 0) v') : Ext w w' := h.grown

/-- What is read lies elsewhere. -/
abbrev Far (F : Fp) (w : World) (v : Value) : Prop := ∀ b, F b → b < w.heap.size ∧ v.ownBlock ≠ some b
theorem Moved.same {w w' : World} {v v' : Value} {F : Fp} (h : Moved w w' v v') (hF : Far F w v) : ∀ b, F b → w'.heap[b]? = w.heap[b]? :=
  fun b hb => h.grown.block b (hF b hb).1 (fun e => (hF b hb).2 e.symm)
theorem Moved.far {w w' : World} {v v' : Value} {F : Fp} (h : Moved w w' v v') (hF : Far F w v) : Far F w' v' := fun b hb => by
  have h1 := (hF b hb).1
  have h2 := (hF b hb).2
  refine ⟨Nat.lt_of_lt_of_le h1 h.grown.size, fun e => ?_⟩
  rcases h.at_ with e' | hg
  · exact h2 (e'.symm.trans e)
  · have := hg b e; omega
/-- A slice made new by the call. -/
abbrev Fresh (w w' : World) (v : Value) : Prop := Moved w w' (.slice none 0 0) v
theorem Fresh.ext {w w' : World} {v : Value} (h : Fresh w w' v) : Ext w w' := h.grown
theorem Fresh.moved {w w' : World} {v : Value} (h : Fresh w w' v) (u : Value) : Moved w w' u v :=
  ⟨(Fresh.ext h).any _, .inr (h.at_.elim (fun e g he => by rw [e] at he; cases he) id)⟩
theorem Fresh.new {w w' : World} {v : Value} (h : Fresh w w' v) : ∀ g, v.ownBlock = some g → w.heap.size ≤ g := h.at_.elim (fun e g he => by rw [e] at he; cases he) id
theorem Moved.holds {w w' : World} {v v' : Value} {F : Fp} {t : Ty} {cs : List Value} {d : t.Data} (h : Moved w w' v v') (hF : Far F w v) (k : t.holds w F cs d) : t.holds w' F cs d := Ty.keep (h.same hF) (fun _ h => h) _ k
theorem Ext.same {w w' : World} {F : Fp} (h : Ext w w') (hF : ∀ b, F b → b < w.heap.size) : ∀ b, F b → w'.heap[b]? = w.heap[b]? := fun b hb => h.block b (hF b hb) (by simp)
theorem Ext.holds {w w' : World} {F : Fp} {t : Ty} {cs : List Value} {d : t.Data} (h : Ext w w') (hF : ∀ b, F b → b < w.heap.size) (k : t.holds w F cs d) : t.holds w' F cs d := Ty.keep (h.same hF) (fun _ h => h) _ k

/-- A slice that may be appended to: the row is its own. -/
def Own (w : World) (e : TypeId) (size : Nat) (v : Value) (n : Nat) (xs : List Value) : Prop := w.ownsRow 0 e size v n xs
theorem Own.keep {w w' : World} {e : TypeId} {size : Nat} {v : Value} {n : Nat} {xs : List Value} {row : Option Nat} (h : Own w e size v n xs) (hg : w.grownBy w' row) (hne : v.ownBlock = none ∨ v.ownBlock ≠ row) : Own w' e size v n xs := World.ownsRow.kept h hg hne
theorem Own.ext {w w' : World} {e : TypeId} {size : Nat} {v : Value} {n : Nat} {xs : List Value} (h : Own w e size v n xs) (hg : Ext w w') : Own w' e size v n xs :=
  World.ownsRow.kept h hg (by cases v.ownBlock <;> simp)
theorem Own.nil (w : World) (e : TypeId) (size : Nat) : Own w e size (.slice none 0 0) 0 [] := World.ownsRow_nil w 0 e size
theorem Own.form {w : World} {e : TypeId} {size : Nat} {v : Value} {n : Nat} {xs : List Value} (h : Own w e size v n xs) : ∃ A c, v = .slice A n c := by
  rcases h.2 with ⟨rfl, h0⟩ | ⟨g, cap, cur, rfl, _⟩
  · exact ⟨none, 0, by rw [h0]⟩
  · exact ⟨_, _, rfl⟩
end Go.Proofs.YtchnjcghbbacoaaDoor

/- Walks and plain laws, put together in build order. Conditions: what each of them names. -/
import Derived.WalkKit
import Derived.WalkSpells
import Derived.WalkLawsBesides
import Derived.ProofKit
import Derived.OpenShut
import Derived.Deep.Slices
import Derived.Deep.AppendLies
import Derived.Deep.Draws
import Derived.Maps.AppendAt
import Derived.Lib.Hide
import Derived.Laws.IdiomCopy
import Derived.Laws.CopyRow
import Derived.Stop.BytesEq
set_option linter.unusedVariables false
set_option linter.unusedSimpArgs false
set_option linter.unnecessarySimpa false
namespace Go.Proofs.Ytfoomnibfibfnaa
section
open Go.RowKit

/-! ### Addresses -/
theorem add_block (a : Addr) (n : Nat) : (a.add n).block = a.block := by unfold Addr.add; split <;> rfl
theorem add_add' (a : Addr) (i j : Nat) : (a.add i).add j = a.add (i + j) := by
  unfold Addr.add
  by_cases hi : i = 0 <;> by_cases hj : j = 0 <;> simp [hi, hj, Nat.add_assoc]

/-! ### Cells -/
/-- From the address on, the cells hold these values. -/
def Cells (w : World) (a : Addr) (cs : List Value) : Prop := ∀ j u, cs[j]? = some u → w.cell? (a.add j) = some u
theorem Cells.nil (w : World) (a : Addr) : Cells w a [] := by intro j u h; simp at h
theorem Cells.keep {w w' : World} {a : Addr} {cs : List Value} (h : Cells w a cs) (hk : w'.heap[a.block]? = w.heap[a.block]?) : Cells w' a cs :=
  fun j u hu => (World.cell?_of_block (by rw [add_block]; exact hk)).trans (h j u hu)
theorem Cells.left {w : World} {a : Addr} {xs ys : List Value} (h : Cells w a (xs ++ ys)) : Cells w a xs := fun j u hu =>
  h j u (by rw [List.getElem?_append_left (List.getElem?_eq_some_iff.1 hu).1]; exact hu)
theorem Cells.right {w : World} {a : Addr} {xs ys : List Value} (h : Cells w a (xs ++ ys)) : Cells w (a.add xs.length) ys := fun j u hu => by
  rw [add_add']
  exact h _ u (by rw [List.getElem?_append_right (by omega)]; simpa using hu)
theorem Cells.append {w : World} {a : Addr} {xs ys : List Value} (h : Cells w a xs) (k : Cells w (a.add xs.length) ys) : Cells w a (xs ++ ys) := fun j u hu => by
  rcases Nat.lt_or_ge j xs.length with hj | hj
  · rw [List.getElem?_append_left hj] at hu; exact h j u hu
  · rw [List.getElem?_append_right hj] at hu
    have := k _ u hu
    rw [add_add'] at this
    rwa [show xs.length + (j - xs.length) = j by omega] at this
theorem Cells.take {w : World} {a : Addr} {xs : List Value} (h : Cells w a xs) (n : Nat) : Cells w a (xs.take n) :=
  Cells.left (ys := xs.drop n) (by rw [List.take_append_drop]; exact h)
theorem Cells.drop {w : World} {a : Addr} {xs : List Value} (h : Cells w a xs) (n : Nat) : Cells w (a.add n) (xs.drop n) := fun j u hu => by
  rw [add_add']
  exact h _ u (by rw [← hu, List.getElem?_drop])
theorem Cells.of_block {w : World} {g : Nat} {cs : Array Value} {t : TypeId} {fr : Nat × Nat} (hb : w.heap[g]? = some (.cells cs t fr)) : Cells w ⟨g, 0, none⟩ cs.toList := World.news_of_block hb
theorem Cells.lt {w : World} {a : Addr} {cs : List Value} (h : Cells w a cs) (hn : cs ≠ []) : a.block < w.heap.size := by
  cases cs with
  | nil => exact absurd rfl hn
  | cons c r =>
    have := World.block_lt_of_cell? w (a.add 0) (h 0 c rfl)
    rwa [add_block] at this

/-! ### Described types -/
abbrev Fp := Nat → Prop
inductive Ty where
  | u8 | nat (k : IntKind) | int (k : IntKind) | bool | str
  | arr (n : Nat) (t : Ty) | sl (t : Ty) | st (fields : Ty) | unit | pair (a b : Ty)
@[reducible] def Ty.Data : Ty → Type
  | .u8 => UInt8 | .nat _ => Nat | .int _ => Int | .bool => Bool | .str => ByteArray
  | .arr _ t => List t.Data | .sl t => List t.Data | .st t => t.Data | .unit => Unit | .pair a b => a.Data × b.Data
def Ty.size : Ty → Nat
  | .arr n t => n * t.size | .st t => t.size | .unit => 0 | .pair a b => a.size + b.size | _ => 1
def AllH {α : Type} (R : List Value → α → Prop) : List Value → List α → Prop
  | cs, [] => cs = []
  | cs, a :: l => ∃ c1 c2, cs = c1 ++ c2 ∧ R c1 a ∧ AllH R c2 l
def Ty.holds (w : World) (F : Fp) : (t : Ty) → List Value → t.Data → Prop
  | .u8, cs, b => cs = [.int .u8 (b.toNat : Int)]
  | .nat k, cs, n => cs = [.int k (n : Int)] ∧ (Lit.int k n).wf = true
  | .int k, cs, n => cs = [.int k n] ∧ (Lit.int k n).wf = true
  | .bool, cs, b => cs = [.bool b]
  | .str, cs, s => cs = [.string s] ∧ s.size ≤ maxLen
  | .arr n t, cs, l => l.length = n ∧ AllH (t.holds w F) cs l
  | .sl t, cs, l => ∃ A c xs, cs = [.slice A l.length c] ∧ l.length ≤ c ∧ c ≤ maxLen ∧ (A = none → c = 0) ∧ (l ≠ [] → ∃ ad, A = some ad ∧ F ad.block ∧ Cells w ad xs) ∧ AllH (t.holds w F) xs l
  | .st t, cs, d => t.holds w F cs d
  | .unit, cs, _ => cs = []
  | .pair a b, cs, d => ∃ c1 c2, cs = c1 ++ c2 ∧ a.holds w F c1 d.1 ∧ b.holds w F c2 d.2

theorem AllH.mono {α : Type} {R S : List Value → α → Prop} : ∀ {l : List α} {cs : List Value}, (∀ c a, a ∈ l → R c a → S c a) → AllH R cs l → AllH S cs l
  | [], _, _, h => h
  | a :: l, _, hi, h => by
    obtain ⟨c1, c2, rfl, h1, h2⟩ := h
    exact ⟨c1, c2, rfl, hi _ _ (by simp) h1, AllH.mono (fun c b hb => hi c b (List.mem_cons_of_mem _ hb)) h2⟩
theorem AllH.length {α : Type} {R : List Value → α → Prop} {n : Nat} (hR : ∀ c a, R c a → c.length = n) : ∀ {l : List α} {cs : List Value}, AllH R cs l → cs.length = l.length * n
  | [], _, h => by subst h; simp
  | a :: l, _, h => by
    obtain ⟨c1, c2, rfl, h1, h2⟩ := h
    rw [List.length_append, hR _ _ h1, AllH.length hR h2, List.length_cons, Nat.add_mul, Nat.one_mul, Nat.add_comm]
theorem Ty.len {w : World} {F : Fp} : ∀ (t : Ty) {cs : List Value} {d : t.Data}, t.holds w F cs d → cs.length = t.size
  | .u8, _, _, h => by subst h; rfl
  | .nat _, _, _, h => by obtain ⟨rfl, _⟩ := h; rfl
  | .int _, _, _, h => by obtain ⟨rfl, _⟩ := h; rfl
  | .bool, _, _, h => by subst h; rfl
  | .str, _, _, h => by obtain ⟨rfl, _⟩ := h; rfl
  | .arr n t, _, _, h => by rw [AllH.length (n := t.size) (fun _ _ h => Ty.len t h) h.2, h.1]; rfl
  | .sl _, _, _, h => by obtain ⟨A, c, xs, rfl, _⟩ := h; rfl
  | .st t, _, _, h => Ty.len t h
  | .unit, _, _, h => by subst h; rfl
  | .pair a b, _, _, h => by
    obtain ⟨c1, c2, rfl, h1, h2⟩ := h
    rw [List.length_append, Ty.len a h1, Ty.len b h2]; rfl
theorem Ty.keep {w w' : World} {F G : Fp} (hk : ∀ b, F b → w'.heap[b]? = w.heap[b]?) (hG : ∀ b, F b → G b) : ∀ (t : Ty) {cs : List Value} {d : t.Data}, t.holds w F cs d → t.holds w' G cs d
  | .u8, _, _, h => h
  | .nat _, _, _, h => h
  | .int _, _, _, h => h
  | .bool, _, _, h => h
  | .str, _, _, h => h
  | .arr _ t, _, _, h => ⟨h.1, AllH.mono (fun _ _ _ h => Ty.keep hk hG t h) h.2⟩
  | .sl t, _, _, h => by
    obtain ⟨A, c, xs, rfl, h1, h2, h3, h4, h5⟩ := h
    refine ⟨A, c, xs, rfl, h1, h2, h3, fun hn => ?_, AllH.mono (fun _ _ _ h => Ty.keep hk hG t h) h5⟩
    obtain ⟨ad, e, hf, hc⟩ := h4 hn
    exact ⟨ad, e, hG _ hf, hc.keep (hk _ hf)⟩
  | .st t, _, _, h => Ty.keep hk hG t h
  | .unit, _, _, h => h
  | .pair a b, _, _, h => by
    obtain ⟨c1, c2, rfl, h1, h2⟩ := h
    exact ⟨c1, c2, rfl, Ty.keep hk hG a h1, Ty.keep hk hG b h2⟩

theorem AllH.one_of {α : Type} {R : List Value → α → Prop} (hR : ∀ c a, R c a → ∀ u ∈ c, u.oneCell' = true) : ∀ {l : List α} {cs : List Value}, AllH R cs l → ∀ u ∈ cs, u.oneCell' = true
  | [], _, h => by subst h; simp
  | a :: l, _, h => by
    obtain ⟨c1, c2, rfl, h1, h2⟩ := h
    intro u hu
    rcases List.mem_append.1 hu with hu | hu
    · exact hR _ _ h1 u hu
    · exact AllH.one_of hR h2 u hu
theorem Ty.one {w : World} {F : Fp} : ∀ (t : Ty) {cs : List Value} {d : t.Data}, t.holds w F cs d → ∀ u ∈ cs, u.oneCell' = true
  | .u8, _, _, h => by subst h; simp [Value.oneCell']
  | .nat _, _, _, h => by obtain ⟨rfl, _⟩ := h; simp [Value.oneCell']
  | .int _, _, _, h => by obtain ⟨rfl, _⟩ := h; simp [Value.oneCell']
  | .bool, _, _, h => by subst h; simp [Value.oneCell']
  | .str, _, _, h => by obtain ⟨rfl, _⟩ := h; simp [Value.oneCell']
  | .arr _ t, _, _, h => AllH.one_of (fun _ _ h => Ty.one t h) h.2
  | .sl _, _, _, h => by obtain ⟨A, c, xs, rfl, _⟩ := h; simp [Value.oneCell']
  | .st t, _, _, h => Ty.one t h
  | .unit, _, _, h => by subst h; simp
  | .pair a b, _, _, h => by
    obtain ⟨c1, c2, rfl, h1, h2⟩ := h
    intro u hu
    rcases List.mem_append.1 hu with hu | hu
    · exact Ty.one a h1 u hu
    · exact Ty.one b h2 u hu

/-- The part of the cells that holds the element of that number. -/
theorem AllH.at {α : Type} {R : List Value → α → Prop} {n : Nat} (hR : ∀ c a, R c a → c.length = n) : ∀ {l : List α} {cs : List Value} {i : Nat} {a : α}, AllH R cs l → l[i]? = some a → R ((cs.drop (i * n)).take n) a
  | [], _, i, _, _, hi => by simp at hi
  | b :: l, _, 0, a, h, hi => by
    obtain ⟨c1, c2, rfl, h1, h2⟩ := h
    simp at hi
    subst hi
    rw [Nat.zero_mul, List.drop_zero, ← hR _ _ h1, List.take_left]
    exact h1
  | b :: l, _, i + 1, a, h, hi => by
    obtain ⟨c1, c2, rfl, h1, h2⟩ := h
    have := AllH.at hR h2 (i := i) (a := a) (by simpa using hi)
    have e : (c1 ++ c2).drop ((i + 1) * n) = c2.drop (i * n) := by
      rw [List.drop_append, List.drop_eq_nil_of_le (by rw [hR _ _ h1, Nat.add_mul]; omega), List.nil_append, hR _ _ h1]
      congr 1
      rw [Nat.add_mul]
      omega
    rw [e]
    exact this
theorem AllH.append {α : Type} {R : List Value → α → Prop} : ∀ {l m : List α} {cs ds : List Value}, AllH R cs l → AllH R ds m → AllH R (cs ++ ds) (l ++ m)
  | [], _, _, _, h, k => by subst h; exact k
  | a :: l, _, _, _, h, k => by
    obtain ⟨c1, c2, rfl, h1, h2⟩ := h
    exact ⟨c1, c2 ++ _, by rw [List.append_assoc], h1, AllH.append h2 k⟩
theorem AllH.one {α : Type} {R : List Value → α → Prop} {c : List Value} {a : α} (h : R c a) : AllH R c [a] := ⟨c, [], by simp, h, rfl⟩

/-! ### Bytes -/
def bv (bs : List UInt8) : List Value := bs.map fun b => .int .u8 (b.toNat : Int)
@[simp] theorem bv_length (bs : List UInt8) : (bv bs).length = bs.length := by simp [bv]
theorem bv_append (a b : List UInt8) : bv (a ++ b) = bv a ++ bv b := by simp [bv]
theorem bv_one (bs : List UInt8) : ∀ u ∈ bv bs, u.oneCell' = true := by
  intro u hu
  obtain ⟨_, _, rfl⟩ := List.mem_map.1 hu
  rfl
theorem AllH.bytes {w : World} {F : Fp} : ∀ {l : List UInt8} {cs : List Value}, AllH (Ty.u8.holds w F) cs l ↔ cs = bv l
  | [], _ => Iff.rfl
  | b :: l, cs => by
    constructor
    · rintro ⟨c1, c2, rfl, h1, h2⟩
      rw [h1, AllH.bytes.1 h2]; rfl
    · rintro rfl
      exact ⟨[.int .u8 (b.toNat : Int)], bv l, rfl, rfl, AllH.bytes.2 rfl⟩

theorem AllH.nat_at {w : World} {F : Fp} {q : IntKind} : ∀ {l : List Nat} {cs : List Value} {k : Nat}, AllH ((Ty.nat q).holds w F) cs l → (h : k < l.length) → cs[k]? = some (.int q ((l[k] : Nat) : Int)) ∧ (Lit.int q ((l[k] : Nat) : Int)).wf = true
  | [], _, _, _, h => by simp at h
  | a :: l, _, 0, h, _ => by
    obtain ⟨c1, c2, rfl, ⟨rfl, hw⟩, h2⟩ := h
    exact ⟨rfl, hw⟩
  | a :: l, _, k + 1, h, hk => by
    obtain ⟨c1, c2, rfl, ⟨rfl, _⟩, h2⟩ := h
    simpa using AllH.nat_at h2 (k := k) (by simpa using hk)

/-- The cells of one element of a slice. -/
theorem AllH.elem {w : World} {F : Fp} {t : Ty} {l : List t.Data} {cs : List Value} {k : Nat} (h : AllH (t.holds w F) cs l) (hk : k < l.length) : t.holds w F ((cs.drop (k * t.size)).take t.size) l[k] :=
  AllH.at (R := t.holds w F) (fun _ _ h => Ty.len t h) h (List.getElem?_eq_getElem hk)
theorem AllH.u8_at {w : World} {F : Fp} {l : List UInt8} {cs : List Value} {k : Nat} (h : AllH (Ty.u8.holds w F) cs l) (hk : k < l.length) : cs[k]? = some (.int .u8 (l[k].toNat : Int)) := by
  rw [AllH.bytes.1 h]
  simp [bv, List.getElem?_eq_getElem hk]
theorem AllH.sl_at {w : World} {F : Fp} {t : Ty} : ∀ {l : List (List t.Data)} {cs : List Value} {k : Nat}, AllH ((Ty.sl t).holds w F) cs l → (h : k < l.length) → ∃ v, cs[k]? = some v ∧ (Ty.sl t).holds w F [v] l[k]
  | [], _, _, _, h => by simp at h
  | a :: l, _, 0, h, _ => by
    obtain ⟨c1, c2, rfl, h1, h2⟩ := h
    obtain ⟨A, c, xs, rfl, h3⟩ := h1
    exact ⟨_, rfl, A, c, xs, rfl, h3⟩
  | a :: l, _, k + 1, h, hk => by
    obtain ⟨c1, c2, rfl, h1, h2⟩ := h
    obtain ⟨A, c, xs, rfl, _⟩ := h1
    simpa using AllH.sl_at h2 (k := k) (by simpa using hk)

/-! ### Frames -/
/-- Nothing that was there has changed. -/
abbrev Ext (w w' : World) : Prop := w.grownBy w' none
theorem Ext.refl (w : World) : Ext w w := World.grownBy.refl w none
theorem Ext.alloc {a w : World} (h : Ext a w) (o : Obj) : Ext a (w.alloc o) := h.trans (World.grownBy_alloc w o none)
theorem Ext.trans {a b c : World} (h : Ext a b) (k : Ext b c) : Ext a c := World.grownBy.trans h k
theorem Ext.drew {a w : World} (h : Ext a w) : Ext a w.drew := ⟨h.os, h.tape, h.output, h.size, h.block⟩
theorem Ext.drewN {a w : World} (h : Ext a w) (n : Nat) : Ext a (w.drewN n) := ⟨h.os, h.tape, h.output, h.size, h.block⟩
theorem grownBy_of {a w : World} {row row' : Option Nat} (h : a.grownBy w row) (hr : row = row' ∨ ∀ g, row = some g → a.heap.size ≤ g) : a.grownBy w row' :=
  ⟨h.os, h.tape, h.output, h.size, fun k hk hne => h.block k hk (fun e => by
    rcases hr with rfl | hr
    · exact hne e
    · have := hr k e.symm; omega)⟩
theorem Ext.any {a w : World} (h : Ext a w) (row : Option Nat) : a.grownBy w row := grownBy_of h (.inr (by simp))
theorem Ext.setCell {a w : World} (h : Ext a w) {p : Addr} (hp : a.heap.size ≤ p.block) (u : Value) : Ext a (w.setCell p u) :=
  ⟨h.os, h.tape, h.output, by simpa [World.setCell] using h.size, fun i hi hne => (Below.heap_setCell w p u i (by omega)).trans (h.block i hi hne)⟩
/-- Two steps; what the second changes is the first's row, or new since. -/
theorem grown_then {a b c : World} {r s : Option Nat} (h : a.grownBy b r) (k : b.grownBy c s) (hs : s = r ∨ ∀ g, s = some g → a.heap.size ≤ g) : a.grownBy c r :=
  ⟨k.os.trans h.os, k.tape.trans h.tape, k.output.trans h.output, Nat.le_trans h.size k.size, fun i hi hne => (k.block i (Nat.lt_of_lt_of_le hi h.size) (fun e => by
    rcases hs with rfl | hs
    · exact hne e
    · have := hs i e.symm; omega)).trans (h.block i hi hne)⟩
/-- A slice that is used up by a call: only its own row may have changed; the new one lies in that row, or in a new one. -/
structure Moved (w w' : World) (v v' : Value) : Prop where
  grown : w.grownBy w' v.ownBlock
  at_ : v'.ownBlock = v.ownBlock ∨ ∀ g, v'.ownBlock = some g → w.heap.size ≤ g
theorem Moved.refl (w : World) (v : Value) : Moved w w v v := ⟨World.grownBy.refl _ _, .inl rfl⟩
theorem Moved.trans {a b c : World} {u v x : Value} (h : Moved a b u v) (k : Moved b c v x) : Moved a c u x := by
  refine ⟨grown_then h.grown k.grown (h.at_.imp id id), ?_⟩
  rcases k.at_ with e | hg
  · rw [e]; exact h.at_
  · exact .inr fun g e => Nat.le_trans h.grown.size (hg g e)
theorem Moved.pre {a b c : World} {u v : Value} (h : Ext a b) (k : Moved b c u v) : Moved a c u v :=
  ⟨grown_then (h.any _) k.grown (.inl rfl), k.at_.imp id fun hg g e => Nat.le_trans h.size (hg g e)⟩
theorem Moved.post {a b c : World} {u v : Value} (h : Moved a b u v) (k : Ext b c) : Moved a c u v :=
  ⟨grown_then h.grown (k.any none) (.inr (by simp)), h.at_⟩
/-- Behind a fresh start the row is new: nothing old has changed. -/
theorem Moved.ext {w w' : World} {v' : Value} (h : Moved w w' (.slice none 0 0) v') : Ext w w' := h.grown

/-- What is read lies elsewhere. -/
abbrev Far (F : Fp) (w : World) (v : Value) : Prop := ∀ b, F b → b < w.heap.size ∧ v.ownBlock ≠ some b
theorem Moved.same {w w' : World} {v v' : Value} {F : Fp} (h : Moved w w' v v') (hF : Far F w v) : ∀ b, F b → w'.heap[b]? = w.heap[b]? :=
  fun b hb => h.grown.block b (hF b hb).1 (fun e => (hF b hb).2 e.symm)
theorem Moved.far {w w' : World} {v v' : Value} {F : Fp} (h : Moved w w' v v') (hF : Far F w v) : Far F w' v' := fun b hb => by
  have h1 := (hF b hb).1
  have h2 := (hF b hb).2
  refine ⟨Nat.lt_of_lt_of_le h1 h.grown.size, fun e => ?_⟩
  rcases h.at_ with e' | hg
  · exact h2 (e'.symm.trans e)
  · have := hg b e; omega
/-- A slice made new by the call. -/
abbrev Fresh (w w' : World) (v : Value) : Prop := Moved w w' (.slice none 0 0) v
theorem Fresh.ext {w w' : World} {v : Value} (h : Fresh w w' v) : Ext w w' := h.grown
theorem Fresh.moved {w w' : World} {v : Value} (h : Fresh w w' v) (u : Value) : Moved w w' u v :=
  ⟨(Fresh.ext h).any _, .inr (h.at_.elim (fun e g he => by rw [e] at he; cases he) id)⟩
theorem Fresh.new {w w' : World} {v : Value} (h : Fresh w w' v) : ∀ g, v.ownBlock = some g → w.heap.size ≤ g := h.at_.elim (fun e g he => by rw [e] at he; cases he) id
theorem Moved.holds {w w' : World} {v v' : Value} {F : Fp} {t : Ty} {cs : List Value} {d : t.Data} (h : Moved w w' v v') (hF : Far F w v) (k : t.holds w F cs d) : t.holds w' F cs d := Ty.keep (h.same hF) (fun _ h => h) _ k
theorem Ext.same {w w' : World} {F : Fp} (h : Ext w w') (hF : ∀ b, F b → b < w.heap.size) : ∀ b, F b → w'.heap[b]? = w.heap[b]? := fun b hb => h.block b (hF b hb) (by simp)
theorem Ext.holds {w w' : World} {F : Fp} {t : Ty} {cs : List Value} {d : t.Data} (h : Ext w w') (hF : ∀ b, F b → b < w.heap.size) (k : t.holds w F cs d) : t.holds w' F cs d := Ty.keep (h.same hF) (fun _ h => h) _ k

/-- A slice that may be appended to: the row is its own. -/
def Own (w : World) (e : TypeId) (size : Nat) (v : Value) (n : Nat) (xs : List Value) : Prop := w.ownsRow 0 e size v n xs
theorem Own.keep {w w' : World} {e : TypeId} {size : Nat} {v : Value} {n : Nat} {xs : List Value} {row : Option Nat} (h : Own w e size v n xs) (hg : w.grownBy w' row) (hne : v.ownBlock = none ∨ v.ownBlock ≠ row) : Own w' e size v n xs := World.ownsRow.kept h hg hne
theorem Own.ext {w w' : World} {e : TypeId} {size : Nat} {v : Value} {n : Nat} {xs : List Value} (h : Own w e size v n xs) (hg : Ext w w') : Own w' e size v n xs :=
  World.ownsRow.kept h hg (by cases v.ownBlock <;> simp)
theorem Own.nil (w : World) (e : TypeId) (size : Nat) : Own w e size (.slice none 0 0) 0 [] := World.ownsRow_nil w 0 e size
theorem Own.form {w : World} {e : TypeId} {size : Nat} {v : Value} {n : Nat} {xs : List Value} (h : Own w e size v n xs) : ∃ A c, v = .slice A n c := by
  rcases h.2 with ⟨rfl, h0⟩ | ⟨g, cap, cur, rfl, _⟩
  · exact ⟨none, 0, by rw [h0]⟩
  · exact ⟨_, _, rfl⟩
end
section
open Go.RowKit Go.WideShapes Go.ChangeShapes

/-- A bound from below on the bytes of a described type. -/
def Ty.wt : Ty → Nat
  | .u8 => 1 | .nat .u32 => 4 | .nat .u64 => 8 | .int .i64 => 8 | .nat _ => 1 | .int _ => 1 | .bool => 1 | .str => 16
  | .arr n t => n * t.wt | .sl _ => 24 | .st t => t.wt | .unit => 0 | .pair a b => a.wt + b.wt
/-- Does the described type fit the program's type of that number? (Second: the fields of a struct, from a place on.) -/
def Ty.fits (P : Program) : Ty → (TypeId → Bool) × (List Field → Nat → Bool)
  | .u8 => (fun t => match P.underlying t with | some (.int .u8) => true | _ => false, fun _ _ => false)
  | .nat k => (fun t => match P.underlying t with | some (.int k') => k' == k && (k == .u8 || k == .u16 || k == .u32 || k == .u64) | _ => false, fun _ _ => false)
  | .int k => (fun t => match P.underlying t with | some (.int k') => k' == k | _ => false, fun _ _ => false)
  | .bool => (fun t => match P.underlying t with | some .bool => true | _ => false, fun _ _ => false)
  | .str => (fun t => match P.underlying t with | some .string => true | _ => false, fun _ _ => false)
  | .arr n a => (fun t => match P.underlying t with | some (.array m e) => m == n && (a.fits P).1 e && P.cellsOf e == a.size && P.cellsOf t == n * a.size | _ => false, fun _ _ => false)
  | .sl a => (fun t => match P.underlying t with | some (.slice e) => (a.fits P).1 e && P.cellsOf e == a.size && decide (a.wt ≤ P.bytesOf e) && decide (0 < a.size) | _ => false, fun _ _ => false)
  | .st c => (fun t => match P.underlying t with | some (.struct fs) => (c.fits P).2 fs.toList 0 && P.cellsOf t == c.size | _ => false, fun _ _ => false)
  | .unit => (fun _ => false, fun fs _ => fs.isEmpty)
  | .pair a b => (fun _ => false, fun fs off => match fs with | f :: r => f.offset == off && (a.fits P).1 f.type && P.cellsOf f.type == a.size && (b.fits P).2 r (off + a.size) | [] => false)
/-- No slice takes more bytes than the form's reach. -/
def Ty.small : (t : Ty) → t.Data → Prop
  | .arr _ t, l => ∀ a ∈ l, t.small a
  | .sl t, l => l.length * t.wt ≤ reachBytes ∧ ∀ a ∈ l, t.small a
  | .st t, d => t.small d
  | .pair a b, d => a.small d.1 ∧ b.small d.2
  | .u8, _ => True | .nat _, _ => True | .int _, _ => True | .bool, _ => True | .str, _ => True | .unit, _ => True

section
variable {H : Type} {enc : TypeId × Value → H} {P : Program} {w : World} {base : Nat} {spare : Nat → Bool} {held : Bool}

def lightD (P : Program) (t : TypeId) (d : DataW H) : Prop := (d.weights P t).all (fun x => decide (x ≤ reachBytes)) = true
theorem weightsAll_mem {e : TypeId} : ∀ {l : List (DataW H)} {d : DataW H}, (DataW.weightsAll P e l).all (fun x => decide (x ≤ reachBytes)) = true → d ∈ l → lightD P e d
  | [], _, _, h => by cases h
  | x :: l, d, h, hd => by
    simp only [DataW.weightsAll, List.all_append, Bool.and_eq_true] at h
    rcases List.mem_cons.1 hd with rfl | hd
    · exact h.1
    · exact weightsAll_mem h.2 hd

/-- Lists, element by element. -/
theorem allH_mk {α : Type} (R : List Value → α → Prop) (n : Nat) (S : α → Prop) : ∀ (k : Nat) (cs : List Value), cs.length = k * n → (∀ i, i < k → ∃ a, R ((cs.drop (i * n)).take n) a ∧ S a) → ∃ l : List α, l.length = k ∧ AllH R cs l ∧ ∀ a ∈ l, S a
  | 0, cs, hl, _ => ⟨[], rfl, List.eq_nil_of_length_eq_zero (by simpa using hl), by simp⟩
  | k + 1, cs, hl, h => by
    obtain ⟨a, ha, hs⟩ := h 0 (by omega)
    rw [Nat.zero_mul, List.drop_zero] at ha
    have hl' : (cs.drop n).length = k * n := by rw [List.length_drop, hl, Nat.add_mul]; omega
    obtain ⟨l, h1, h2, h3⟩ := allH_mk R n S k (cs.drop n) hl' (fun i hi => by
      have := h (i + 1) (by omega)
      rwa [Nat.add_mul, Nat.one_mul, Nat.add_comm, ← List.drop_drop] at this)
    exact ⟨a :: l, by simp [h1], ⟨cs.take n, cs.drop n, (List.take_append_drop n cs).symm, ha, h2⟩, by
      intro x hx
      rcases List.mem_cons.1 hx with rfl | hx
      · exact hs
      · exact h3 x hx⟩

theorem cells_join {a : Addr} {n : Nat} : ∀ (k : Nat), (∀ i, i < k → ∃ cs, cs.length = n ∧ Cells w (a.add (i * n)) cs) → ∃ cs, cs.length = k * n ∧ Cells w a cs
  | 0, _ => ⟨[], by simp, Cells.nil _ _⟩
  | k + 1, h => by
    obtain ⟨cs, h1, h2⟩ := cells_join k (fun i hi => h i (by omega))
    obtain ⟨ds, h3, h4⟩ := h k (by omega)
    exact ⟨cs ++ ds, by rw [List.length_append, h1, h3, Nat.add_mul]; omega, h2.append (by rw [h1]; exact h4)⟩

theorem Cells.unique {a : Addr} {cs ds : List Value} (h : Cells w a cs) (k : Cells w a ds) (hl : cs.length = ds.length) : cs = ds := by
  apply List.ext_getElem? 
  intro i
  rcases Nat.lt_or_ge i cs.length with hi | hi
  · have h1 := h i _ (List.getElem?_eq_getElem hi)
    have h2 := k i _ (List.getElem?_eq_getElem (by omega : i < ds.length))
    rw [List.getElem?_eq_getElem hi, List.getElem?_eq_getElem (by omega : i < ds.length), ← h1, ← h2]
  · rw [List.getElem?_eq_none hi, List.getElem?_eq_none (by omega)]

theorem nat_of_wf {k : IntKind} {n : Int} (hk : (k == .u8 || k == .u16 || k == .u32 || k == .u64) = true) (hw : (Lit.int k n).wf = true) : ∃ m : Nat, n = m := by
  have h0 : 0 ≤ n := by
    cases k <;> simp_all
    · exact (bounds_u8 hw).1
    · exact (bounds_u16 hw).1
    · exact (bounds_u32 hw).1
    · exact (bounds_u64 hw).1
  exact ⟨n.toNat, (Int.toNat_of_nonneg h0).symm⟩

theorem Ty.open_both : ∀ (ty : Ty),
    (∀ (t : TypeId), (ty.fits P).1 t = true → ∀ (n : Nat) (cs : List Value) (x : DataW H × List MemPlace), DataW.trod enc P w base spare held n t cs = some x → lightD P t x.1 → ∃ d, ty.holds w (fun b => b < w.heap.size) cs d ∧ ty.small d) ∧
    (∀ (fs : List Field) (off : Nat), (ty.fits P).2 fs off = true → ∀ (m : Nat) (cs : List Value) (xs : List (DataW H × List MemPlace)), cs.length = off + ty.size → xs.length = fs.length →
      (∀ (i : Nat) (f : Field), fs[i]? = some f → DataW.trod enc P w base spare held m f.type ((cs.drop f.offset).take (P.cellsOf f.type)) = xs[i]?) →
      (DataW.weightsEach P (fs.map (·.type)) (xs.map (·.1))).all (fun x => decide (x ≤ reachBytes)) = true → ∃ d, ty.holds w (fun b => b < w.heap.size) (cs.drop off) d ∧ ty.small d)
  | .u8 => ⟨fun t hf n cs x h _ => by
      simp only [Ty.fits] at hf
      split at hf <;> simp at hf
      rename_i hu
      obtain ⟨m, rfl, _, hw⟩ := DataW.trod_int hu h
      obtain ⟨k, rfl⟩ := nat_of_wf (by rfl) hw
      have hb := bounds_u8 hw
      exact ⟨UInt8.ofNat k, by simp only [Ty.holds]; rw [UInt8.toNat_ofNat']; simp; omega, trivial⟩, fun _ _ hf => by simp [Ty.fits] at hf⟩
  | .nat q => ⟨fun t hf n cs x h _ => by
      simp only [Ty.fits] at hf
      split at hf <;> simp only [Bool.false_eq_true, Bool.and_eq_true, beq_iff_eq] at hf
      rename_i hu
      obtain ⟨rfl, hk⟩ := hf
      obtain ⟨m, rfl, _, hw⟩ := DataW.trod_int hu h
      obtain ⟨k, rfl⟩ := nat_of_wf hk hw
      exact ⟨k, ⟨rfl, hw⟩, trivial⟩, fun _ _ hf => by simp [Ty.fits] at hf⟩
  | .int q => ⟨fun t hf n cs x h _ => by
      simp only [Ty.fits] at hf
      split at hf <;> simp only [Bool.false_eq_true, beq_iff_eq] at hf
      rename_i hu
      subst hf
      obtain ⟨m, rfl, _, hw⟩ := DataW.trod_int hu h
      exact ⟨m, ⟨rfl, hw⟩, trivial⟩, fun _ _ hf => by simp [Ty.fits] at hf⟩
  | .bool => ⟨fun t hf n cs x h _ => by
      simp only [Ty.fits] at hf
      split at hf <;> simp at hf
      rename_i hu
      obtain ⟨b, rfl, _⟩ := DataW.trod_bool hu h
      exact ⟨b, rfl, trivial⟩, fun _ _ hf => by simp [Ty.fits] at hf⟩
  | .str => ⟨fun t hf n cs x h _ => by
      simp only [Ty.fits] at hf
      split at hf <;> simp at hf
      rename_i hu
      obtain ⟨b, rfl, _, hs⟩ := DataW.trod_string hu h
      exact ⟨b, ⟨rfl, hs⟩, trivial⟩, fun _ _ hf => by simp [Ty.fits] at hf⟩
  | .arr k a => ⟨fun t hf n cs x h hl => by
      simp only [Ty.fits] at hf
      split at hf <;> simp only [Bool.false_eq_true, Bool.and_eq_true, beq_iff_eq] at hf
      rename_i hu
      obtain ⟨⟨⟨rfl, hfa⟩, hce⟩, hct⟩ := hf
      obtain ⟨xs, m, _, rfl, hlen, hxl, hi⟩ := DataW.trod_array hu h
      simp only [lightD, DataW.weights, hu] at hl
      rw [hce] at hi
      obtain ⟨l, h1, h2, h3⟩ := allH_mk (a.holds w (fun b => b < w.heap.size)) a.size a.small _ cs (hlen.trans hct) (fun i hik => by
        have hx := hi i hik
        rw [List.getElem?_eq_getElem (by omega)] at hx
        exact (Ty.open_both a).1 _ hfa m _ _ hx (weightsAll_mem hl (List.mem_map_of_mem (List.getElem_mem _))))
      exact ⟨l, ⟨h1, h2⟩, h3⟩, fun _ _ hf => by simp [Ty.fits] at hf⟩
  | .sl a => ⟨fun t hf n cs x h hl => by
      simp only [Ty.fits] at hf
      split at hf <;> simp only [Bool.false_eq_true, Bool.and_eq_true, beq_iff_eq, decide_eq_true_eq] at hf
      rename_i e hu
      obtain ⟨⟨⟨hfa, hce⟩, hwt⟩, hpos⟩ := hf
      rcases Deep.open_slice hu h with ⟨rfl, rfl⟩ | ⟨ad, len, cap, m, n', D, Pl, rfl, hb, hlc, hm, hmm, rfl, hi⟩
      · exact ⟨[], ⟨none, 0, [], rfl, by simp, by simp [maxLen], fun _ => rfl, fun h => absurd rfl h, rfl⟩, by simp [Ty.small]⟩
      · have hml : len ≤ m := by subst hmm; split <;> omega
        rw [hce] at hi
        simp only [lightD, DataW.weights, hu, List.all_cons, List.all_append, Bool.and_eq_true, decide_eq_true_eq, List.length_map, List.length_range] at hl
        obtain ⟨hl1, hl2, _⟩ := hl
        obtain ⟨xs, hx1, hx2⟩ := cells_join (w := w) (a := ad) (n := a.size) len (fun i hi' => by
          obtain ⟨cs', hc, _⟩ := hi i (by omega)
          obtain ⟨_, hcl, hat⟩ := World.cells?_some hc
          exact ⟨cs', hcl, fun j u hu => by
            have hj := (List.getElem?_eq_some_iff.1 hu).1
            rw [hat j (by omega)]; exact hu⟩)
        obtain ⟨l, h1, h2, h3⟩ := allH_mk (a.holds w (fun b => b < w.heap.size)) a.size a.small len xs hx1 (fun i hik => by
          obtain ⟨cs', hc, ht⟩ := hi i (by omega)
          obtain ⟨_, hcl, hat⟩ := World.cells?_some hc
          have hc' : Cells w (ad.add (i * a.size)) cs' := fun j u hu => by
            have hj := (List.getElem?_eq_some_iff.1 hu).1
            rw [hat j (by omega)]; exact hu
          have hle : (i + 1) * a.size ≤ len * a.size := Nat.mul_le_mul_right _ (by omega)
          rw [Nat.add_mul, Nat.one_mul] at hle
          have e : (xs.drop (i * a.size)).take a.size = cs' := Cells.unique (w := w) (a := ad.add (i * a.size)) ((hx2.drop _).take _) hc' (by rw [List.length_take, List.length_drop, hx1, hcl]; omega)
          rw [e]
          exact (Ty.open_both a).1 _ hfa n' _ _ ht (weightsAll_mem hl2 (List.mem_map_of_mem (by simpa using hik))))
        have hlw : len * a.wt ≤ reachBytes := Nat.le_trans (Nat.mul_le_mul (by omega) hwt) hl1
        subst h1
        refine ⟨l, ⟨some ad, cap, xs, rfl, hlc, hm, by simp, fun hne => ⟨ad, rfl, hx2.lt ?_, hx2⟩, h2⟩, hlw, h3⟩
        rintro rfl
        have := Nat.mul_pos (List.length_pos_iff.2 hne) hpos
        simp at hx1
        omega, fun _ _ hf => by simp [Ty.fits] at hf⟩
  | .st c => ⟨fun t hf n cs x h hl => by
      simp only [Ty.fits] at hf
      split at hf <;> simp only [Bool.false_eq_true, Bool.and_eq_true, beq_iff_eq] at hf
      rename_i fs hu
      obtain ⟨hfc, hct⟩ := hf
      obtain ⟨xs, m, _, rfl, hlen, hxl, hi⟩ := DataW.trod_struct hu h
      simp only [lightD, DataW.weights, hu] at hl
      have := (Ty.open_both c).2 fs.toList 0 hfc m cs xs (by rw [Nat.zero_add, ← hct]; exact hlen) (by simpa using hxl) (fun i f hf => hi i f (by simpa using hf)) hl
      rw [List.drop_zero] at this
      exact this, fun _ _ hf => by simp [Ty.fits] at hf⟩
  | .unit => ⟨fun _ hf => by simp [Ty.fits] at hf, fun fs off _ m cs xs hl _ _ _ => ⟨(), List.drop_eq_nil_of_le (by rw [hl]; simp [Ty.size]), trivial⟩⟩
  | .pair a b => ⟨fun _ hf => by simp [Ty.fits] at hf, fun fs off hf m cs xs hl hxl hi hw => by
      cases fs with
      | nil => simp [Ty.fits] at hf
      | cons f r =>
        simp only [Ty.fits, Bool.and_eq_true, beq_iff_eq] at hf
        obtain ⟨⟨⟨rfl, hfa⟩, hce⟩, hfb⟩ := hf
        cases xs with
        | nil => simp at hxl
        | cons x xs =>
          simp only [List.map_cons, DataW.weightsEach, List.all_append, Bool.and_eq_true] at hw
          have h0 := hi 0 f rfl
          rw [hce] at h0
          obtain ⟨d1, g1, s1⟩ := (Ty.open_both a).1 _ hfa m _ _ h0 hw.1
          obtain ⟨d2, g2, s2⟩ := (Ty.open_both b).2 r (f.offset + a.size) hfb m cs xs (by rw [hl, Ty.size]; omega) (by simpa using hxl) (fun i f' hf' => by simpa using hi (i + 1) f' (by simpa using hf')) hw.2
          refine ⟨(d1, d2), ⟨_, _, ?_, g1, g2⟩, s1, s2⟩
          rw [← List.drop_drop, List.take_append_drop]⟩

/-- An argument that is no struct and no array. -/
theorem Ty.open_arg (ty : Ty) {t : TypeId} {v : Value} {d : DataW H} {ps : List MemPlace} (hf : (ty.fits P).1 t = true) (h : DataW.Trod enc P w base spare held t v d ps) (hl : lightD P t d) : ∃ x, ty.holds w (fun b => b < w.heap.size) v.cells.toList x ∧ ty.small x := by
  obtain ⟨n, h⟩ := h
  exact (Ty.open_both ty).1 t hf n _ _ h hl
end

/-- An argument that is a struct or an array. -/
theorem okWide_agg {P : Program} {w : World} {r : Reach} {base : Nat} {t : TypeId} {v : Value} {d : TypeDesc} (ht : P.underlying t = some d) (hd : (match d with | .struct _ => true | .array _ _ => true | _ => false) = true) (h : Value.okWide P w r base t v) : ∃ cs : List Value, v = .agg cs.toArray := by
  unfold Value.okWide at h
  rw [ht] at h
  cases d with
  | struct fs => obtain ⟨cs, rfl, _⟩ := h; exact ⟨cs.toList, by simp⟩
  | array n e => obtain ⟨cs, rfl, _⟩ := h; exact ⟨cs.toList, by simp⟩
  | _ => cases hd
end
section
open Go.RowKit

section
variable {P : Program} (w : World)

/-- What is read of a slice that is appended: its cells. -/
def Src (w : World) (A : Option Addr) (m : Nat) (news : List Value) : Prop := m ≠ 0 → ∃ ad, A = some ad ∧ Cells w ad news

theorem append_types {t t' ty e e' : TypeId} (ht : P.underlying t = some (.slice e)) (ht' : P.underlying t' = some (.slice e')) (b : Option Addr) (n k : Nat) (x : Value) :
    (Builtin.append_ #[t, t'] ty #[.slice b n k, x]).run P w = (Builtin.append_ #[t, t] ty #[.slice b n k, x]).run P w := by
  simp [Builtin.append_, run_underlying ht, run_underlying ht']

theorem run_app (t t' ty e e' : TypeId) (i : TypeInfo) (z : Value) (size bytes : Nat) (ht : P.underlying t = some (.slice e)) (ht' : P.underlying t' = some (.slice e')) (hi : P.info? e = some i) (hz : i.zero = some z)
    (hsize : i.size = size) (hby : i.bytes = bytes) (hzs : z.cells.size = size) (hsz : 0 < size)
    (v : Value) (n : Nat) (xs : List Value) (hown : Own w e size v n xs)
    (A : Option Addr) (m c : Nat) (news : List Value) (hl : news.length = m * size) (hnews : Src w A m news) (h1 : ∀ u ∈ news, u.oneCell' = true)
    (h63 : n + m ≤ maxLen) (hbytes : (n + m) * bytes ≤ 140737488355328) :
    ∃ v' w', (Builtin.append_ #[t, t'] ty #[v, .slice A m c]).run P w = .ok v' w' ∧ Own w' e size v' (n + m) (xs ++ news) ∧ Moved w w' v v' := by
  obtain ⟨b, k, rfl⟩ : ∃ b k, v = .slice b n k := by
    rcases hown.2 with ⟨rfl, rfl⟩ | ⟨g, cap, cur, rfl, _⟩
    · exact ⟨_, _, rfl⟩
    · exact ⟨_, _, rfl⟩
  rw [append_types w ht ht']
  cases A with
  | none =>
    have hm : m = 0 := by
      rcases Nat.eq_zero_or_pos m with h | h
      · exact h
      · obtain ⟨ad, h', _⟩ := hnews (by omega)
        cases h'
    subst hm
    obtain rfl : news = [] := List.eq_nil_of_length_eq_zero (by simpa using hl)
    refine ⟨_, w, ?_, by simpa [Own] using hown, Moved.refl _ _⟩
    rcases hown.2 with ⟨hv, rfl⟩ | ⟨g, cap, cur, hv, _, _, hnc, _⟩
    · cases hv
      simp [Builtin.append_, run_underlying ht, sizeOf, typeInfo, hi, Builtin.lenOf, Builtin.firstCells]
    · cases hv
      simp [Builtin.append_, run_underlying ht, sizeOf, typeInfo, hi, Builtin.lenOf, Builtin.firstCells, hnc, storeCells]
  | some ad =>
    have hc : ∀ j u, news[j]? = some u → w.cell? (ad.add j) = some u := by
      intro j u hu
      rcases Nat.eq_zero_or_pos m with h | h
      · subst h
        obtain rfl : news = [] := List.eq_nil_of_length_eq_zero (by simpa using hl)
        simp at hu
      · obtain ⟨ad', h', hc⟩ := hnews (by omega)
        cases h'
        exact hc j u hu
    obtain ⟨v', w', hr, h2, h3, _, h5⟩ := run_append_own_at (P := P) w 0 t ty e i z size bytes ht hi hz hsize hby hzs hsz _ n xs hown ad m c news hl hc h1 h63 hbytes (Nat.zero_le _)
    exact ⟨v', w', hr, h2, h3, h5.imp id fun h g e => by rw [h] at e; cases e; exact Nat.le_refl _⟩

theorem wp_app {o : Oper} {a : Act} {K : Act → World → Prop} {Q : Exit → Act → World → Prop} (s x : Operand) (t t' : TypeId)
    (ho : o.op = .call { callee := .builtin .append, args := #[s, x], argTypes := #[t, t'] })
    (e e' : TypeId) (i : TypeInfo) (z : Value) (size bytes : Nat) (ht : P.underlying t = some (.slice e)) (ht' : P.underlying t' = some (.slice e')) (hi : P.info? e = some i) (hz : i.zero = some z)
    (hsize : i.size = size) (hby : i.bytes = bytes) (hzs : z.cells.size = size) (hsz : 0 < size)
    (v : Value) (n : Nat) (xs : List Value) (hs : a.eval s = v) (hown : Own w e size v n xs)
    (A : Option Addr) (m c : Nat) (news : List Value) (hx : a.eval x = .slice A m c) (hl : news.length = m * size) (hnews : Src w A m news) (h1 : ∀ u ∈ news, u.oneCell' = true)
    (h63 : n + m ≤ maxLen) (hbytes : (n + m) * bytes ≤ 140737488355328)
    (h : ∀ v' w', Own w' e size v' (n + m) (xs ++ news) → Moved w w' v v' → K (a.put o.dst v') w') : o.wp P a w K Q := by
  obtain ⟨v', w', hr, h2, h3⟩ := run_app (P := P) w t t' o.type e e' i z size bytes ht ht' hi hz hsize hby hzs hsz v n xs hown A m c news hl hnews h1 h63 hbytes
  unfold Oper.wp execOp
  simp only [ho, resolve, invoke, builtin, Sem.run_bind, Sem.run_pure, Result.andThen_ok, List.map_toArray, List.map_cons, List.map_nil, hs, hx, hr]
  exact h v' w' h2 h3

theorem wpList_app {ops : Array Oper} {rest : List Oper} {o : Oper} {a : Act} {Q : Exit → Act → World → Prop} (hgd : o.guard = none) (s x : Operand) (t t' : TypeId)
    (ho : o.op = .call { callee := .builtin .append, args := #[s, x], argTypes := #[t, t'] })
    (e e' : TypeId) (i : TypeInfo) (z : Value) (size bytes : Nat) (ht : P.underlying t = some (.slice e)) (ht' : P.underlying t' = some (.slice e')) (hi : P.info? e = some i) (hz : i.zero = some z)
    (hsize : i.size = size) (hby : i.bytes = bytes) (hzs : z.cells.size = size) (hsz : 0 < size)
    (v : Value) (n : Nat) (xs : List Value) (hs : a.eval s = v) (hown : Own w e size v n xs)
    (A : Option Addr) (m c : Nat) (news : List Value) (hx : a.eval x = .slice A m c) (hl : news.length = m * size) (hnews : Src w A m news) (h1 : ∀ u ∈ news, u.oneCell' = true)
    (h63 : n + m ≤ maxLen) (hbytes : (n + m) * bytes ≤ 140737488355328)
    (h : ∀ v' w', Own w' e size v' (n + m) (xs ++ news) → Moved w w' v v' → wpList P ops Q rest (a.put o.dst v') w') : wpList P ops Q (o :: rest) a w :=
  wpList_plain hgd fun _ hK => wp_app w s x t t' ho e e' i z size bytes ht ht' hi hz hsize hby hzs hsz v n xs hs hown A m c news hx hl hnews h1 h63 hbytes fun v' w' h2 h3 => hK _ _ (h v' w' h2 h3)

/-- 'append(s, x)': the one element was laid in a new block of its own. -/
theorem wpList_app1 {ops : Array Oper} {rest : List Oper} {o : Oper} {a : Act} {Q : Exit → Act → World → Prop} (hgd : o.guard = none) (s x : Operand) (t t' : TypeId)
    (ho : o.op = .call { callee := .builtin .append, args := #[s, x], argTypes := #[t, t'] })
    (e e' e2 : TypeId) (i : TypeInfo) (z : Value) (size bytes : Nat) (ht : P.underlying t = some (.slice e)) (ht' : P.underlying t' = some (.slice e')) (hi : P.info? e = some i) (hz : i.zero = some z)
    (hsize : i.size = size) (hby : i.bytes = bytes) (hzs : z.cells.size = size) (hsz : 0 < size)
    (v : Value) (n : Nat) (xs : List Value) (cs : List Value) (hs : a.eval s = v) (hown : Own w e size v n xs)
    (hx : a.eval x = .slice (some ⟨w.heap.size, 0, none⟩) 1 1) (hcs : cs.length = size) (h1 : ∀ u ∈ cs, u.oneCell' = true)
    (h63 : n + 1 ≤ maxLen) (hbytes : (n + 1) * bytes ≤ 140737488355328)
    (h : ∀ v' w', Own w' e size v' (n + 1) (xs ++ cs) → Moved w w' v v' → wpList P ops Q rest (a.put o.dst v') w') : wpList P ops Q (o :: rest) a (w.alloc (.cells cs.toArray e2)) :=
  wpList_app (w.alloc (.cells cs.toArray e2)) hgd s x t t' ho e e' i z size bytes ht ht' hi hz hsize hby hzs hsz v n xs hs (hown.ext ((Ext.refl w).alloc _)) _ 1 1 cs hx (by omega)
    (fun _ => ⟨_, rfl, by have := Cells.of_block (heap_alloc_new w (.cells cs.toArray e2)); simpa using this⟩) h1 h63 hbytes fun v' w' h2 h3 => h v' w' h2 (Moved.pre ((Ext.refl w).alloc _) h3)

/-! ### Whole structs and arrays -/
def isAggD : TypeDesc → Bool
  | .struct _ | .array _ _ => true
  | _ => false
theorem run_load_agg (ty : TypeId) (ad : Addr) (cs : List Value) (d : TypeDesc) (hu : P.underlying ty = some d) (hd : isAggD d = true) (hi : (P.info? ty).map (·.size) = some cs.length) (hc : Cells w ad cs) :
    (loadVar ty ad).run P w = .ok (.agg cs.toArray) w := by
  have hl := run_loadCells_list (P := P) w ad cs hc
  cases hq : P.info? ty with
  | none => simp [hq] at hi
  | some i =>
    have hs : i.size = cs.length := by simpa [hq] using hi
    have hagg : (isAgg ty).run P w = .ok true w := by
      unfold isAgg
      rw [Sem.run_bind, run_underlying hu w]
      cases d <;> simp_all [isAggD]
    simp [loadVar, Sem.run_bind, hagg, sizeOf, typeInfo, hq, hs, hl]
theorem wpList_load_agg {ops : Array Oper} {rest : List Oper} {o : Oper} {a : Act} {Q : Exit → Act → World → Prop} (hgd : o.guard = none) (ty : TypeId) (x : Operand) (ho : o.op = .load ty x)
    (ad : Addr) (hx : a.eval x = .pointer (some ad)) (cs : List Value) (d : TypeDesc) (hu : P.underlying ty = some d) (hd : isAggD d = true) (hi : (P.info? ty).map (·.size) = some cs.length) (hc : Cells w ad cs)
    (h : wpList P ops Q rest (a.put o.dst (.agg cs.toArray)) w) : wpList P ops Q (o :: rest) a w :=
  wpList_plain hgd fun K hK => by
    unfold Oper.wp execOp
    simp only [ho, hx, Instr.loadAt, Instr.sureAddr, Sem.run_bind, Sem.run_pure, Result.andThen_ok, run_load_agg w ty ad cs d hu hd hi hc]
    exact hK _ _ h
/-- A new variable of a type, its cells zero. -/
theorem wpList_alloc {ops : Array Oper} {rest : List Oper} {o : Oper} {a : Act} {Q : Exit → Act → World → Prop} (hgd : o.guard = none) (ty : TypeId) (ho : o.op = .alloc ty) (z : List Value)
    (hz : (P.info? ty).bind (fun i => i.zero.map (·.cells)) = some z.toArray)
    (h : wpList P ops Q rest (a.put o.dst (.pointer (some ⟨w.heap.size, 0, none⟩))) (w.alloc (.cells z.toArray ty))) : wpList P ops Q (o :: rest) a w :=
  wpList_plain hgd fun K hK => by
    obtain ⟨i, hi, hzz⟩ := Option.bind_eq_some_iff.1 hz
    obtain ⟨zv, hzv, hzc⟩ := Option.map_eq_some_iff.1 hzz
    unfold Oper.wp execOp
    simp only [ho, Instr.alloc, zeroValue, typeInfo, Sem.run_bind, run_program, Result.andThen_ok, hi, Sem.run_pure, hzv, newVar, newRow, hzc, run_newObj, World.alloc_eq]
    exact hK _ _ h
/-- A whole struct or array stored into a row of its own size. -/
theorem run_store_row (g : Nat) (t : TypeId) (old cs : List Value) (hg : w.heap[g]? = some (.cells old.toArray t (0, 0))) (hl : cs.length = old.length) (h1 : ∀ u ∈ cs, u.oneCell' = true) :
    (storeCells ⟨g, 0, none⟩ cs).run P w = .ok () (w.setRow g cs.toArray) := by
  have h := run_storeCells_at P g 0 t cs 0 old.toArray w hg (by simp [hl]) h1
  simp only [Nat.add_zero] at h
  rw [h]
  congr 2
  apply congrArg
  simp [← hl]
theorem wpList_store_row {ops : Array Oper} {rest : List Oper} {o : Oper} {a : Act} {Q : Exit → Act → World → Prop} (hgd : o.guard = none) (ty : TypeId) (p x : Operand) (ho : o.op = .store ty p x)
    (g : Nat) (hp : a.eval p = .pointer (some ⟨g, 0, none⟩)) (old cs : List Value) (t : TypeId) (hx : a.eval x = .agg cs.toArray) (hg : w.heap[g]? = some (.cells old.toArray t (0, 0)))
    (hi : (P.info? ty).map (·.size) = some cs.length) (hl : cs.length = old.length) (h1 : ∀ u ∈ cs, u.oneCell' = true)
    (h : wpList P ops Q rest (a.put o.dst undef) (w.setRow g cs.toArray)) : wpList P ops Q (o :: rest) a w :=
  wpList_plain hgd fun K hK => by
    obtain ⟨i, hi', hs⟩ := Option.map_eq_some_iff.1 hi
    unfold Oper.wp execOp
    simp only [ho, hp, hx, Instr.storeAt, Instr.sureAddr, storeVar, sizeOf, typeInfo, Sem.run_bind, run_program, Result.andThen_ok, hi', Sem.run_pure, hs, Value.cells, List.size_toArray, ne_eq, not_true, if_false,
      run_store_row w g t old cs hg hl h1]
    exact hK _ _ h
theorem setRow_new (o : Obj) (c c' : Array Value) (t : TypeId) (ho : o = .cells c t) : (w.alloc o).setRow w.heap.size c' = w.alloc (.cells c' t) := by
  subst ho
  unfold World.setRow World.alloc
  congr 1
  apply Array.ext_getElem?
  intro k
  simp only [Array.getElem?_modify, Array.getElem?_push]
  by_cases hk : k = w.heap.size
  · subst hk; simp
  · rw [if_neg (fun e => hk e.symm), if_neg hk, if_neg hk]
/-- .. into the newest block. -/
theorem wpList_store_new {ops : Array Oper} {rest : List Oper} {o : Oper} {a : Act} {Q : Exit → Act → World → Prop} (hgd : o.guard = none) (ty : TypeId) (p x : Operand) (ho : o.op = .store ty p x)
    (hp : a.eval p = .pointer (some ⟨w.heap.size, 0, none⟩)) (old cs : List Value) (t : TypeId) (hx : a.eval x = .agg cs.toArray)
    (hi : (P.info? ty).map (·.size) = some cs.length) (hl : cs.length = old.length) (h1 : ∀ u ∈ cs, u.oneCell' = true)
    (h : wpList P ops Q rest (a.put o.dst undef) (w.alloc (.cells cs.toArray t))) : wpList P ops Q (o :: rest) a (w.alloc (.cells old.toArray t)) :=
  wpList_store_row (w.alloc (.cells old.toArray t)) hgd ty p x ho w.heap.size hp old cs t hx (heap_alloc_new w _) hi hl h1 (by rw [setRow_new w _ _ _ t rfl]; exact h)

/-! ### Bytes as a string -/
def strOf (bs : List UInt8) : ByteArray := ⟨bs.toArray⟩
theorem strOf_inj {a b : List UInt8} (h : strOf a = strOf b) : a = b := by
  have := congrArg (fun x => x.data.toList) h
  simpa [strOf] using this
theorem strOf_toList (a : List UInt8) : (strOf a).toList = a := by rw [ByteArray.toList_eq]; simp [strOf]
theorem run_str (src dst e : TypeId) (hs : P.underlying src = some (.slice e)) (he : P.underlying e = some (.int .u8)) (hd : P.underlying dst = some .string)
    (A : Option Addr) (c : Nat) (bs : List UInt8) (hsrc : Src w A bs.length (bv bs)) :
    (convert src dst (.slice A bs.length c)).run P w = .ok (.string (strOf bs)) w := by
  rw [run_convert_bytes_string w src dst e _ _ c hs he hd]
  cases A with
  | none =>
    have : bs = [] := by
      cases bs with
      | nil => rfl
      | cons b r => obtain ⟨ad, h, _⟩ := hsrc (by simp); cases h
    subst this
    simp [Conv.bytesToString]
    rfl
  | some ad =>
    have hc : Cells w ad (bv bs) := by
      cases bs with
      | nil => exact Cells.nil _ _
      | cons b r => obtain ⟨ad', h, hc⟩ := hsrc (by simp); cases h; exact hc
    have hl : (loadCells ad bs.length).run P w = .ok ((bs.map fun b => (b.toNat : Int)).map (Value.int .u8)).toArray w := by
      have := run_loadCells_list (P := P) w ad (bv bs) hc
      rw [bv_length] at this
      rw [this]
      simp [bv]
    rw [run_bytesToString w ad bs.length c _ hl, foldl_push_bytes]
    simp [strOf, ByteArray.empty, ByteArray.emptyWithCapacity]
    show List.map _ bs = bs
    simp [Function.comp_def]
theorem wpList_str {ops : Array Oper} {rest : List Oper} {o : Oper} {a : Act} {Q : Exit → Act → World → Prop} (hgd : o.guard = none) (src dst : TypeId) (x : Operand) (ho : o.op = .convert src dst x)
    (e : TypeId) (hs : P.underlying src = some (.slice e)) (he : P.underlying e = some (.int .u8)) (hd : P.underlying dst = some .string)
    (A : Option Addr) (c : Nat) (bs : List UInt8) (hx : a.eval x = .slice A bs.length c) (hsrc : Src w A bs.length (bv bs))
    (h : wpList P ops Q rest (a.put o.dst (.string (strOf bs))) w) : wpList P ops Q (o :: rest) a w :=
  wpList_plain hgd fun K hK => by
    unfold Oper.wp execOp
    simp only [ho, hx, Sem.run_bind, run_str w src dst e hs he hd A c bs hsrc, Result.andThen_ok, Sem.run_pure]
    exact hK _ _ h
end

/-! ### Parts laid into a row -/
theorem foldl_set (off : Nat) : ∀ (cs : List Value) (k : Nat) (arr : Array Value), off + k + cs.length ≤ arr.size →
    ((cs.zipIdx k).foldl (fun (a : Array Value) (x : Value × Nat) => a.setIfInBounds (off + x.2) x.1) arr).toList = arr.toList.take (off + k) ++ cs ++ arr.toList.drop (off + k + cs.length)
  | [], k, arr, _ => by simp
  | c :: cs, k, arr, h => by
    simp only [List.length_cons] at h
    rw [List.zipIdx_cons, List.foldl_cons, foldl_set off cs (k + 1) _ (by simp; omega)]
    simp only [Array.toList_setIfInBounds, List.length_cons]
    apply List.ext_getElem?
    intro j
    have hl : arr.toList.length = arr.size := Array.length_toList
    simp only [List.append_assoc, List.getElem?_append, List.length_take, List.length_set, hl, List.getElem?_take, List.getElem?_set, List.getElem?_drop, List.length_cons]
    rw [Nat.min_eq_left (by omega), Nat.min_eq_left (by omega)]
    by_cases h1 : j < off + k
    · rw [if_pos (by omega), if_pos (by omega), if_neg (by omega), if_pos h1, if_pos h1]
    · rw [if_neg h1]
      by_cases h2 : j = off + k
      · subst h2
        rw [if_pos (by omega), if_pos (by omega), if_pos rfl, if_pos (by omega), if_pos (by omega)]
        simp
      · rw [if_neg (by omega)]
        by_cases h3 : j - (off + k) < cs.length + 1
        · rw [if_pos h3, if_pos (by omega)]
          obtain ⟨i, rfl⟩ : ∃ i, j = off + k + 1 + i := ⟨j - (off + k + 1), by omega⟩
          rw [show off + k + 1 + i - (off + (k + 1)) = i by omega, show off + k + 1 + i - (off + k) = i + 1 by omega]
          simp
        · rw [if_neg h3, if_neg (by omega), if_neg (by omega)]
          congr 1
          omega
theorem fill_list (place : Nat → Option (Nat × Nat)) (cells : Array Value) (i : Nat) (v : Value) (cs : List Value) (off : Nat) (rest : List (Nat × Value)) (hv : v.cells = cs.toArray) (hp : place i = some (off, cs.length)) (hl : off + cs.length ≤ cells.size) :
    Instr.fill place cells ((i, v) :: rest) = Instr.fill place (cells.toList.take off ++ cs ++ cells.toList.drop (off + cs.length)).toArray rest := by
  simp only [Instr.fill, hp, hv, List.size_toArray, ne_eq, not_true, decide_false, Bool.false_or]
  rw [if_neg (by simp; omega)]
  congr 1
  have h := foldl_set off cs 0 cells (by omega)
  simp only [Nat.add_zero] at h
  rw [← h]
  simp
section
variable {P : Program} (w : World)
/-- '[]T{x}' where x is a struct or an array. -/
theorem wpList_one {ops : Array Oper} {rest : List Oper} {o : Oper} {a : Act} {Q : Exit → Act → World → Prop} (hgd : o.guard = none) (t : TypeId) (x : Operand) (ho : o.op = .buildSlice t 1 #[(0, x)])
    (e : TypeId) (cs : List Value) (ht : P.underlying t = some (.slice e)) (hx : a.eval x = .agg cs.toArray) (hi : (P.info? e).map (·.size) = some cs.length) (hz : ((P.info? e).bind (·.zero)).isSome = true) (hl : cs.length ≤ 16777216) (hn : 0 < cs.length)
    (h : wpList P ops Q rest (a.put o.dst (.slice (some ⟨w.heap.size, 0, none⟩) 1 1)) (w.alloc (.cells cs.toArray e))) : wpList P ops Q (o :: rest) a w :=
  wpList_plain hgd fun K hK => by
    obtain ⟨i, hi', hs⟩ := Option.map_eq_some_iff.1 hi
    rw [hi', Option.bind_some] at hz
    obtain ⟨z, hz⟩ := Option.isSome_iff_exists.1 hz
    have hfill : ∀ (c : Array Value), c.size = cs.length → Instr.fill (fun i => some (i * cs.length, cs.length)) c [(0, .agg cs.toArray)] = some cs.toArray := by
      intro c hc
      rw [fill_list _ c 0 (.agg cs.toArray) cs 0 [] rfl (by simp) (by omega)]
      simp only [Instr.fill, List.take_zero, List.nil_append, Nat.zero_add]
      rw [List.drop_eq_nil_of_le (by rw [Array.length_toList]; omega), List.append_nil]
    unfold Oper.wp execOp
    have hrun : (Instr.buildSlice t 1 #[(0, .agg cs.toArray)]).run P w = .ok (.slice (some ⟨w.heap.size, 0, none⟩) 1 1) (w.alloc (.cells cs.toArray e)) := by
      unfold Instr.buildSlice
      simp only [Sem.run_bind, run_underlying ht, Result.andThen_ok, sizeOf, typeInfo, run_program, hi', Sem.run_pure, hs, Nat.one_mul]
      rw [if_neg (by omega)]
      have h0 : ¬ cs.length = 0 := by omega
      simp only [h0, if_false, Sem.run_bind, Sem.run_pure, Result.andThen_ok, zeroValue, typeInfo, run_program, hi', hz]
      have := hfill ((Array.range cs.length).map fun x => z.cells[x % z.cells.size]!) (by simp)
      simp only [this]
      simp [newRow]
    simp only [ho, List.map_toArray, List.map_cons, List.map_nil, hx, Sem.run_bind, hrun, Result.andThen_ok, Sem.run_pure]
    exact hK _ _ h
end

/-! ### What a literal made -/
theorem sl_made {w : World} {g n : Nat} {t : Ty} {l : List t.Data} {cs : List Value} {e : TypeId} {fr : Nat × Nat} {F : Fp} (hg : w.heap.size = g) (hF : F g) (hn : l.length = n) (hm : n ≤ maxLen)
    (h : AllH (t.holds (w.alloc (.cells cs.toArray e fr)) F) cs l) : (Ty.sl t).holds (w.alloc (.cells cs.toArray e fr)) F [.slice (some ⟨g, 0, none⟩) n n] l := by
  subst hg; subst hn
  exact ⟨_, _, cs, rfl, Nat.le_refl _, hm, by simp, fun _ => ⟨_, rfl, hF, by have := Cells.of_block (heap_alloc_new w (.cells cs.toArray e fr)); simpa using this⟩, h⟩
theorem own_empty {w : World} {g : Nat} {e : TypeId} {size : Nat} (hg : w.heap.size = g) : Own (w.alloc (.cells #[] e)) e size (.slice (some ⟨g, 0, none⟩) 0 0) 0 [] := by
  subst hg
  exact World.ownsRow_made w #[] 0 (Nat.zero_le _) (by simp [maxLen]) (by simp)
/-! ### copy -/
theorem setRow_only {w : World} {g : Nat} (cs : Array Value) : w.grownBy (w.setRow g cs) (some g) :=
  ⟨rfl, rfl, rfl, by simp [World.setRow], fun k _ hk => by
    simp only [World.setRow, Array.getElem?_modify]
    rw [if_neg (fun e => hk (by rw [e]))]⟩
theorem setRow_at {w : World} {g : Nat} {cs cs' : Array Value} {t : TypeId} {fr : Nat × Nat} (h : w.heap[g]? = some (.cells cs t fr)) : (w.setRow g cs').heap[g]? = some (.cells cs' t fr) := by
  simp [World.setRow, Array.getElem?_modify, h]
theorem run_copyB {P : Program} (w : World) (dT sT ty elem : TypeId) (hu : P.underlying dT = some (.slice elem)) (hs : (P.info? elem).map (·.size) = some 1)
    (g o dLen dCap : Nat) (A : Option Addr) (sCap : Nat) (bs : List UInt8) (hsrc : Src w A bs.length (bv bs)) (cur : List Value) (t : TypeId) (hg : w.heap[g]? = some (.cells cur.toArray t (0, 0)))
    (n : Nat) (hn : n = min bs.length dLen) (hfit : o + n ≤ cur.length) :
    ∃ w', (Builtin.copy_ #[dT, sT] ty #[.slice (some ⟨g, o, none⟩) dLen dCap, .slice A bs.length sCap]).run P w = .ok (goInt n) w' ∧
      w'.heap[g]? = some (.cells (cur.take o ++ bv (bs.take n) ++ cur.drop (o + n)).toArray t (0, 0)) ∧ w.grownBy w' (some g) := by
  have hl : (bv (bs.take n)).length = n := by simp; omega
  by_cases h0 : n = 0
  · subst h0
    refine ⟨w, ?_, by simpa [bv] using hg, World.grownBy.refl _ _⟩
    have e : Nat.min bs.length dLen = 0 := hn.symm
    have := run_copy_none (P := P) w dT sT ty elem (some ⟨g, o, none⟩) A dLen dCap bs.length sCap hu hs e
    simpa using this
  · obtain ⟨ad, rfl, hc⟩ := hsrc (by omega)
    have hr := run_copy_row (P := P) w dT sT ty elem g o dLen dCap ad bs.length sCap cur.toArray t (bv (bs.take n)) hu hs hg (by rw [hl]; exact hn)
      (fun j v hj => hc j v (by
        rw [bv, List.map_take] at hj
        rw [List.getElem?_take] at hj
        split at hj
        · exact hj
        · cases hj)) (by rw [hl]; simpa using hfit) (fun u hu => by
          obtain ⟨b, _, rfl⟩ := List.mem_map.1 hu
          rfl)
    rw [hl] at hr
    exact ⟨_, hr, by simpa using setRow_at hg, setRow_only _⟩
theorem wp_copied {P : Program} (w : World) {o : Oper} {a : Act} {K : Act → World → Prop} {Q : Exit → Act → World → Prop} (d s : Operand) (t t' : TypeId)
    (ho : o.op = .call { callee := .builtin .copy, args := #[d, s], argTypes := #[t, t'] }) (v u : Value) (hd : a.eval d = v) (hs : a.eval s = u) {v' : Value} {w' : World}
    (hr : (Builtin.copy_ #[t, t'] o.type #[v, u]).run P w = .ok v' w') (h : K (a.put o.dst v') w') : o.wp P a w K Q := by
  unfold Oper.wp execOp
  simp only [ho, resolve, invoke, builtin, Sem.run_bind, Sem.run_pure, Result.andThen_ok, List.map_toArray, List.map_cons, List.map_nil, hd, hs, hr]
  exact h
theorem wp_copyB {P : Program} {w : World} {o : Oper} {a : Act} {K : Act → World → Prop} {Q : Exit → Act → World → Prop} (d s : Operand) (dT sT : TypeId)
    (ho : o.op = .call { callee := .builtin .copy, args := #[d, s], argTypes := #[dT, sT] }) (elem : TypeId) (hu : P.underlying dT = some (.slice elem)) (hs : (P.info? elem).map (·.size) = some 1)
    (g off dLen dCap : Nat) (hd : a.eval d = .slice (some ⟨g, off, none⟩) dLen dCap) (A : Option Addr) (sLen sCap : Nat) (hx : a.eval s = .slice A sLen sCap) (bs : List UInt8) (hlen : bs.length = sLen) (hsrc : Src w A sLen (bv bs)) (cur : List Value) (t : TypeId)
    (hg : w.heap[g]? = some (.cells cur.toArray t (0, 0))) (n : Nat) (hn : n = min sLen dLen) (hfit : off + n ≤ cur.length)
    (h : ∀ w', w'.heap[g]? = some (.cells (cur.take off ++ bv (bs.take n) ++ cur.drop (off + n)).toArray t (0, 0)) → w.grownBy w' (some g) → K (a.put o.dst (goInt n)) w') : o.wp P a w K Q := by
  subst hlen
  obtain ⟨w', hr, h1, h2⟩ := run_copyB (P := P) w dT sT o.type elem hu hs g off dLen dCap A sCap bs hsrc cur t hg n hn hfit
  exact wp_copied w d s dT sT ho _ _ hd hx hr (h _ h1 h2)
theorem wpList_copyB {P : Program} {w : World} {ops : Array Oper} {rest : List Oper} {o : Oper} {a : Act} {Q : Exit → Act → World → Prop} (hgd : o.guard = none) (d s : Operand) (dT sT : TypeId)
    (ho : o.op = .call { callee := .builtin .copy, args := #[d, s], argTypes := #[dT, sT] }) (elem : TypeId) (hu : P.underlying dT = some (.slice elem)) (hs : (P.info? elem).map (·.size) = some 1)
    (g off dLen dCap : Nat) (hd : a.eval d = .slice (some ⟨g, off, none⟩) dLen dCap) (A : Option Addr) (sLen sCap : Nat) (hx : a.eval s = .slice A sLen sCap) (bs : List UInt8) (hlen : bs.length = sLen) (hsrc : Src w A sLen (bv bs)) (cur : List Value) (t : TypeId)
    (hg : w.heap[g]? = some (.cells cur.toArray t (0, 0))) (n : Nat) (hn : n = min sLen dLen) (hfit : off + n ≤ cur.length)
    (h : ∀ w', w'.heap[g]? = some (.cells (cur.take off ++ bv (bs.take n) ++ cur.drop (off + n)).toArray t (0, 0)) → w.grownBy w' (some g) → wpList P ops Q rest (a.put o.dst (goInt n)) w') : wpList P ops Q (o :: rest) a w :=
  wpList_plain hgd fun _ hK => wp_copyB d s dT sT ho elem hu hs g off dLen dCap hd A sLen sCap hx bs hlen hsrc cur t hg n hn hfit fun w' h1 h2 => hK _ _ (h w' h1 h2)
theorem step_copyB {P : Program} {ops : Array Oper} {w : World} {o : Oper} {a : Act} {K : Act → World → Prop} {Q : Exit → Act → World → Prop} {E : Prop} (hgd : o.guard = none) (d s : Operand) (dT sT : TypeId)
    (ho : o.op = .call { callee := .builtin .copy, args := #[d, s], argTypes := #[dT, sT] }) (elem : TypeId) (hu : P.underlying dT = some (.slice elem)) (hs : (P.info? elem).map (·.size) = some 1)
    (g off dLen dCap : Nat) (hd : a.eval d = .slice (some ⟨g, off, none⟩) dLen dCap) (A : Option Addr) (sLen sCap : Nat) (hx : a.eval s = .slice A sLen sCap) (bs : List UInt8) (hlen : bs.length = sLen) (hsrc : Src w A sLen (bv bs)) (cur : List Value) (t : TypeId)
    (hg : w.heap[g]? = some (.cells cur.toArray t (0, 0))) (n : Nat) (hn : n = min sLen dLen) (hfit : off + n ≤ cur.length)
    (h : ∀ w', w'.heap[g]? = some (.cells (cur.take off ++ bv (bs.take n) ++ cur.drop (off + n)).toArray t (0, 0)) → w.grownBy w' (some g) → K (a.put o.dst (goInt n)) w') :
    if Region.wanted o (yielded ops a.tmps) = true then Oper.wp P o a w K Q else E := by
  have hw : Region.wanted o (yielded ops a.tmps) = true := by simp [Region.wanted, hgd]
  rw [if_pos hw]
  exact wp_copyB d s dT sT ho elem hu hs g off dLen dCap hd A sLen sCap hx bs hlen hsrc cur t hg n hn hfit h
/-! ### Results that lie in a variable -/
theorem results_agg {P : Program} {fn : Func} {p : Tmp} {ty : TypeId} (h : fn.results = #[.cell p ty]) (tmps : Array Value) (w : World) (ad : Addr) (cs : List Value) (d : TypeDesc)
    (hp : tmps.getD p undef = .pointer (some ad)) (hu : P.underlying ty = some d) (hd : isAggD d = true) (hi : (P.info? ty).map (·.size) = some cs.length) (hc : Cells w ad cs) :
    (results fn tmps).run P w = .ok (.agg cs.toArray) w := by
  have hp' : tmps[p]?.getD undef = .pointer (some ad) := by simpa using hp
  simp [results, h, hp', asAddr, run_load_agg w ty ad cs d hu hd hi hc]
theorem results_agg_tmp {P : Program} {fn : Func} {p u : Tmp} {ty : TypeId} (h : fn.results = #[.cell p ty, .tmp u]) (tmps : Array Value) (w : World) (ad : Addr) (cs : List Value) (d : TypeDesc)
    (hp : tmps.getD p undef = .pointer (some ad)) (hu : P.underlying ty = some d) (hd : isAggD d = true) (hi : (P.info? ty).map (·.size) = some cs.length) (hc : Cells w ad cs) :
    (results fn tmps).run P w = .ok (.tuple #[.agg cs.toArray, tmps.getD u undef]) w := by
  have hp' : tmps[p]?.getD undef = .pointer (some ad) := by simpa using hp
  simp [results, h, hp', asAddr, run_load_agg w ty ad cs d hu hd hi hc]
/-! ### Equal sums -/
section
variable {P : Program} (w : World)
theorem run_eqGuard (op : BinOp) (t : TypeId) (x y : Operand) (a b : Array Value) (hop : op = .eql ∨ op = .neq) (hg : P.eqGuardType P.depth t = false) : (eqGuard op t x y (.agg a) (.agg b)).run P w = .ok () w := by
  rcases hop with rfl | rfl <;> simp [eqGuard, run_program, hg]
theorem size_run {e : TypeId} (hi : (P.info? e).map (·.size) = some 1) (w : World) : (sizeOf e).run P w = .ok 1 w := by
  obtain ⟨i, hi1, hi2⟩ := Option.map_eq_some_iff.1 hi
  simp [sizeOf, typeInfo, hi1, hi2]
theorem run_eqD (t e : TypeId) (n : Nat) (ht : P.underlying t = some (.array n e)) (he : P.underlying e = some (.int .u8)) (hi : (P.info? e).map (·.size) = some 1) (a b : List UInt8) (ha : a.length = n) (hb : b.length = n) :
    (binOp .eql t (.agg (bv a).toArray) (.agg (bv b).toArray)).run P w = .ok (.bool (a == b)) w := run_eql_bytes w t e n ht he (size_run hi) a b ha hb
theorem run_neD (t e : TypeId) (n : Nat) (ht : P.underlying t = some (.array n e)) (he : P.underlying e = some (.int .u8)) (hi : (P.info? e).map (·.size) = some 1) (a b : List UInt8) (ha : a.length = n) (hb : b.length = n) :
    (binOp .neq t (.agg (bv a).toArray) (.agg (bv b).toArray)).run P w = .ok (.bool (!(a == b))) w := by
  have h : (Op.equalIn 10000 t (.agg (bv a).toArray) (.agg (bv b).toArray)).run P w = .ok (a == b) w := run_equalIn_bytes w 9998 t e n ht he (size_run hi) a b ha hb
  rw [run_neq_struct, h]
  rfl
theorem wpList_want {P : Program} {ops : Array Oper} {rest : List Oper} {o : Oper} {a : Act} {w : World} {Q : Exit → Act → World → Prop} (hgd : o.guard = none ∨ Region.wanted o (yielded ops a.tmps) = true)
    (h : ∀ K : Act → World → Prop, (∀ a w, wpList P ops Q rest a w → K a w) → o.wp P a w K Q) : wpList P ops Q (o :: rest) a w := by
  rcases hgd with hg | hw
  · exact wpList_plain hg h
  · exact wpList_step fun K hK => by rw [if_pos hw]; exact h K hK
theorem wpList_eqD {ops : Array Oper} {rest : List Oper} {o : Oper} {a : Act} {Q : Exit → Act → World → Prop} (hgd : o.guard = none ∨ Region.wanted o (yielded ops a.tmps) = true) (t t' : TypeId) (x y : Operand) (ho : o.op = .binOp .eql t x y t')
    (e : TypeId) (n : Nat) (ht : P.underlying t = some (.array n e)) (he : P.underlying e = some (.int .u8)) (hi : (P.info? e).map (·.size) = some 1) (hg : P.eqGuardType P.depth t = false)
    (xs ys : List UInt8) (hx : a.eval x = .agg (bv xs).toArray) (hy : a.eval y = .agg (bv ys).toArray)
    (hxl : xs.length = n) (hyl : ys.length = n) (h : wpList P ops Q rest (a.put o.dst (.bool (xs == ys))) w) : wpList P ops Q (o :: rest) a w :=
  wpList_want hgd fun K hK => by
    unfold Oper.wp execOp
    simp only [ho, hx, hy, Sem.run_bind, run_eqGuard w .eql t x y _ _ (.inl rfl) hg, run_eqD w t e n ht he hi xs ys hxl hyl, Result.andThen_ok, Sem.run_pure]
    exact hK _ _ h
theorem wpList_neD {ops : Array Oper} {rest : List Oper} {o : Oper} {a : Act} {Q : Exit → Act → World → Prop} (hgd : o.guard = none ∨ Region.wanted o (yielded ops a.tmps) = true) (t t' : TypeId) (x y : Operand) (ho : o.op = .binOp .neq t x y t')
    (e : TypeId) (n : Nat) (ht : P.underlying t = some (.array n e)) (he : P.underlying e = some (.int .u8)) (hi : (P.info? e).map (·.size) = some 1) (hg : P.eqGuardType P.depth t = false)
    (xs ys : List UInt8) (hx : a.eval x = .agg (bv xs).toArray) (hy : a.eval y = .agg (bv ys).toArray)
    (hxl : xs.length = n) (hyl : ys.length = n) (h : wpList P ops Q rest (a.put o.dst (.bool (!(xs == ys)))) w) : wpList P ops Q (o :: rest) a w :=
  wpList_want hgd fun K hK => by
    unfold Oper.wp execOp
    simp only [ho, hx, hy, Sem.run_bind, run_eqGuard w .neq t x y _ _ (.inr rfl) hg, run_neD w t e n ht he hi xs ys hxl hyl, Result.andThen_ok, Sem.run_pure]
    exact hK _ _ h
end
/-- A struct or array that is built, its run known. -/
theorem wpList_build {P : Program} {w : World} {ops : Array Oper} {rest : List Oper} {o : Oper} {a : Act} {Q : Exit → Act → World → Prop} (hgd : o.guard = none ∨ Region.wanted o (yielded ops a.tmps) = true) (t : TypeId) (parts : Array (Nat × Operand)) (_ho : o.op = .build t parts) (v : Value)
    (hr : (execOp a.eval o).run P w = .ok (.value v) w) (h : wpList P ops Q rest (a.put o.dst v) w) : wpList P ops Q (o :: rest) a w :=
  wpList_want hgd fun K hK => by
    unfold Oper.wp
    rw [hr]
    exact hK _ _ h
/-- 'x[i]' of an array value whose elements are one cell each. -/
theorem wpList_index {P : Program} {w : World} {ops : Array Oper} {rest : List Oper} {o : Oper} {a : Act} {Q : Exit → Act → World → Prop} (hgd : o.guard = none ∨ Region.wanted o (yielded ops a.tmps) = true) (t : TypeId) (x y : Operand) (ho : o.op = .index t x y)
    (cs : List Value) (k n : Nat) (q : IntKind) (e : TypeId) (d : TypeDesc) (u : Value) (hx : a.eval x = .agg cs.toArray) (hy : a.eval y = .int q (k : Int)) (hu : P.underlying t = some (.array n e)) (hk : k < n)
    (he : P.underlying e = some d) (hd : isAggD d = false) (hs : (P.info? e).map (·.size) = some 1) (hc : cs[k]? = some u) (h : wpList P ops Q rest (a.put o.dst u) w) : wpList P ops Q (o :: rest) a w :=
  wpList_want hgd fun K hK => by
    have hagg : (isAgg e).run P w = .ok false w := by
      unfold isAgg
      rw [Sem.run_bind, run_underlying he w]
      cases d <;> simp_all [isAggD]
    have hr : (Instr.index t (.agg cs.toArray) (.int q (k : Int))).run P w = .ok u w := by
      have hk2 : (0 : Int) ≤ (k : Int) ∧ (k : Int) < (n : Int) := by omega
      simp [Instr.index, asIntOf, run_underlying hu, Nat.not_le_of_lt hk, hk, size_run hs, part, hagg, hc]
    unfold Oper.wp execOp
    simp only [ho, hx, hy, Sem.run_bind, hr, Result.andThen_ok, Sem.run_pure]
    exact hK _ _ h
end
end Go.Proofs.Ytfoomnibfibfnaa

/- Bytes in rows of their own. No condition but what each names. -/
import Derived.Test.YtchnjcghbbacoaaDoorRows
import Derived.Test.YtchnjcghbbacoaaDoorLaws
import Derived.Test.YtchnjcghbbacoaaDoorPure
set_option linter.unusedVariables false
set_option linter.unusedSimpArgs false
set_option linter.unnecessarySimpa false
namespace Go.Proofs.YtchnjcghbbacoaaDoor
open Go.RowKit

theorem u8_info : (Tryd.prog.info? 5).map (fun i => (i.zero, i.size, i.bytes)) = some (some (.int .u8 0), 1, 1) := by kernel_rfl
def OwnB (w : World) (v : Value) (bs : List UInt8) : Prop := Own w 5 1 v bs.length (bv bs)
theorem OwnB.ext {w w' : World} {v : Value} {bs : List UInt8} (h : OwnB w v bs) (hg : Ext w w') : OwnB w' v bs := Own.ext h hg
theorem OwnB.keep {w w' : World} {v : Value} {bs : List UInt8} {row : Option Nat} (h : OwnB w v bs) (hg : w.grownBy w' row) (hne : v.ownBlock = none ∨ v.ownBlock ≠ row) : OwnB w' v bs := Own.keep h hg hne
theorem OwnB.snoc {w : World} {v : Value} {bs : List UInt8} {x : Int} {b : UInt8} (h : Own w 5 1 v (bs.length + 1) (bv bs ++ [.int .u8 x])) (hx : x = b.toNat) : OwnB w v (bs ++ [b]) := by
  subst hx
  unfold OwnB
  rw [bv_append, List.length_append]
  exact h
/-- What is read of a byte slice. -/
theorem src_bytes {w : World} {F : Fp} {A : Option Addr} {c : Nat} {l : List UInt8} (h : (Ty.sl .u8).holds w F [.slice A l.length c] l) : Src w A l.length (bv l) := by
  obtain ⟨A', c', xs, hv, _, _, _, hcell, hall⟩ := h
  cases hv
  intro hn
  obtain ⟨ad, rfl, _, hc⟩ := hcell (by rintro rfl; simp at hn)
  exact ⟨ad, rfl, by rw [← AllH.bytes.1 hall]; exact hc⟩
theorem OwnB.app {w : World} {v : Value} {a b : List UInt8} (h : Own w 5 1 v (a.length + b.length) (bv a ++ bv b)) : OwnB w v (a ++ b) := by
  unfold OwnB; rw [bv_append, List.length_append]; exact h
theorem src_new (w : World) (cs : List Value) (t : TypeId) (m : Nat) : Src (w.alloc (.cells cs.toArray t)) (some ⟨w.heap.size, 0, none⟩) m cs :=
  fun _ => ⟨_, rfl, by have := Cells.of_block (heap_alloc_new w (.cells cs.toArray t)); simpa using this⟩
theorem one_nat {w : World} {F : Fp} {q : IntKind} {n : Nat} (hw : (Lit.int q (n : Int)).wf = true) : AllH ((Ty.nat q).holds w F) [.int q (n : Int)] [n] := AllH.one (R := (Ty.nat q).holds w F) ⟨rfl, hw⟩
theorem OwnB.form {w : World} {v : Value} {bs : List UInt8} (h : OwnB w v bs) : ∃ A c, v = .slice A bs.length c := by
  rcases h.2 with ⟨rfl, h0⟩ | ⟨g, cap, cur, rfl, _⟩
  · exact ⟨none, 0, by rw [h0]⟩
  · exact ⟨_, _, rfl⟩
theorem OwnB.src {w : World} {A : Option Addr} {c : Nat} {bs : List UInt8} (h : OwnB w (.slice A bs.length c) bs) : Src w A bs.length (bv bs) := by
  intro hn
  rcases h.2 with ⟨hv, h0⟩ | ⟨g, cap, cur, hv, _⟩
  · omega
  · cases hv
    exact ⟨_, rfl, World.ownsRow.cells h rfl⟩
theorem OwnB.holds {w : World} {v : Value} {bs : List UInt8} (h : OwnB w v bs) : (Ty.sl .u8).holds w (fun b => v.ownBlock = some b) [v] bs := by
  have hl := h.1
  rcases h.2 with ⟨rfl, h0⟩ | ⟨g, cap, cur, rfl, _, hg, hnc, hcm, _, _⟩
  · obtain rfl : bs = [] := List.eq_nil_of_length_eq_zero h0
    exact ⟨none, 0, [], rfl, by simp, by simp [maxLen], fun _ => rfl, fun h => absurd rfl h, rfl⟩
  · refine ⟨_, cap, bv bs, rfl, hnc, hcm, by simp, fun _ => ⟨_, rfl, rfl, World.ownsRow.cells h rfl⟩, AllH.bytes.2 rfl⟩
theorem OwnB.lt {w : World} {v : Value} {bs : List UInt8} (h : OwnB w v bs) : ∀ g, v.ownBlock = some g → g < w.heap.size := fun g hg => (World.ownsRow.lt h g hg).2
theorem OwnB.new {w : World} {v : Value} {bs : List UInt8} (h : OwnB w v bs) (o : Obj) : ∀ b, b = w.heap.size → b < (w.alloc o).heap.size ∧ v.ownBlock ≠ some b := by
  rintro b rfl
  exact ⟨by simp, fun e => by have := h.lt _ e; omega⟩
/-- Two rows that aren't one. -/
def Apart (u v : Value) : Prop := ∀ g, u.ownBlock = some g → v.ownBlock ≠ some g
theorem Apart.nil (v : Value) : Apart (.slice none 0 0) v := fun g e => by simp [Value.ownBlock] at e
theorem Apart.symm {u v : Value} (h : Apart u v) : Apart v u := fun g e k => h g k e
theorem Apart.moved {w w' : World} {v v' u : Value} (h : Apart v u) (hm : Moved w w' v v') (hu : ∀ g, u.ownBlock = some g → g < w.heap.size) : Apart v' u := by
  intro g e k
  rcases hm.at_ with e' | hn
  · exact h g (e'.symm.trans e) k
  · have := hn g e; have := hu g k; omega
theorem OwnB.moved {w w' : World} {u v v' : Value} {bs : List UInt8} (h : OwnB w u bs) (hm : Moved w w' v v') (ha : Apart v u) : OwnB w' u bs := by
  refine h.keep hm.grown ?_
  cases hu : u.ownBlock with
  | none => exact .inl rfl
  | some g => exact .inr fun e => ha g e.symm hu
theorem Moved.keepF {w w' w1 : World} {v : Value} (h : Fresh w w' v) (hx : Ext w w1) : Fresh w w1 v := ⟨hx.any _, h.at_⟩
theorem Moved.farF {w w' : World} {v : Value} {F : Fp} (h : Fresh w w' v) (hF : ∀ b, F b → b < w.heap.size) : Far F w' v := fun b hb => ⟨Nat.lt_of_lt_of_le (hF b hb) h.grown.size, fun e => by have := Fresh.new h b e; have := hF b hb; omega⟩
/-- A block that is known whole. -/
def Blk (w : World) (g : Nat) (t : TypeId) (cs : List Value) : Prop := w.heap[g]? = some (.cells cs.toArray t (0, 0))
theorem Blk.lt {w : World} {g : Nat} {t : TypeId} {cs : List Value} (h : Blk w g t cs) : g < w.heap.size := (Array.getElem?_eq_some_iff.1 h).1
theorem Blk.cell {w : World} {g : Nat} {t : TypeId} {cs : List Value} (h : Blk w g t cs) (i : Nat) : w.cell? ⟨g, i, none⟩ = cs[i]? := by rw [cell_of_row w g i cs.toArray t (0, 0) h]; simp
theorem Blk.free {w : World} {g : Nat} {t : TypeId} {cs : List Value} (h : Blk w g t cs) (i : Nat) : w.frozen? ⟨g, i, none⟩ = false := frozen_of_row w g i cs.toArray t h
theorem Blk.new (w : World) (t : TypeId) (cs : List Value) : Blk (w.alloc (.cells cs.toArray t)) w.heap.size t cs := heap_alloc_new w _
theorem Blk.set {w : World} {g : Nat} {t : TypeId} {cs : List Value} (h : Blk w g t cs) (i : Nat) (u : Value) : Blk (w.setCell ⟨g, i, none⟩ u) g t (cs.set i u) := by
  have := heap_setCell_same w g i cs.toArray t u h
  unfold Blk; rw [this]; simp
theorem Blk.keep {w w' : World} {g : Nat} {t : TypeId} {cs : List Value} {row : Option Nat} (h : Blk w g t cs) (hg : w.grownBy w' row) (hne : some g ≠ row) : Blk w' g t cs := (hg.block g h.lt hne).trans h
theorem Blk.cells {w : World} {g : Nat} {t : TypeId} {cs : List Value} (h : Blk w g t cs) : Cells w ⟨g, 0, none⟩ cs := by have := Cells.of_block h; simpa using this
theorem only_set {w : World} {g : Nat} (i : Nat) (u : Value) : w.grownBy (w.setCell ⟨g, i, none⟩ u) (some g) :=
  ⟨rfl, rfl, rfl, by simp, fun k _ hk => heap_setCell_other w ⟨g, i, none⟩ k u (fun e => hk (by rw [e]))⟩
theorem fresh_empty (w : World) (e : TypeId) : Fresh w (w.alloc (.cells #[] e)) (.slice (some ⟨w.heap.size, 0, none⟩) 0 0) :=
  ⟨((Ext.refl w).alloc _).any _, .inr (by rintro g ⟨⟩; exact Nat.le_refl _)⟩
theorem own_src {w : World} {e : TypeId} {size : Nat} {A : Option Addr} {n c : Nat} {xs : List Value} (h : Own w e size (.slice A n c) n xs) : Src w A n xs := by
  intro hn
  rcases h.2 with ⟨hv, h0⟩ | ⟨g, cap, cur, hv, _⟩
  · omega
  · cases hv
    exact ⟨_, rfl, World.ownsRow.cells h rfl⟩

theorem bv_set (bs : List UInt8) (i : Nat) (b : UInt8) : bv (bs.set i b) = (bv bs).set i (.int .u8 (b.toNat : Int)) := by simp [bv]
theorem bv_ne (bs : List UInt8) : bs.length ≠ 0 → bv bs ≠ [] := by rintro h e; apply h; have := congrArg List.length e; simpa using this
theorem Src.alloc {w : World} {A : Option Addr} {m : Nat} {news : List Value} (h : Src w A m news) (hn : m ≠ 0 → news ≠ []) (o : Obj) : Src (w.alloc o) A m news := fun hm => by
  obtain ⟨ad, e, hc⟩ := h hm
  exact ⟨ad, e, hc.keep (Below.heap_alloc w o _ (hc.lt (hn hm)))⟩
end Go.Proofs.YtchnjcghbbacoaaDoor

/- The walks of strings.Builder's copyCheck, WriteByte, WriteString at a builder in a block of the call's own, with all other blocks as they were. Conditions: the new length takes at most 2^47 bytes. (The walks follow the library's worked ones.) -/
import Derived.Test.YtchnjcghbbacoaaDoorByt
import Derived.Test.YtchnjcghbbacoaaDoorDst
import Derived.Lib.Builder
import Derived.Lib.AppendStr
import Derived.Laws.IdiomCopy
import Derived.Laws.Externs
set_option linter.unusedVariables false
set_option linter.unusedSimpArgs false
set_option linter.unnecessarySimpa false
namespace Go.Proofs.YtchnjcghbbacoaaDoor
open Go.RowKit

/-- Only the builder's block b and the row r may have turned. -/
structure BFr (b : Nat) (r : Option Nat) (w w' : World) : Prop where
  os : w'.os = w.os
  tape : w'.tape = w.tape
  output : w'.output = w.output
  size : w.heap.size ≤ w'.heap.size
  block : ∀ i, i < w.heap.size → i ≠ b → some i ≠ r → w'.heap[i]? = w.heap[i]?
theorem BFr.refl (b : Nat) (r : Option Nat) (w : World) : BFr b r w w := ⟨rfl, rfl, rfl, Nat.le_refl _, fun _ _ _ _ => rfl⟩
theorem BFr.trans {b : Nat} {r : Option Nat} {u v w : World} (h : BFr b r u v) (k : BFr b r v w) : BFr b r u w :=
  ⟨k.os.trans h.os, k.tape.trans h.tape, k.output.trans h.output, Nat.le_trans h.size k.size, fun i hi hb hr => (k.block i (Nat.lt_of_lt_of_le hi h.size) hb hr).trans (h.block i hi hb hr)⟩
theorem BFr.then {b : Nat} {r s : Option Nat} {u v w : World} (h : BFr b r u v) (k : BFr b s v w) (hs : s = r ∨ ∀ g, s = some g → u.heap.size ≤ g) : BFr b r u w :=
  ⟨k.os.trans h.os, k.tape.trans h.tape, k.output.trans h.output, Nat.le_trans h.size k.size, fun i hi hb hr => (k.block i (Nat.lt_of_lt_of_le hi h.size) hb (fun e => by
    rcases hs with rfl | hs
    · exact hr e
    · have := hs i e.symm; omega)).trans (h.block i hi hb hr)⟩
theorem BFr.grown {b : Nat} {r s : Option Nat} {u v w : World} (h : BFr b r u v) (k : v.grownBy w s) (hs : s = r ∨ ∀ g, s = some g → u.heap.size ≤ g) : BFr b r u w :=
  ⟨k.os.trans h.os, k.tape.trans h.tape, k.output.trans h.output, Nat.le_trans h.size k.size, fun i hi hb hr => (k.block i (Nat.lt_of_lt_of_le hi h.size) (fun e => by
    rcases hs with rfl | hs
    · exact hr e
    · have := hs i e.symm; omega)).trans (h.block i hi hb hr)⟩
theorem BFr.set {b : Nat} {r : Option Nat} {u v : World} (h : BFr b r u v) (j : Nat) (x : Value) : BFr b r u (v.setCell ⟨b, j, none⟩ x) :=
  ⟨h.os, h.tape, h.output, by simpa [World.setCell] using h.size, fun i hi hb hr => (Below.heap_setCell v ⟨b, j, none⟩ x i (fun e => hb (by simpa using e))).trans (h.block i hi hb hr)⟩

/-- A builder in block b, from B on: its 'addr' holds p, its buffer is v, its bytes are bs. -/
structure BAt (B b : Nat) (p v : Value) (bs : List Value) (w : World) : Prop where
  low : B ≤ b
  row : w.heap[b]? = some (.cells #[p, v] 52 (0, 0))
  own : w.ownsRow B 5 1 v bs.length bs
  ne : v.ownBlock ≠ some b
theorem BAt.at_ {B b : Nat} {p v : Value} {bs : List Value} {w : World} (h : BAt B b p v bs w) : Lib.BuilderAt 52 5 B b p bs w := ⟨h.low, v, h.row, h.own, h.ne⟩
theorem BAt.lt {B b : Nat} {p v : Value} {bs : List Value} {w : World} (h : BAt B b p v bs w) : b < w.heap.size := h.at_.lt
theorem BAt.new (w : World) : BAt w.heap.size w.heap.size (.pointer none) (.slice none 0 0) [] (w.alloc (.cells #[.pointer none, .slice none 0 0] 52)) :=
  ⟨Nat.le_refl _, heap_alloc_new w _, World.ownsRow_nil _ _ _ _, by simp [Value.ownBlock]⟩
/-- .. in a later world. -/
theorem BAt.keep {B b : Nat} {p v : Value} {bs : List Value} {w w' : World} {row : Option Nat} (h : BAt B b p v bs w) (hg : w.grownBy w' row) (h1 : some b ≠ row) (h2 : v.ownBlock = none ∨ v.ownBlock ≠ row) : BAt B b p v bs w' :=
  ⟨h.low, (hg.block b h.lt h1).trans h.row, h.own.kept hg h2, h.ne⟩
theorem bd_size : (Tryd.prog.info? 52).map (·.size) = some 2 := by kernel_rfl
set_option maxHeartbeats 1000000 in
set_option maxRecDepth 100000 in
theorem Bd_copyCheck_used (b : Nat) (w : World) (h0 : w.cell? ⟨b, 0, none⟩ = some (.pointer (some ⟨b, 0, none⟩))) :
    Calls Tryd.prog 39 #[.pointer (some ⟨b, 0, none⟩)] w fun e w' => e = .returned (.tuple #[]) ∧ w' = w := by
  obtain ⟨j, hj, _⟩ := Option.map_eq_some_iff.1 bd_size
  go_enter Tryd.func39, Tryd.ntmps39
  go_wp2
  rw [Lib.run_neq_ptr_same w _ Tryd.underlying50 hj]
  go_wp2
  go_end0
  exact ⟨rfl, rfl⟩
theorem bd_lies : liesAt Tryd.prog Tryd.prog.depth 52 (2 / Tryd.prog.cellsOf 52) 0 52 1 = true := by kernel_rfl
set_option maxHeartbeats 1000000 in
set_option maxRecDepth 100000 in
theorem Bd_copyCheck_fresh (b : Nat) (w : World) (h0 : w.cell? ⟨b, 0, none⟩ = some (.pointer none)) (hsh : w.shape? b = some (52, 2)) (hfz : w.frozen? ⟨b, 0, none⟩ = false) :
    Calls Tryd.prog 39 #[.pointer (some ⟨b, 0, none⟩)] w fun e w' => e = .returned (.tuple #[]) ∧ w' = w.setCell ⟨b, 0, none⟩ (.pointer (some ⟨b, 0, none⟩)) := by
  obtain ⟨j, hj, hjs⟩ := Option.map_eq_some_iff.1 bd_size
  go_enter Tryd.func39, Tryd.ntmps39
  go_wp2
  rw [Lib.run_to_unsafe w ⟨b, 0, none⟩ Tryd.underlying50 Tryd.underlying96 hj (by rw [hjs]; decide) hsh (Nat.zero_lt_succ 1)]
  simp only [Result.andThen]
  rw [Oper.upon_value]
  go_wp2
  rw [run_callFunc_extern Tryd.func50 (by kernel_rfl) (by kernel_rfl) (by kernel_rfl) (e := Extern.AbiNoEscape.same) (by kernel_rfl)]
  rw [Lib.run_noEscape]
  simp only [Result.andThen]
  rw [Oper.upon_value]
  go_wp2
  rw [Lib.run_from_unsafe w ⟨b, 0, none⟩ Tryd.underlying96 Tryd.underlying50 hj hsh bd_lies]
  simp only [Result.andThen]
  rw [Oper.upon_value]
  go_wp2
  go_end0
  exact ⟨rfl, rfl⟩
theorem Bd_copyCheck (B b : Nat) (p v : Value) (bs : List Value) (w : World) (h : BAt B b p v bs w) (hp : p = .pointer none ∨ p = .pointer (some ⟨b, 0, none⟩)) :
    Calls Tryd.prog 39 #[.pointer (some ⟨b, 0, none⟩)] w fun e w' => e = .returned (.tuple #[]) ∧ BAt B b (.pointer (some ⟨b, 0, none⟩)) v bs w' ∧ BFr b v.ownBlock w w' := by
  rcases hp with rfl | rfl
  · refine (Bd_copyCheck_fresh b w h.at_.cell0 h.at_.shape h.at_.frozen0).mono ?_
    rintro e w' ⟨rfl, rfl⟩
    refine ⟨rfl, ⟨h.low, ?_, ?_, h.ne⟩, (BFr.refl _ _ _).set 0 _⟩
    · simp [World.setCell, Array.getElem?_modify, h.row]
    · exact h.own.kept (row := some b) ⟨rfl, rfl, rfl, by simp [World.setCell], fun k _ hk => Below.heap_setCell _ _ _ _ (fun e => hk (by simp [e]))⟩ (Or.inr h.ne)
  · refine (Bd_copyCheck_used b w h.at_.cell0).mono ?_
    rintro e w' ⟨rfl, rfl⟩
    exact ⟨rfl, h, BFr.refl _ _ _⟩
theorem BAt.put {B b : Nat} {p v v' : Value} {bs' : List Value} {w : World} (hB : B ≤ b) (hb : w.heap[b]? = some (.cells #[p, v] 52 (0, 0))) (hown : w.ownsRow B 5 1 v' bs'.length bs') : BAt B b p v' bs' (w.setCell ⟨b, 1, none⟩ v') := by
  have hne := Lib.ownBlock_ne hown hb (by decide)
  refine ⟨hB, ?_, ?_, hne⟩
  · simp [World.setCell, Array.getElem?_modify, hb]
  · exact hown.kept (row := some b) ⟨rfl, rfl, rfl, by simp [World.setCell], fun k _ hk => Below.heap_setCell _ _ _ _ (fun e => hk (by simp [e]))⟩ (Or.inr hne)
theorem BAt.form {B b : Nat} {p v : Value} {bs : List Value} {w : World} (h : BAt B b p v bs w) : ∃ A c, v = .slice A bs.length c := by
  rcases h.own.2 with ⟨hv, h0⟩ | ⟨g, cap, cur, hv, _⟩
  · exact ⟨none, 0, by rw [hv, h0]⟩
  · exact ⟨_, _, hv⟩
theorem own0 {w : World} {B : Nat} {e : TypeId} {size n : Nat} {v : Value} {xs : List Value} (h : w.ownsRow B e size v n xs) : Own w e size v n xs := by
  refine ⟨h.1, h.2.imp id ?_⟩
  rintro ⟨g, cap, cur, h1, _, h3⟩
  exact ⟨g, cap, cur, h1, Nat.zero_le _, h3⟩
theorem ownB {w : World} {B : Nat} {e : TypeId} {size n : Nat} {v : Value} {xs : List Value} (h : Own w e size v n xs) (hb : ∀ g, v.ownBlock = some g → B ≤ g) : w.ownsRow B e size v n xs := by
  refine ⟨h.1, h.2.imp id ?_⟩
  rintro ⟨g, cap, cur, h1, _, h3⟩
  exact ⟨g, cap, cur, h1, hb g (by rw [h1]; rfl), h3⟩
/-- A row that was grown lies where it lay, or in a new block. -/
def NewOr (n : Nat) (v v' : Value) : Prop := v'.ownBlock = v.ownBlock ∨ ∀ g, v'.ownBlock = some g → n ≤ g
set_option maxHeartbeats 2000000 in
set_option maxRecDepth 100000 in
theorem Bd_WriteByte (B b : Nat) (v : Value) (bs : List Value) (c : Int) (w : World) (h : BAt B b (.pointer (some ⟨b, 0, none⟩)) v bs w) (hlen : bs.length + 1 ≤ 140737488355328) :
    Calls Tryd.prog 19 #[.pointer (some ⟨b, 0, none⟩), .int .u8 c] w fun e w' => e = .returned .nilIface ∧ ∃ v', BAt B b (.pointer (some ⟨b, 0, none⟩)) v' (bs ++ [.int .u8 c]) w' ∧ BFr b v.ownBlock w w' ∧ NewOr w.heap.size v v' := by
  obtain ⟨i0, hi, hz0, hz1, hz2⟩ := info_parts u8_info
  go_enter Tryd.func19, Tryd.ntmps19
  go_wp2_with (go_at_call 39; refine (Bd_copyCheck B b _ v bs _ h (.inr rfl)).mono ?_)
  rintro e w1 ⟨rfl, h1, hf1⟩
  have hlt := h1.lt
  have hB := h1.low
  have hbk := h1.row
  have hown := h1.own
  have hne := h1.ne
  have c0 : w1.cell? ⟨b, 0, none⟩ = some (.pointer (some ⟨b, 0, none⟩)) := h1.at_.cell0
  have c1 : w1.cell? ⟨b, 1, none⟩ = some v := by rw [Lib.cell_of_heap hbk]; rfl
  have HO := Lib.hid (own0 hown)
  have HB := Lib.hid hown
  clear hown
  go_wp2_with (first
    | ((with_reducible refine wpDst 14 rfl ?_)
       refine wpList_app1 _ rfl (.tmp 11) (.tmp 13) _ _ rfl 5 5 5 i0 _ 1 1 Tryd.underlying40 Tryd.underlying40 hi hz0 hz1 hz2 rfl (by decide) _ _ _ [.int .u8 c] rfl HO.out rfl rfl (by simp [Value.oneCell']) (by unfold maxLen; omega) (by omega) ?_
       intro v' w2 ho2 hm2
       obtain ⟨A2, c2, rfl⟩ := Own.form ho2
       have HO2 := Lib.hid (And.intro ho2 hm2)
       clear ho2 hm2
       have hbk2 : w2.heap[b]? = some (.cells #[.pointer (some ⟨b, 0, none⟩), v] 52 (0, 0)) := (HO2.out.2.grown.block b hlt (fun e => hne e.symm)).trans hbk
       have d1 : w2.cell? ⟨b, 1, none⟩ = some v := by rw [Lib.cell_of_heap hbk2]; rfl
       have f1 : w2.frozen? ⟨b, 1, none⟩ = false := Lib.frozen_of_heap hbk2 1)
    | fail)
  go_ret
  obtain ⟨ho2, hm2⟩ := HO2.out
  refine ⟨rfl, _, BAt.put hB hbk2 (bs' := bs ++ [.int .u8 c]) (by rw [List.length_append]; exact ownB ho2 (fun g e => by
    rcases hm2.at_ with e2 | hn
    · exact (HB.out.lt g (e2.symm.trans e)).1
    · have := hn g e; omega)), ((hf1.grown hm2.grown (.inl rfl))).set 1 _, ?_⟩
  rcases hm2.at_ with e2 | hn
  · exact .inl e2
  · exact .inr fun g e => Nat.le_trans hf1.size (hn g e)
set_option maxHeartbeats 2000000 in
set_option maxRecDepth 100000 in
/-- The first writing into a fresh builder. -/
theorem Bd_WriteString (B b : Nat) (s : ByteArray) (w : World) (h : BAt B b (.pointer none) (.slice none 0 0) [] w) (hBw : B ≤ w.heap.size) (hlen : s.size ≤ 140737488355328) :
    Calls Tryd.prog 17 #[.pointer (some ⟨b, 0, none⟩), .string s] w fun e w' => e = .returned (.tuple #[.int .i64 s.size, .nilIface]) ∧ ∃ v', BAt B b (.pointer (some ⟨b, 0, none⟩)) v' (Lib.strCells s) w' ∧ BFr b none w w' ∧ ∀ g, v'.ownBlock = some g → w.heap.size ≤ g := by
  obtain ⟨i0, hi, hz0, hz1, hz2⟩ := info_parts u8_info
  go_enter Tryd.func17, Tryd.ntmps17
  go_wp2_with (go_at_call 39; refine (Bd_copyCheck B b _ _ _ _ h (.inl rfl)).mono ?_)
  rintro e w1 ⟨rfl, h1, hf1⟩
  have hlt := h1.lt
  have hB := h1.low
  have hbk := h1.row
  have c0 : w1.cell? ⟨b, 0, none⟩ = some (.pointer (some ⟨b, 0, none⟩)) := h1.at_.cell0
  have c1 : w1.cell? ⟨b, 1, none⟩ = some (.slice none 0 0) := by rw [Lib.cell_of_heap hbk]; rfl
  have HB := Lib.hid (World.ownsRow_nil w1 w1.heap.size 5 1)
  have HF := Lib.hid hf1
  have HS := Lib.hid hf1.size
  clear hf1
  go_wp2_with (first
    | ((with_reducible refine wpDst 14 rfl ?_)
       refine Lib.wpList_append_own_string _ rfl _ _ 40 9 rfl w1.heap.size 5 i0 Tryd.underlying40 Tryd.underlying9 hi hz0 hz1 hz2 (.slice none 0 0) 0 [] rfl HB.out s rfl (by unfold maxLen; omega) (by omega) (Nat.le_refl _) ?_
       intro v' w2 ho2 hg2 ha2
       obtain ⟨A2, c2, rfl⟩ := Own.form (own0 ho2)
       have HO2 := Lib.hid (And.intro ho2 hg2)
       clear ho2 hg2 ha2
       have hbk2 : w2.heap[b]? = some (.cells #[.pointer (some ⟨b, 0, none⟩), .slice none 0 0] 52 (0, 0)) := (HO2.out.2.block b hlt (by simp [Value.ownBlock])).trans hbk
       have d1 : w2.cell? ⟨b, 1, none⟩ = some (.slice none 0 0) := by rw [Lib.cell_of_heap hbk2]; rfl
       have f1 : w2.frozen? ⟨b, 1, none⟩ = false := Lib.frozen_of_heap hbk2 1)
    | fail)
  go_ret2
  obtain ⟨ho2, hg2⟩ := HO2.out
  rw [Nat.zero_add] at ho2
  have hlow : ∀ g, (Value.slice A2 s.size c2).ownBlock = some g → w.heap.size ≤ g := fun g e => Nat.le_trans HS.out (ho2.lt g e).1
  refine ⟨rfl, _, BAt.put hB hbk2 (bs' := Lib.strCells s) (by have := ownB (own0 ho2) (fun g e => Nat.le_trans hBw (hlow g e)); simpa [Lib.strCells_length] using this), ((HF.out.grown hg2 (.inl rfl))).set 1 _, hlow⟩
end Go.Proofs.YtchnjcghbbacoaaDoor

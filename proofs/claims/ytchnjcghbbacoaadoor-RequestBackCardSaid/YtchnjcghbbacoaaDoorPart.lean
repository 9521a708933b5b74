/- Storing an array into a part of a row: the law, and what lies there then. No condition. -/
import Derived.Test.YtchnjcghbbacoaaDoorLaws
import Derived.Test.YtchnjcghbbacoaaDoorByt
set_option linter.unusedVariables false
set_option linter.unusedSimpArgs false
set_option linter.unnecessarySimpa false
namespace Go.Proofs.YtchnjcghbbacoaaDoor
open Go.RowKit

theorem Blk.fresh {w : World} {G : Nat} (hG : w.heap.size = G) (t : TypeId) (cs : List Value) : Blk (w.alloc (.cells cs.toArray t)) G t cs := by subst hG; exact Blk.new w t cs
/-- A list with a stretch of it replaced. -/
def putAt (old : List Value) (off : Nat) (cs : List Value) : List Value := old.take off ++ cs ++ old.drop (off + cs.length)
theorem putAt_len {old cs : List Value} {off : Nat} (h : off + cs.length ≤ old.length) : (putAt old off cs).length = old.length := by
  simp only [putAt, List.length_append, List.length_take, List.length_drop]; omega
theorem putAt_get {old cs : List Value} {off : Nat} (h : off + cs.length ≤ old.length) (i : Nat) :
    (putAt old off cs)[i]? = if i < off then old[i]? else if i < off + cs.length then cs[i - off]? else old[i]? := by
  have h1 : (old.take off).length = off := by rw [List.length_take]; omega
  unfold putAt
  rw [List.append_assoc]
  by_cases hi : i < off
  · rw [if_pos hi, List.getElem?_append_left (by omega), List.getElem?_take, if_pos hi]
  · rw [if_neg hi, List.getElem?_append_right (by omega), h1]
    by_cases hj : i < off + cs.length
    · rw [if_pos hj, List.getElem?_append_left (by omega)]
    · rw [if_neg hj, List.getElem?_append_right (by omega), List.getElem?_drop]
      congr 1; omega
theorem putAt_one {old cs : List Value} {off : Nat} (h1 : ∀ u ∈ old, u.oneCell' = true) (h2 : ∀ u ∈ cs, u.oneCell' = true) : ∀ u ∈ putAt old off cs, u.oneCell' = true := by
  intro u hu
  rcases List.mem_append.1 hu with hu | hu
  · rcases List.mem_append.1 hu with hu | hu
    · exact h1 u (List.mem_of_mem_take hu)
    · exact h2 u hu
  · exact h1 u (List.mem_of_mem_drop hu)
section
variable {P : Program} (w : World)
theorem run_store_part (g off : Nat) (t : TypeId) (old cs : List Value) (hg : w.heap[g]? = some (.cells old.toArray t (0, 0))) (hl : off + cs.length ≤ old.length) (h1 : ∀ u ∈ cs, u.oneCell' = true) :
    (storeCells ⟨g, off, none⟩ cs).run P w = .ok () (w.setRow g (putAt old off cs).toArray) := by
  have h := run_storeCells_at P g off t cs 0 old.toArray w hg (by simpa using hl) h1
  simpa [putAt] using h
theorem wpList_store_part {ops : Array Oper} {rest : List Oper} {o : Oper} {a : Act} {Q : Exit → Act → World → Prop} (hgd : o.guard = none) (ty : TypeId) (p x : Operand) (ho : o.op = .store ty p x)
    (g off : Nat) (hp : a.eval p = .pointer (some ⟨g, off, none⟩)) (old cs : List Value) (t : TypeId) (hx : a.eval x = .agg cs.toArray) (hg : w.heap[g]? = some (.cells old.toArray t (0, 0)))
    (hi : (P.info? ty).map (·.size) = some cs.length) (hl : off + cs.length ≤ old.length) (h1 : ∀ u ∈ cs, u.oneCell' = true)
    (h : wpList P ops Q rest (a.put o.dst undef) (w.setRow g (putAt old off cs).toArray)) : wpList P ops Q (o :: rest) a w :=
  wpList_plain hgd fun K hK => by
    obtain ⟨i, hi', hs⟩ := Option.map_eq_some_iff.1 hi
    unfold Oper.wp execOp
    simp only [ho, hp, hx, Instr.storeAt, Instr.sureAddr, storeVar, sizeOf, typeInfo, Sem.run_bind, run_program, Result.andThen_ok, hi', Sem.run_pure, hs, Value.cells, List.size_toArray, ne_eq, not_true, if_false,
      run_store_part w g off t old cs hg hl h1]
    exact hK _ _ h
theorem wp_store_part {o : Oper} {a : Act} {K : Act → World → Prop} {Q : Exit → Act → World → Prop} (ty : TypeId) (p x : Operand) (ho : o.op = .store ty p x)
    (g off : Nat) (hp : a.eval p = .pointer (some ⟨g, off, none⟩)) (old cs : List Value) (t : TypeId) (hx : a.eval x = .agg cs.toArray) (hg : w.heap[g]? = some (.cells old.toArray t (0, 0)))
    (hi : (P.info? ty).map (·.size) = some cs.length) (hl : off + cs.length ≤ old.length) (h1 : ∀ u ∈ cs, u.oneCell' = true)
    (h : K (a.put o.dst undef) (w.setRow g (putAt old off cs).toArray)) : o.wp P a w K Q := by
  obtain ⟨i, hi', hs⟩ := Option.map_eq_some_iff.1 hi
  unfold Oper.wp execOp
  simp only [ho, hp, hx, Instr.storeAt, Instr.sureAddr, storeVar, sizeOf, typeInfo, Sem.run_bind, run_program, Result.andThen_ok, hi', Sem.run_pure, hs, Value.cells, List.size_toArray, ne_eq, not_true, if_false,
    run_store_part w g off t old cs hg hl h1]
  exact h
end

theorem addr_at (g n : Nat) : (⟨g, 0, none⟩ : Addr).add n = ⟨g, n, none⟩ := by unfold Addr.add; split <;> simp_all
/-- Of a signature's pieces the first k pairs are there. -/
def mixAt (C Z : List Value) (k : Nat) : List Value := (List.range 1024).map fun i => if i % 512 < k * 16 then C.getD i undef else Z.getD i undef
theorem mixAt_len (C Z : List Value) (k : Nat) : (mixAt C Z k).length = 1024 := by simp [mixAt]
theorem mixAt_get (C Z : List Value) (hC : C.length = 1024) (hZ : Z.length = 1024) (k i : Nat) : (mixAt C Z k)[i]? = if i % 512 < k * 16 then C[i]? else Z[i]? := by
  unfold mixAt
  rw [List.getElem?_map]
  by_cases hi : i < 1024
  · rw [List.getElem?_range hi]
    show some (if i % 512 < k * 16 then C.getD i undef else Z.getD i undef) = _
    by_cases hk : i % 512 < k * 16
    · rw [if_pos hk, if_pos hk, List.getElem?_eq_getElem (by omega), List.getD_eq_getElem?_getD, List.getElem?_eq_getElem (by omega)]; rfl
    · rw [if_neg hk, if_neg hk, List.getElem?_eq_getElem (by omega), List.getD_eq_getElem?_getD, List.getElem?_eq_getElem (by omega)]; rfl
  · rw [List.getElem?_eq_none (by simpa using hi)]
    show none = _
    split
    · rw [List.getElem?_eq_none (by omega)]
    · rw [List.getElem?_eq_none (by omega)]
theorem mixAt_zero (C Z : List Value) (hC : C.length = 1024) (hZ : Z.length = 1024) : mixAt C Z 0 = Z := by
  apply List.ext_getElem?
  intro i
  rw [mixAt_get C Z hC hZ, if_neg (by omega)]
theorem mixAt_all (C Z : List Value) (hC : C.length = 1024) (hZ : Z.length = 1024) : mixAt C Z 32 = C := by
  apply List.ext_getElem?
  intro i
  rw [mixAt_get C Z hC hZ, if_pos (by omega)]
theorem piece_len {C : List Value} (hC : C.length = 1024) {o : Nat} (ho : o ≤ 1008) : ((C.drop o).take 16).length = 16 := by
  rw [List.length_take, List.length_drop]; omega
theorem piece_get {C : List Value} {o i : Nat} (h : i < 16) : ((C.drop o).take 16)[i]? = C[o + i]? := by
  rw [List.getElem?_take, if_pos h, List.getElem?_drop]
set_option maxRecDepth 100000 in
theorem mixAt_step (C Z : List Value) (hC : C.length = 1024) (hZ : Z.length = 1024) (k : Nat) (hk : k < 32) :
    putAt (putAt (mixAt C Z k) (k * 16) ((C.drop (k * 16)).take 16)) (512 + k * 16) ((C.drop (512 + k * 16)).take 16) = mixAt C Z (k + 1) := by
  have l1 := piece_len hC (o := k * 16) (by omega)
  have l2 := piece_len hC (o := 512 + k * 16) (by omega)
  have m := mixAt_len C Z k
  apply List.ext_getElem?
  intro i
  by_cases hi : i < 1024
  case neg => rw [List.getElem?_eq_none (by rw [putAt_len (by rw [putAt_len (by omega)]; omega), putAt_len (by omega)]; omega), List.getElem?_eq_none (by rw [mixAt_len]; omega)]
  rw [putAt_get (by rw [putAt_len (by omega)]; omega), putAt_get (by omega), mixAt_get C Z hC hZ, mixAt_get C Z hC hZ, l1, l2]
  by_cases a : i < k * 16 <;> by_cases b : i < k * 16 + 16 <;> by_cases c : i < 512 + k * 16 <;> by_cases d : i < 512 + k * 16 + 16 <;> by_cases e : i % 512 < k * 16 <;> by_cases f : i % 512 < (k + 1) * 16 <;> first | (exfalso; omega) | (simp only [a, b, c, d, e, f, if_true, if_false]; done) | (simp only [a, b, c, d, e, f, if_true, if_false]; rw [piece_get (by omega)]; congr 1; omega)
set_option maxRecDepth 100000 in
theorem mixAt_comm (C Z : List Value) (hC : C.length = 1024) (k : Nat) (hk : k < 32) :
    putAt (putAt (mixAt C Z k) (512 + k * 16) ((C.drop (512 + k * 16)).take 16)) (k * 16) ((C.drop (k * 16)).take 16) = putAt (putAt (mixAt C Z k) (k * 16) ((C.drop (k * 16)).take 16)) (512 + k * 16) ((C.drop (512 + k * 16)).take 16) := by
  have l1 := piece_len hC (o := k * 16) (by omega)
  have l2 := piece_len hC (o := 512 + k * 16) (by omega)
  have m := mixAt_len C Z k
  apply List.ext_getElem?
  intro i
  rw [putAt_get (by rw [putAt_len (by omega)]; omega), putAt_get (by omega), putAt_get (by rw [putAt_len (by omega)]; omega), putAt_get (by omega), l1, l2]
  by_cases a : i < k * 16 <;> by_cases b : i < k * 16 + 16 <;> by_cases c : i < 512 + k * 16 <;> by_cases d : i < 512 + k * 16 + 16 <;> first | (exfalso; omega) | simp only [a, b, c, d, if_true, if_false]
theorem mixAt_one (C Z : List Value) (h1 : ∀ u ∈ C, u.oneCell' = true) (h2 : ∀ u ∈ Z, u.oneCell' = true) (hC : C.length = 1024) (hZ : Z.length = 1024) (k : Nat) : ∀ u ∈ mixAt C Z k, u.oneCell' = true := by
  intro u hu
  obtain ⟨i, hi⟩ := List.getElem?_of_mem hu
  rw [mixAt_get C Z hC hZ] at hi
  split at hi
  · exact h1 u (List.mem_of_getElem? hi)
  · exact h2 u (List.mem_of_getElem? hi)
end Go.Proofs.YtchnjcghbbacoaaDoor

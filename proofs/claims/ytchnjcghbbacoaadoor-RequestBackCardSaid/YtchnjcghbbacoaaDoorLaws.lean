/- Laws for the walk: append onto an own row, whatever the source; reading cells as a struct or array; bytes as a string. No condition but what each names. -/
import Derived.Test.YtchnjcghbbacoaaDoorLib
import Derived.Laws.IdiomCopy
import Derived.Laws.CopyRow
import Derived.Stop.BytesEq
set_option linter.unusedVariables false
set_option linter.unusedSimpArgs false
set_option linter.unnecessarySimpa false
namespace Go.Proofs.YtchnjcghbbacoaaDoor
open Go.RowKit

section
variable {P : Program} (w : World)

/-- What is read of a slice that is appended: its cells. -/
def Src (w : World) (A : Option Addr) (m : Nat) (news : List Value) : Prop := m ≠ 0 → ∃ ad, A = some ad ∧ Cells w ad news

theorem append_types {t t' ty e e' : TypeId} (ht : P.underlying t = some (.slice e)) (ht' : P.underlying t' = some (.slice e')) (b : Option Addr) (n k : Nat) (x : Value) :
    (Builtin.append_ #[t, t'] ty #[.slice b n k, x]).run P w = (Builtin.append_ #[t, t] ty #[.slice b n k, x]).run P w := by
  simp [Builtin.append_, run_underlying ht, run_underlying ht']

theorem run_app (t t' ty e e' : TypeId) (i : TypeInfo) (z : Value) (size bytes : Nat) (ht : P.underlying t = some (.slice e)) (ht' : P.underlying t' = some (.slice e')) (hi : P.info? e = some i) (hz : i.zero = some z)
    (hsize : i.size = size) (hby : i.bytes = bytes) (hzs : z.cells.size = size) (hsz : 0 < size)
    (v : Value) (n : Nat) (xs : List Value) (hown : Own w e size v n xs)
    (A : Option Addr) (m c : Nat) (news : List Value) (hl : news.length = m * size) (hnews : Src w A m news) (h1 : ∀ u ∈ news, u.oneCell' = true)
    (h63 : n + m ≤ maxLen) (hbytes : (n + m) * bytes ≤ 140737488355328) :
    ∃ v' w', (Builtin.append_ #[t, t'] ty #[v, .slice A m c]).run P w = .ok v' w' ∧ Own w' e size v' (n + m) (xs ++ news) ∧ Moved w w' v v' := by
  obtain ⟨b, k, rfl⟩ : ∃ b k, v = .slice b n k := by
    rcases hown.2 with ⟨rfl, rfl⟩ | ⟨g, cap, cur, rfl, _⟩
    · exact ⟨_, _, rfl⟩
    · exact ⟨_, _, rfl⟩
  rw [append_types w ht ht']
  cases A with
  | none =>
    have hm : m = 0 := by
      rcases Nat.eq_zero_or_pos m with h | h
      · exact h
      · obtain ⟨ad, h', _⟩ := hnews (by omega)
        cases h'
    subst hm
    obtain rfl : news = [] := List.eq_nil_of_length_eq_zero (by simpa using hl)
    refine ⟨_, w, ?_, by simpa [Own] using hown, Moved.refl _ _⟩
    rcases hown.2 with ⟨hv, rfl⟩ | ⟨g, cap, cur, hv, _, _, hnc, _⟩
    · cases hv
      simp [Builtin.append_, run_underlying ht, sizeOf, typeInfo, hi, Builtin.lenOf, Builtin.firstCells]
    · cases hv
      simp [Builtin.append_, run_underlying ht, sizeOf, typeInfo, hi, Builtin.lenOf, Builtin.firstCells, hnc, storeCells]
  | some ad =>
    have hc : ∀ j u, news[j]? = some u → w.cell? (ad.add j) = some u := by
      intro j u hu
      rcases Nat.eq_zero_or_pos m with h | h
      · subst h
        obtain rfl : news = [] := List.eq_nil_of_length_eq_zero (by simpa using hl)
        simp at hu
      · obtain ⟨ad', h', hc⟩ := hnews (by omega)
        cases h'
        exact hc j u hu
    obtain ⟨v', w', hr, h2, h3, _, h5⟩ := run_append_own_at (P := P) w 0 t ty e i z size bytes ht hi hz hsize hby hzs hsz _ n xs hown ad m c news hl hc h1 h63 hbytes (Nat.zero_le _)
    exact ⟨v', w', hr, h2, h3, h5.imp id fun h g e => by rw [h] at e; cases e; exact Nat.le_refl _⟩

theorem wp_app {o : Oper} {a : Act} {K : Act → World → Prop} {Q : Exit → Act → World → Prop} (s x : Operand) (t t' : TypeId)
    (ho : o.op = .call { callee := .builtin .append, args := #[s, x], argTypes := #[t, t'] })
    (e e' : TypeId) (i : TypeInfo) (z : Value) (size bytes : Nat) (ht : P.underlying t = some (.slice e)) (ht' : P.underlying t' = some (.slice e')) (hi : P.info? e = some i) (hz : i.zero = some z)
    (hsize : i.size = size) (hby : i.bytes = bytes) (hzs : z.cells.size = size) (hsz : 0 < size)
    (v : Value) (n : Nat) (xs : List Value) (hs : a.eval s = v) (hown : Own w e size v n xs)
    (A : Option Addr) (m c : Nat) (news : List Value) (hx : a.eval x = .slice A m c) (hl : news.length = m * size) (hnews : Src w A m news) (h1 : ∀ u ∈ news, u.oneCell' = true)
    (h63 : n + m ≤ maxLen) (hbytes : (n + m) * bytes ≤ 140737488355328)
    (h : ∀ v' w', Own w' e size v' (n + m) (xs ++ news) → Moved w w' v v' → K (a.put o.dst v') w') : o.wp P a w K Q := by
  obtain ⟨v', w', hr, h2, h3⟩ := run_app (P := P) w t t' o.type e e' i z size bytes ht ht' hi hz hsize hby hzs hsz v n xs hown A m c news hl hnews h1 h63 hbytes
  unfold Oper.wp execOp
  simp only [ho, resolve, invoke, builtin, Sem.run_bind, Sem.run_pure, Result.andThen_ok, List.map_toArray, List.map_cons, List.map_nil, hs, hx, hr]
  exact h v' w' h2 h3

theorem wpList_app {ops : Array Oper} {rest : List Oper} {o : Oper} {a : Act} {Q : Exit → Act → World → Prop} (hgd : o.guard = none) (s x : Operand) (t t' : TypeId)
    (ho : o.op = .call { callee := .builtin .append, args := #[s, x], argTypes := #[t, t'] })
    (e e' : TypeId) (i : TypeInfo) (z : Value) (size bytes : Nat) (ht : P.underlying t = some (.slice e)) (ht' : P.underlying t' = some (.slice e')) (hi : P.info? e = some i) (hz : i.zero = some z)
    (hsize : i.size = size) (hby : i.bytes = bytes) (hzs : z.cells.size = size) (hsz : 0 < size)
    (v : Value) (n : Nat) (xs : List Value) (hs : a.eval s = v) (hown : Own w e size v n xs)
    (A : Option Addr) (m c : Nat) (news : List Value) (hx : a.eval x = .slice A m c) (hl : news.length = m * size) (hnews : Src w A m news) (h1 : ∀ u ∈ news, u.oneCell' = true)
    (h63 : n + m ≤ maxLen) (hbytes : (n + m) * bytes ≤ 140737488355328)
    (h : ∀ v' w', Own w' e size v' (n + m) (xs ++ news) → Moved w w' v v' → wpList P ops Q rest (a.put o.dst v') w') : wpList P ops Q (o :: rest) a w :=
  wpList_plain hgd fun _ hK => wp_app w s x t t' ho e e' i z size bytes ht ht' hi hz hsize hby hzs hsz v n xs hs hown A m c news hx hl hnews h1 h63 hbytes fun v' w' h2 h3 => hK _ _ (h v' w' h2 h3)

/-- 'append(s, x)': the one element was laid in a new block of its own. -/
theorem wpList_app1 {ops : Array Oper} {rest : List Oper} {o : Oper} {a : Act} {Q : Exit → Act → World → Prop} (hgd : o.guard = none) (s x : Operand) (t t' : TypeId)
    (ho : o.op = .call { callee := .builtin .append, args := #[s, x], argTypes := #[t, t'] })
    (e e' e2 : TypeId) (i : TypeInfo) (z : Value) (size bytes : Nat) (ht : P.underlying t = some (.slice e)) (ht' : P.underlying t' = some (.slice e')) (hi : P.info? e = some i) (hz : i.zero = some z)
    (hsize : i.size = size) (hby : i.bytes = bytes) (hzs : z.cells.size = size) (hsz : 0 < size)
    (v : Value) (n : Nat) (xs : List Value) (cs : List Value) (hs : a.eval s = v) (hown : Own w e size v n xs)
    (hx : a.eval x = .slice (some ⟨w.heap.size, 0, none⟩) 1 1) (hcs : cs.length = size) (h1 : ∀ u ∈ cs, u.oneCell' = true)
    (h63 : n + 1 ≤ maxLen) (hbytes : (n + 1) * bytes ≤ 140737488355328)
    (h : ∀ v' w', Own w' e size v' (n + 1) (xs ++ cs) → Moved w w' v v' → wpList P ops Q rest (a.put o.dst v') w') : wpList P ops Q (o :: rest) a (w.alloc (.cells cs.toArray e2)) :=
  wpList_app (w.alloc (.cells cs.toArray e2)) hgd s x t t' ho e e' i z size bytes ht ht' hi hz hsize hby hzs hsz v n xs hs (hown.ext ((Ext.refl w).alloc _)) _ 1 1 cs hx (by omega)
    (fun _ => ⟨_, rfl, by have := Cells.of_block (heap_alloc_new w (.cells cs.toArray e2)); simpa using this⟩) h1 h63 hbytes fun v' w' h2 h3 => h v' w' h2 (Moved.pre ((Ext.refl w).alloc _) h3)

/-! ### Whole structs and arrays -/
def isAggD : TypeDesc → Bool
  | .struct _ | .array _ _ => true
  | _ => false
theorem run_load_agg (ty : TypeId) (ad : Addr) (cs : List Value) (d : TypeDesc) (hu : P.underlying ty = some d) (hd : isAggD d = true) (hi : (P.info? ty).map (·.size) = some cs.length) (hc : Cells w ad cs) :
    (loadVar ty ad).run P w = .ok (.agg cs.toArray) w := by
  have hl := run_loadCells_list (P := P) w ad cs hc
  cases hq : P.info? ty with
  | none => simp [hq] at hi
  | some i =>
    have hs : i.size = cs.length := by simpa [hq] using hi
    have hagg : (isAgg ty).run P w = .ok true w := by
      unfold isAgg
      rw [Sem.run_bind, run_underlying hu w]
      cases d <;> simp_all [isAggD]
    simp [loadVar, Sem.run_bind, hagg, sizeOf, typeInfo, hq, hs, hl]
theorem wpList_load_agg {ops : Array Oper} {rest : List Oper} {o : Oper} {a : Act} {Q : Exit → Act → World → Prop} (hgd : o.guard = none) (ty : TypeId) (x : Operand) (ho : o.op = .load ty x)
    (ad : Addr) (hx : a.eval x = .pointer (some ad)) (cs : List Value) (d : TypeDesc) (hu : P.underlying ty = some d) (hd : isAggD d = true) (hi : (P.info? ty).map (·.size) = some cs.length) (hc : Cells w ad cs)
    (h : wpList P ops Q rest (a.put o.dst (.agg cs.toArray)) w) : wpList P ops Q (o :: rest) a w :=
  wpList_plain hgd fun K hK => by
    unfold Oper.wp execOp
    simp only [ho, hx, Instr.loadAt, Instr.sureAddr, Sem.run_bind, Sem.run_pure, Result.andThen_ok, run_load_agg w ty ad cs d hu hd hi hc]
    exact hK _ _ h
/-- A new variable of a type, its cells zero. -/
theorem wpList_alloc {ops : Array Oper} {rest : List Oper} {o : Oper} {a : Act} {Q : Exit → Act → World → Prop} (hgd : o.guard = none) (ty : TypeId) (ho : o.op = .alloc ty) (z : List Value)
    (hz : (P.info? ty).bind (fun i => i.zero.map (·.cells)) = some z.toArray)
    (h : wpList P ops Q rest (a.put o.dst (.pointer (some ⟨w.heap.size, 0, none⟩))) (w.alloc (.cells z.toArray ty))) : wpList P ops Q (o :: rest) a w :=
  wpList_plain hgd fun K hK => by
    obtain ⟨i, hi, hzz⟩ := Option.bind_eq_some_iff.1 hz
    obtain ⟨zv, hzv, hzc⟩ := Option.map_eq_some_iff.1 hzz
    unfold Oper.wp execOp
    simp only [ho, Instr.alloc, zeroValue, typeInfo, Sem.run_bind, run_program, Result.andThen_ok, hi, Sem.run_pure, hzv, newVar, newRow, hzc, run_newObj, World.alloc_eq]
    exact hK _ _ h
/-- A whole struct or array stored into a row of its own size. -/
theorem run_store_row (g : Nat) (t : TypeId) (old cs : List Value) (hg : w.heap[g]? = some (.cells old.toArray t (0, 0))) (hl : cs.length = old.length) (h1 : ∀ u ∈ cs, u.oneCell' = true) :
    (storeCells ⟨g, 0, none⟩ cs).run P w = .ok () (w.setRow g cs.toArray) := by
  have h := run_storeCells_at P g 0 t cs 0 old.toArray w hg (by simp [hl]) h1
  simp only [Nat.add_zero] at h
  rw [h]
  congr 2
  apply congrArg
  simp [← hl]
theorem wpList_store_row {ops : Array Oper} {rest : List Oper} {o : Oper} {a : Act} {Q : Exit → Act → World → Prop} (hgd : o.guard = none) (ty : TypeId) (p x : Operand) (ho : o.op = .store ty p x)
    (g : Nat) (hp : a.eval p = .pointer (some ⟨g, 0, none⟩)) (old cs : List Value) (t : TypeId) (hx : a.eval x = .agg cs.toArray) (hg : w.heap[g]? = some (.cells old.toArray t (0, 0)))
    (hi : (P.info? ty).map (·.size) = some cs.length) (hl : cs.length = old.length) (h1 : ∀ u ∈ cs, u.oneCell' = true)
    (h : wpList P ops Q rest (a.put o.dst undef) (w.setRow g cs.toArray)) : wpList P ops Q (o :: rest) a w :=
  wpList_plain hgd fun K hK => by
    obtain ⟨i, hi', hs⟩ := Option.map_eq_some_iff.1 hi
    unfold Oper.wp execOp
    simp only [ho, hp, hx, Instr.storeAt, Instr.sureAddr, storeVar, sizeOf, typeInfo, Sem.run_bind, run_program, Result.andThen_ok, hi', Sem.run_pure, hs, Value.cells, List.size_toArray, ne_eq, not_true, if_false,
      run_store_row w g t old cs hg hl h1]
    exact hK _ _ h
theorem setRow_new (o : Obj) (c c' : Array Value) (t : TypeId) (ho : o = .cells c t) : (w.alloc o).setRow w.heap.size c' = w.alloc (.cells c' t) := by
  subst ho
  unfold World.setRow World.alloc
  congr 1
  apply Array.ext_getElem?
  intro k
  simp only [Array.getElem?_modify, Array.getElem?_push]
  by_cases hk : k = w.heap.size
  · subst hk; simp
  · rw [if_neg (fun e => hk e.symm), if_neg hk, if_neg hk]
/-- .. into the newest block. -/
theorem wpList_store_new {ops : Array Oper} {rest : List Oper} {o : Oper} {a : Act} {Q : Exit → Act → World → Prop} (hgd : o.guard = none) (ty : TypeId) (p x : Operand) (ho : o.op = .store ty p x)
    (hp : a.eval p = .pointer (some ⟨w.heap.size, 0, none⟩)) (old cs : List Value) (t : TypeId) (hx : a.eval x = .agg cs.toArray)
    (hi : (P.info? ty).map (·.size) = some cs.length) (hl : cs.length = old.length) (h1 : ∀ u ∈ cs, u.oneCell' = true)
    (h : wpList P ops Q rest (a.put o.dst undef) (w.alloc (.cells cs.toArray t))) : wpList P ops Q (o :: rest) a (w.alloc (.cells old.toArray t)) :=
  wpList_store_row (w.alloc (.cells old.toArray t)) hgd ty p x ho w.heap.size hp old cs t hx (heap_alloc_new w _) hi hl h1 (by rw [setRow_new w _ _ _ t rfl]; exact h)

/-! ### Bytes as a string -/
def strOf (bs : List UInt8) : ByteArray := ⟨bs.toArray⟩
theorem strOf_inj {a b : List UInt8} (h : strOf a = strOf b) : a = b := by
  have := congrArg (fun x => x.data.toList) h
  simpa [strOf] using this
theorem strOf_toList (a : List UInt8) : (strOf a).toList = a := by rw [ByteArray.toList_eq]; simp [strOf]
theorem run_str (src dst e : TypeId) (hs : P.underlying src = some (.slice e)) (he : P.underlying e = some (.int .u8)) (hd : P.underlying dst = some .string)
    (A : Option Addr) (c : Nat) (bs : List UInt8) (hsrc : Src w A bs.length (bv bs)) :
    (convert src dst (.slice A bs.length c)).run P w = .ok (.string (strOf bs)) w := by
  rw [run_convert_bytes_string w src dst e _ _ c hs he hd]
  cases A with
  | none =>
    have : bs = [] := by
      cases bs with
      | nil => rfl
      | cons b r => obtain ⟨ad, h, _⟩ := hsrc (by simp); cases h
    subst this
    simp [Conv.bytesToString]
    rfl
  | some ad =>
    have hc : Cells w ad (bv bs) := by
      cases bs with
      | nil => exact Cells.nil _ _
      | cons b r => obtain ⟨ad', h, hc⟩ := hsrc (by simp); cases h; exact hc
    have hl : (loadCells ad bs.length).run P w = .ok ((bs.map fun b => (b.toNat : Int)).map (Value.int .u8)).toArray w := by
      have := run_loadCells_list (P := P) w ad (bv bs) hc
      rw [bv_length] at this
      rw [this]
      simp [bv]
    rw [run_bytesToString w ad bs.length c _ hl, foldl_push_bytes]
    simp [strOf, ByteArray.empty, ByteArray.emptyWithCapacity]
    show List.map _ bs = bs
    simp [Function.comp_def]
theorem wpList_str {ops : Array Oper} {rest : List Oper} {o : Oper} {a : Act} {Q : Exit → Act → World → Prop} (hgd : o.guard = none) (src dst : TypeId) (x : Operand) (ho : o.op = .convert src dst x)
    (e : TypeId) (hs : P.underlying src = some (.slice e)) (he : P.underlying e = some (.int .u8)) (hd : P.underlying dst = some .string)
    (A : Option Addr) (c : Nat) (bs : List UInt8) (hx : a.eval x = .slice A bs.length c) (hsrc : Src w A bs.length (bv bs))
    (h : wpList P ops Q rest (a.put o.dst (.string (strOf bs))) w) : wpList P ops Q (o :: rest) a w :=
  wpList_plain hgd fun K hK => by
    unfold Oper.wp execOp
    simp only [ho, hx, Sem.run_bind, run_str w src dst e hs he hd A c bs hsrc, Result.andThen_ok, Sem.run_pure]
    exact hK _ _ h
end

/-! ### Parts laid into a row -/
theorem foldl_set (off : Nat) : ∀ (cs : List Value) (k : Nat) (arr : Array Value), off + k + cs.length ≤ arr.size →
    ((cs.zipIdx k).foldl (fun (a : Array Value) (x : Value × Nat) => a.setIfInBounds (off + x.2) x.1) arr).toList = arr.toList.take (off + k) ++ cs ++ arr.toList.drop (off + k + cs.length)
  | [], k, arr, _ => by simp
  | c :: cs, k, arr, h => by
    simp only [List.length_cons] at h
    rw [List.zipIdx_cons, List.foldl_cons, foldl_set off cs (k + 1) _ (by simp; omega)]
    simp only [Array.toList_setIfInBounds, List.length_cons]
    apply List.ext_getElem?
    intro j
    have hl : arr.toList.length = arr.size := Array.length_toList
    simp only [List.append_assoc, List.getElem?_append, List.length_take, List.length_set, hl, List.getElem?_take, List.getElem?_set, List.getElem?_drop, List.length_cons]
    rw [Nat.min_eq_left (by omega), Nat.min_eq_left (by omega)]
    by_cases h1 : j < off + k
    · rw [if_pos (by omega), if_pos (by omega), if_neg (by omega), if_pos h1, if_pos h1]
    · rw [if_neg h1]
      by_cases h2 : j = off + k
      · subst h2
        rw [if_pos (by omega), if_pos (by omega), if_pos rfl, if_pos (by omega), if_pos (by omega)]
        simp
      · rw [if_neg (by omega)]
        by_cases h3 : j - (off + k) < cs.length + 1
        · rw [if_pos h3, if_pos (by omega)]
          obtain ⟨i, rfl⟩ : ∃ i, j = off + k + 1 + i := ⟨j - (off + k + 1), by omega⟩
          rw [show off + k + 1 + i - (off + (k + 1)) = i by omega, show off + k + 1 + i - (off + k) = i + 1 by omega]
          simp
        · rw [if_neg h3, if_neg (by omega), if_neg (by omega)]
          congr 1
          omega
theorem fill_list (place : Nat → Option (Nat × Nat)) (cells : Array Value) (i : Nat) (v : Value) (cs : List Value) (off : Nat) (rest : List (Nat × Value)) (hv : v.cells = cs.toArray) (hp : place i = some (off, cs.length)) (hl : off + cs.length ≤ cells.size) :
    Instr.fill place cells ((i, v) :: rest) = Instr.fill place (cells.toList.take off ++ cs ++ cells.toList.drop (off + cs.length)).toArray rest := by
  simp only [Instr.fill, hp, hv, List.size_toArray, ne_eq, not_true, decide_false, Bool.false_or]
  rw [if_neg (by simp; omega)]
  congr 1
  have h := foldl_set off cs 0 cells (by omega)
  simp only [Nat.add_zero] at h
  rw [← h]
  simp
section
variable {P : Program} (w : World)
/-- '[]T{x}' where x is a struct or an array. -/
theorem wpList_one {ops : Array Oper} {rest : List Oper} {o : Oper} {a : Act} {Q : Exit → Act → World → Prop} (hgd : o.guard = none) (t : TypeId) (x : Operand) (ho : o.op = .buildSlice t 1 #[(0, x)])
    (e : TypeId) (cs : List Value) (ht : P.underlying t = some (.slice e)) (hx : a.eval x = .agg cs.toArray) (hi : (P.info? e).map (·.size) = some cs.length) (hz : ((P.info? e).bind (·.zero)).isSome = true) (hl : cs.length ≤ 16777216) (hn : 0 < cs.length)
    (h : wpList P ops Q rest (a.put o.dst (.slice (some ⟨w.heap.size, 0, none⟩) 1 1)) (w.alloc (.cells cs.toArray e))) : wpList P ops Q (o :: rest) a w :=
  wpList_plain hgd fun K hK => by
    obtain ⟨i, hi', hs⟩ := Option.map_eq_some_iff.1 hi
    rw [hi', Option.bind_some] at hz
    obtain ⟨z, hz⟩ := Option.isSome_iff_exists.1 hz
    have hfill : ∀ (c : Array Value), c.size = cs.length → Instr.fill (fun i => some (i * cs.length, cs.length)) c [(0, .agg cs.toArray)] = some cs.toArray := by
      intro c hc
      rw [fill_list _ c 0 (.agg cs.toArray) cs 0 [] rfl (by simp) (by omega)]
      simp only [Instr.fill, List.take_zero, List.nil_append, Nat.zero_add]
      rw [List.drop_eq_nil_of_le (by rw [Array.length_toList]; omega), List.append_nil]
    unfold Oper.wp execOp
    have hrun : (Instr.buildSlice t 1 #[(0, .agg cs.toArray)]).run P w = .ok (.slice (some ⟨w.heap.size, 0, none⟩) 1 1) (w.alloc (.cells cs.toArray e)) := by
      unfold Instr.buildSlice
      simp only [Sem.run_bind, run_underlying ht, Result.andThen_ok, sizeOf, typeInfo, run_program, hi', Sem.run_pure, hs, Nat.one_mul]
      rw [if_neg (by omega)]
      have h0 : ¬ cs.length = 0 := by omega
      simp only [h0, if_false, Sem.run_bind, Sem.run_pure, Result.andThen_ok, zeroValue, typeInfo, run_program, hi', hz]
      have := hfill ((Array.range cs.length).map fun x => z.cells[x % z.cells.size]!) (by simp)
      simp only [this]
      simp [newRow]
    simp only [ho, List.map_toArray, List.map_cons, List.map_nil, hx, Sem.run_bind, hrun, Result.andThen_ok, Sem.run_pure]
    exact hK _ _ h
end

/-! ### What a literal made -/
theorem sl_made {w : World} {g n : Nat} {t : Ty} {l : List t.Data} {cs : List Value} {e : TypeId} {fr : Nat × Nat} {F : Fp} (hg : w.heap.size = g) (hF : F g) (hn : l.length = n) (hm : n ≤ maxLen)
    (h : AllH (t.holds (w.alloc (.cells cs.toArray e fr)) F) cs l) : (Ty.sl t).holds (w.alloc (.cells cs.toArray e fr)) F [.slice (some ⟨g, 0, none⟩) n n] l := by
  subst hg; subst hn
  exact ⟨_, _, cs, rfl, Nat.le_refl _, hm, by simp, fun _ => ⟨_, rfl, hF, by have := Cells.of_block (heap_alloc_new w (.cells cs.toArray e fr)); simpa using this⟩, h⟩
theorem own_empty {w : World} {g : Nat} {e : TypeId} {size : Nat} (hg : w.heap.size = g) : Own (w.alloc (.cells #[] e)) e size (.slice (some ⟨g, 0, none⟩) 0 0) 0 [] := by
  subst hg
  exact World.ownsRow_made w #[] 0 (Nat.zero_le _) (by simp [maxLen]) (by simp)
/-! ### copy -/
theorem setRow_only {w : World} {g : Nat} (cs : Array Value) : w.grownBy (w.setRow g cs) (some g) :=
  ⟨rfl, rfl, rfl, by simp [World.setRow], fun k _ hk => by
    simp only [World.setRow, Array.getElem?_modify]
    rw [if_neg (fun e => hk (by rw [e]))]⟩
theorem setRow_at {w : World} {g : Nat} {cs cs' : Array Value} {t : TypeId} {fr : Nat × Nat} (h : w.heap[g]? = some (.cells cs t fr)) : (w.setRow g cs').heap[g]? = some (.cells cs' t fr) := by
  simp [World.setRow, Array.getElem?_modify, h]
theorem run_copyB {P : Program} (w : World) (dT sT ty elem : TypeId) (hu : P.underlying dT = some (.slice elem)) (hs : (P.info? elem).map (·.size) = some 1)
    (g o dLen dCap : Nat) (A : Option Addr) (sCap : Nat) (bs : List UInt8) (hsrc : Src w A bs.length (bv bs)) (cur : List Value) (t : TypeId) (hg : w.heap[g]? = some (.cells cur.toArray t (0, 0)))
    (n : Nat) (hn : n = min bs.length dLen) (hfit : o + n ≤ cur.length) :
    ∃ w', (Builtin.copy_ #[dT, sT] ty #[.slice (some ⟨g, o, none⟩) dLen dCap, .slice A bs.length sCap]).run P w = .ok (goInt n) w' ∧
      w'.heap[g]? = some (.cells (cur.take o ++ bv (bs.take n) ++ cur.drop (o + n)).toArray t (0, 0)) ∧ w.grownBy w' (some g) := by
  have hl : (bv (bs.take n)).length = n := by simp; omega
  by_cases h0 : n = 0
  · subst h0
    refine ⟨w, ?_, by simpa [bv] using hg, World.grownBy.refl _ _⟩
    have e : Nat.min bs.length dLen = 0 := hn.symm
    have := run_copy_none (P := P) w dT sT ty elem (some ⟨g, o, none⟩) A dLen dCap bs.length sCap hu hs e
    simpa using this
  · obtain ⟨ad, rfl, hc⟩ := hsrc (by omega)
    have hr := run_copy_row (P := P) w dT sT ty elem g o dLen dCap ad bs.length sCap cur.toArray t (bv (bs.take n)) hu hs hg (by rw [hl]; exact hn)
      (fun j v hj => hc j v (by
        rw [bv, List.map_take] at hj
        rw [List.getElem?_take] at hj
        split at hj
        · exact hj
        · cases hj)) (by rw [hl]; simpa using hfit) (fun u hu => by
          obtain ⟨b, _, rfl⟩ := List.mem_map.1 hu
          rfl)
    rw [hl] at hr
    exact ⟨_, hr, by simpa using setRow_at hg, setRow_only _⟩
theorem wp_copied {P : Program} (w : World) {o : Oper} {a : Act} {K : Act → World → Prop} {Q : Exit → Act → World → Prop} (d s : Operand) (t t' : TypeId)
    (ho : o.op = .call { callee := .builtin .copy, args := #[d, s], argTypes := #[t, t'] }) (v u : Value) (hd : a.eval d = v) (hs : a.eval s = u) {v' : Value} {w' : World}
    (hr : (Builtin.copy_ #[t, t'] o.type #[v, u]).run P w = .ok v' w') (h : K (a.put o.dst v') w') : o.wp P a w K Q := by
  unfold Oper.wp execOp
  simp only [ho, resolve, invoke, builtin, Sem.run_bind, Sem.run_pure, Result.andThen_ok, List.map_toArray, List.map_cons, List.map_nil, hd, hs, hr]
  exact h
theorem wp_copyB {P : Program} {w : World} {o : Oper} {a : Act} {K : Act → World → Prop} {Q : Exit → Act → World → Prop} (d s : Operand) (dT sT : TypeId)
    (ho : o.op = .call { callee := .builtin .copy, args := #[d, s], argTypes := #[dT, sT] }) (elem : TypeId) (hu : P.underlying dT = some (.slice elem)) (hs : (P.info? elem).map (·.size) = some 1)
    (g off dLen dCap : Nat) (hd : a.eval d = .slice (some ⟨g, off, none⟩) dLen dCap) (A : Option Addr) (sLen sCap : Nat) (hx : a.eval s = .slice A sLen sCap) (bs : List UInt8) (hlen : bs.length = sLen) (hsrc : Src w A sLen (bv bs)) (cur : List Value) (t : TypeId)
    (hg : w.heap[g]? = some (.cells cur.toArray t (0, 0))) (n : Nat) (hn : n = min sLen dLen) (hfit : off + n ≤ cur.length)
    (h : ∀ w', w'.heap[g]? = some (.cells (cur.take off ++ bv (bs.take n) ++ cur.drop (off + n)).toArray t (0, 0)) → w.grownBy w' (some g) → K (a.put o.dst (goInt n)) w') : o.wp P a w K Q := by
  subst hlen
  obtain ⟨w', hr, h1, h2⟩ := run_copyB (P := P) w dT sT o.type elem hu hs g off dLen dCap A sCap bs hsrc cur t hg n hn hfit
  exact wp_copied w d s dT sT ho _ _ hd hx hr (h _ h1 h2)
theorem wpList_copyB {P : Program} {w : World} {ops : Array Oper} {rest : List Oper} {o : Oper} {a : Act} {Q : Exit → Act → World → Prop} (hgd : o.guard = none) (d s : Operand) (dT sT : TypeId)
    (ho : o.op = .call { callee := .builtin .copy, args := #[d, s], argTypes := #[dT, sT] }) (elem : TypeId) (hu : P.underlying dT = some (.slice elem)) (hs : (P.info? elem).map (·.size) = some 1)
    (g off dLen dCap : Nat) (hd : a.eval d = .slice (some ⟨g, off, none⟩) dLen dCap) (A : Option Addr) (sLen sCap : Nat) (hx : a.eval s = .slice A sLen sCap) (bs : List UInt8) (hlen : bs.length = sLen) (hsrc : Src w A sLen (bv bs)) (cur : List Value) (t : TypeId)
    (hg : w.heap[g]? = some (.cells cur.toArray t (0, 0))) (n : Nat) (hn : n = min sLen dLen) (hfit : off + n ≤ cur.length)
    (h : ∀ w', w'.heap[g]? = some (.cells (cur.take off ++ bv (bs.take n) ++ cur.drop (off + n)).toArray t (0, 0)) → w.grownBy w' (some g) → wpList P ops Q rest (a.put o.dst (goInt n)) w') : wpList P ops Q (o :: rest) a w :=
  wpList_plain hgd fun _ hK => wp_copyB d s dT sT ho elem hu hs g off dLen dCap hd A sLen sCap hx bs hlen hsrc cur t hg n hn hfit fun w' h1 h2 => hK _ _ (h w' h1 h2)
theorem step_copyB {P : Program} {ops : Array Oper} {w : World} {o : Oper} {a : Act} {K : Act → World → Prop} {Q : Exit → Act → World → Prop} {E : Prop} (hgd : o.guard = none) (d s : Operand) (dT sT : TypeId)
    (ho : o.op = .call { callee := .builtin .copy, args := #[d, s], argTypes := #[dT, sT] }) (elem : TypeId) (hu : P.underlying dT = some (.slice elem)) (hs : (P.info? elem).map (·.size) = some 1)
    (g off dLen dCap : Nat) (hd : a.eval d = .slice (some ⟨g, off, none⟩) dLen dCap) (A : Option Addr) (sLen sCap : Nat) (hx : a.eval s = .slice A sLen sCap) (bs : List UInt8) (hlen : bs.length = sLen) (hsrc : Src w A sLen (bv bs)) (cur : List Value) (t : TypeId)
    (hg : w.heap[g]? = some (.cells cur.toArray t (0, 0))) (n : Nat) (hn : n = min sLen dLen) (hfit : off + n ≤ cur.length)
    (h : ∀ w', w'.heap[g]? = some (.cells (cur.take off ++ bv (bs.take n) ++ cur.drop (off + n)).toArray t (0, 0)) → w.grownBy w' (some g) → K (a.put o.dst (goInt n)) w') :
    if Region.wanted o (yielded ops a.tmps) = true then Oper.wp P o a w K Q else E := by
  have hw : Region.wanted o (yielded ops a.tmps) = true := by simp [Region.wanted, hgd]
  rw [if_pos hw]
  exact wp_copyB d s dT sT ho elem hu hs g off dLen dCap hd A sLen sCap hx bs hlen hsrc cur t hg n hn hfit h
/-! ### Results that lie in a variable -/
theorem results_agg {P : Program} {fn : Func} {p : Tmp} {ty : TypeId} (h : fn.results = #[.cell p ty]) (tmps : Array Value) (w : World) (ad : Addr) (cs : List Value) (d : TypeDesc)
    (hp : tmps.getD p undef = .pointer (some ad)) (hu : P.underlying ty = some d) (hd : isAggD d = true) (hi : (P.info? ty).map (·.size) = some cs.length) (hc : Cells w ad cs) :
    (results fn tmps).run P w = .ok (.agg cs.toArray) w := by
  have hp' : tmps[p]?.getD undef = .pointer (some ad) := by simpa using hp
  simp [results, h, hp', asAddr, run_load_agg w ty ad cs d hu hd hi hc]
theorem results_agg_tmp {P : Program} {fn : Func} {p u : Tmp} {ty : TypeId} (h : fn.results = #[.cell p ty, .tmp u]) (tmps : Array Value) (w : World) (ad : Addr) (cs : List Value) (d : TypeDesc)
    (hp : tmps.getD p undef = .pointer (some ad)) (hu : P.underlying ty = some d) (hd : isAggD d = true) (hi : (P.info? ty).map (·.size) = some cs.length) (hc : Cells w ad cs) :
    (results fn tmps).run P w = .ok (.tuple #[.agg cs.toArray, tmps.getD u undef]) w := by
  have hp' : tmps[p]?.getD undef = .pointer (some ad) := by simpa using hp
  simp [results, h, hp', asAddr, run_load_agg w ty ad cs d hu hd hi hc]
/-! ### Equal sums -/
section
variable {P : Program} (w : World)
theorem run_eqGuard (op : BinOp) (t : TypeId) (x y : Operand) (a b : Array Value) (hop : op = .eql ∨ op = .neq) (hg : P.eqGuardType P.depth t = false) : (eqGuard op t x y (.agg a) (.agg b)).run P w = .ok () w := by
  rcases hop with rfl | rfl <;> simp [eqGuard, run_program, hg]
theorem size_run {e : TypeId} (hi : (P.info? e).map (·.size) = some 1) (w : World) : (sizeOf e).run P w = .ok 1 w := by
  obtain ⟨i, hi1, hi2⟩ := Option.map_eq_some_iff.1 hi
  simp [sizeOf, typeInfo, hi1, hi2]
theorem run_eqD (t e : TypeId) (n : Nat) (ht : P.underlying t = some (.array n e)) (he : P.underlying e = some (.int .u8)) (hi : (P.info? e).map (·.size) = some 1) (a b : List UInt8) (ha : a.length = n) (hb : b.length = n) :
    (binOp .eql t (.agg (bv a).toArray) (.agg (bv b).toArray)).run P w = .ok (.bool (a == b)) w := run_eql_bytes w t e n ht he (size_run hi) a b ha hb
theorem run_neD (t e : TypeId) (n : Nat) (ht : P.underlying t = some (.array n e)) (he : P.underlying e = some (.int .u8)) (hi : (P.info? e).map (·.size) = some 1) (a b : List UInt8) (ha : a.length = n) (hb : b.length = n) :
    (binOp .neq t (.agg (bv a).toArray) (.agg (bv b).toArray)).run P w = .ok (.bool (!(a == b))) w := by
  have h : (Op.equalIn 10000 t (.agg (bv a).toArray) (.agg (bv b).toArray)).run P w = .ok (a == b) w := run_equalIn_bytes w 9998 t e n ht he (size_run hi) a b ha hb
  rw [run_neq_struct, h]
  rfl
theorem wpList_want {P : Program} {ops : Array Oper} {rest : List Oper} {o : Oper} {a : Act} {w : World} {Q : Exit → Act → World → Prop} (hgd : o.guard = none ∨ Region.wanted o (yielded ops a.tmps) = true)
    (h : ∀ K : Act → World → Prop, (∀ a w, wpList P ops Q rest a w → K a w) → o.wp P a w K Q) : wpList P ops Q (o :: rest) a w := by
  rcases hgd with hg | hw
  · exact wpList_plain hg h
  · exact wpList_step fun K hK => by rw [if_pos hw]; exact h K hK
theorem wpList_eqD {ops : Array Oper} {rest : List Oper} {o : Oper} {a : Act} {Q : Exit → Act → World → Prop} (hgd : o.guard = none ∨ Region.wanted o (yielded ops a.tmps) = true) (t t' : TypeId) (x y : Operand) (ho : o.op = .binOp .eql t x y t')
    (e : TypeId) (n : Nat) (ht : P.underlying t = some (.array n e)) (he : P.underlying e = some (.int .u8)) (hi : (P.info? e).map (·.size) = some 1) (hg : P.eqGuardType P.depth t = false)
    (xs ys : List UInt8) (hx : a.eval x = .agg (bv xs).toArray) (hy : a.eval y = .agg (bv ys).toArray)
    (hxl : xs.length = n) (hyl : ys.length = n) (h : wpList P ops Q rest (a.put o.dst (.bool (xs == ys))) w) : wpList P ops Q (o :: rest) a w :=
  wpList_want hgd fun K hK => by
    unfold Oper.wp execOp
    simp only [ho, hx, hy, Sem.run_bind, run_eqGuard w .eql t x y _ _ (.inl rfl) hg, run_eqD w t e n ht he hi xs ys hxl hyl, Result.andThen_ok, Sem.run_pure]
    exact hK _ _ h
theorem wpList_neD {ops : Array Oper} {rest : List Oper} {o : Oper} {a : Act} {Q : Exit → Act → World → Prop} (hgd : o.guard = none ∨ Region.wanted o (yielded ops a.tmps) = true) (t t' : TypeId) (x y : Operand) (ho : o.op = .binOp .neq t x y t')
    (e : TypeId) (n : Nat) (ht : P.underlying t = some (.array n e)) (he : P.underlying e = some (.int .u8)) (hi : (P.info? e).map (·.size) = some 1) (hg : P.eqGuardType P.depth t = false)
    (xs ys : List UInt8) (hx : a.eval x = .agg (bv xs).toArray) (hy : a.eval y = .agg (bv ys).toArray)
    (hxl : xs.length = n) (hyl : ys.length = n) (h : wpList P ops Q rest (a.put o.dst (.bool (!(xs == ys)))) w) : wpList P ops Q (o :: rest) a w :=
  wpList_want hgd fun K hK => by
    unfold Oper.wp execOp
    simp only [ho, hx, hy, Sem.run_bind, run_eqGuard w .neq t x y _ _ (.inr rfl) hg, run_neD w t e n ht he hi xs ys hxl hyl, Result.andThen_ok, Sem.run_pure]
    exact hK _ _ h
end
/-- A struct or array that is built, its run known. -/
theorem wpList_build {P : Program} {w : World} {ops : Array Oper} {rest : List Oper} {o : Oper} {a : Act} {Q : Exit → Act → World → Prop} (hgd : o.guard = none ∨ Region.wanted o (yielded ops a.tmps) = true) (t : TypeId) (parts : Array (Nat × Operand)) (_ho : o.op = .build t parts) (v : Value)
    (hr : (execOp a.eval o).run P w = .ok (.value v) w) (h : wpList P ops Q rest (a.put o.dst v) w) : wpList P ops Q (o :: rest) a w :=
  wpList_want hgd fun K hK => by
    unfold Oper.wp
    rw [hr]
    exact hK _ _ h
/-- 'x[i]' of an array value whose elements are one cell each. -/
theorem wpList_index {P : Program} {w : World} {ops : Array Oper} {rest : List Oper} {o : Oper} {a : Act} {Q : Exit → Act → World → Prop} (hgd : o.guard = none ∨ Region.wanted o (yielded ops a.tmps) = true) (t : TypeId) (x y : Operand) (ho : o.op = .index t x y)
    (cs : List Value) (k n : Nat) (q : IntKind) (e : TypeId) (d : TypeDesc) (u : Value) (hx : a.eval x = .agg cs.toArray) (hy : a.eval y = .int q (k : Int)) (hu : P.underlying t = some (.array n e)) (hk : k < n)
    (he : P.underlying e = some d) (hd : isAggD d = false) (hs : (P.info? e).map (·.size) = some 1) (hc : cs[k]? = some u) (h : wpList P ops Q rest (a.put o.dst u) w) : wpList P ops Q (o :: rest) a w :=
  wpList_want hgd fun K hK => by
    have hagg : (isAgg e).run P w = .ok false w := by
      unfold isAgg
      rw [Sem.run_bind, run_underlying he w]
      cases d <;> simp_all [isAggD]
    have hr : (Instr.index t (.agg cs.toArray) (.int q (k : Int))).run P w = .ok u w := by
      have hk2 : (0 : Int) ≤ (k : Int) ∧ (k : Int) < (n : Int) := by omega
      simp [Instr.index, asIntOf, run_underlying hu, Nat.not_le_of_lt hk, hk, size_run hs, part, hagg, hc]
    unfold Oper.wp execOp
    simp only [ho, hx, hy, Sem.run_bind, hr, Result.andThen_ok, Sem.run_pure]
    exact hK _ _ h
end Go.Proofs.YtchnjcghbbacoaaDoor

/- A drawn region in which things are made at any time beside a chain of calls that lay bytes, where a thing may lie in several blocks. No condition but what each names. -/
import Derived.Test.YtchnjcghbbacoaaDoorLat
import Derived.Test.YtchnjcghbbacoaaDoorRef1
import Derived.Laws.IdiomStrings
set_option linter.unusedVariables false
set_option linter.unusedSimpArgs false
set_option linter.unnecessarySimpa false
namespace Go.Proofs.YtchnjcghbbacoaaDoor
open Go.RowKit

/-- Something that lies in the blocks F. -/
structure It where
  F : Fp
  ok : World → Prop
  keep : ∀ {w w' : World}, (∀ b, F b → w'.heap[b]? = w.heap[b]?) → ok w → ok w'
def It.sl (t : Ty) (d : List t.Data) (v : Value) : It := ⟨fun b => v.ownBlock = some b, fun w => (Ty.sl t).holds w (fun b => v.ownBlock = some b) [v] d, fun h k => Ty.keep h (fun _ h => h) _ k⟩
def It.two (p : List (List UInt8)) (u v : Value) : It := ⟨fun b => u.ownBlock = some b ∨ v.ownBlock = some b, fun w => (Ty.sl (.sl .u8)).holds w (fun b => u.ownBlock = some b ∨ v.ownBlock = some b) [v] p, fun h k => Ty.keep h (fun _ h => h) _ k⟩
structure QJ (g : Nat) (w0 : World) (v0 cur : Value) (bs : List UInt8) (xs : List It) (w : World) : Prop where
  mv : Moved w0 w v0 cur
  lt : g < w0.heap.size
  ne : ∀ b, cur.ownBlock = some b → b ≠ g
  own : OwnB w cur bs
  it : ∀ x ∈ xs, (x.ok w ∧ ∀ b, x.F b → b < w.heap.size) ∧ ∀ b, cur.ownBlock = some b → ¬ x.F b
section
variable {g : Nat} {w0 w w' : World} {v0 cur v' : Value} {bs bs' : List UInt8} {xs ys : List It} {x : It}
theorem QJ.start (hg : g < w0.heap.size) (ho : OwnB w0 v0 bs) (hne : ∀ b, v0.ownBlock = some b → b ≠ g) : QJ g w0 v0 v0 bs [] w0 := ⟨Moved.refl _ _, hg, hne, ho, fun _ h => by cases h⟩
theorem QJ.sub (h : QJ g w0 v0 cur bs xs w) (hs : ∀ x ∈ ys, x ∈ xs) : QJ g w0 v0 cur bs ys w := ⟨h.mv, h.lt, h.ne, h.own, fun x hx => h.it x (hs x hx)⟩
theorem QJ.ltw (h : QJ g w0 v0 cur bs xs w) : g < w.heap.size := Nat.lt_of_lt_of_le h.lt h.mv.grown.size
theorem QJ.make (h : QJ g w0 v0 cur bs xs w) (hx : Ext w w') (hh : x.ok w') (hl : ∀ b, x.F b → b < w'.heap.size) (hn : ∀ b, x.F b → w.heap.size ≤ b ∨ ∃ y ∈ xs, y.F b) : QJ g w0 v0 cur bs (x :: xs) w' ∧ KeepB (fun b => b = g) w w' := by
  have hlt := OwnB.lt h.own
  refine ⟨⟨h.mv.post hx, h.lt, h.ne, h.own.ext hx, fun y hy => ?_⟩, fun b hb => hx.block b (by subst hb; exact h.ltw) (by simp)⟩
  rcases List.mem_cons.1 hy with rfl | hy
  · refine ⟨⟨hh, hl⟩, fun b hb e => ?_⟩
    rcases hn b e with h1 | ⟨z, hz, hzb⟩
    · have h2 := hlt b hb
      omega
    · exact (h.it z hz).2 b hb hzb
  · obtain ⟨⟨h1, h2⟩, h3⟩ := h.it y hy
    exact ⟨⟨y.keep (fun b hb => hx.block b (h2 b hb) (by simp)) h1, fun b hb => Nat.lt_of_lt_of_le (h2 b hb) hx.size⟩, h3⟩
theorem QJ.call (h : QJ g w0 v0 cur bs xs w) (ho : OwnB w' v' bs') (hm : Moved w w' cur v') : QJ g w0 v0 v' bs' xs w' ∧ KeepB (fun b => b = g) w w' := by
  have hg := h.ltw
  refine ⟨⟨h.mv.trans hm, h.lt, fun b hb => ?_, ho, fun y hy => ?_⟩, fun b hb => by subst hb; exact hm.grown.block b hg (fun e => h.ne _ e.symm rfl)⟩
  · rcases hm.at_ with e | hn
    · exact h.ne b (e.symm.trans hb)
    · have := hn b hb; omega
  · obtain ⟨⟨h1, h2⟩, h3⟩ := h.it y hy
    refine ⟨⟨y.keep (fun b hb => hm.grown.block b (h2 b hb) (fun e => h3 b e.symm hb)) h1, fun b hb => Nat.lt_of_lt_of_le (h2 b hb) hm.grown.size⟩, fun b hb e => ?_⟩
    rcases hm.at_ with e' | hn
    · exact h3 b (e'.symm.trans hb) e
    · have h4 := hn b hb
      have h5 := h2 b e
      omega
theorem QJ.far (h : QJ g w0 v0 cur bs xs w) (hx : x ∈ xs) : Far x.F w cur := fun b hb => ⟨(h.it x hx).1.2 b hb, fun e => (h.it x hx).2 b e hb⟩
theorem QJ.getS (h : QJ g w0 v0 cur bs xs w) {t : Ty} {l : List t.Data} {vl : Value} (hx : It.sl t l vl ∈ xs) : (Ty.sl t).holds w (fun b => vl.ownBlock = some b) [vl] l := (h.it _ hx).1.1
theorem QJ.farS (h : QJ g w0 v0 cur bs xs w) {t : Ty} {l : List t.Data} {vl : Value} (hx : It.sl t l vl ∈ xs) : Far (fun b => vl.ownBlock = some b) w cur := h.far hx
theorem QJ.getT (h : QJ g w0 v0 cur bs xs w) {l : List (List UInt8)} {u vl : Value} (hx : It.two l u vl ∈ xs) : (Ty.sl (.sl .u8)).holds w (fun b => u.ownBlock = some b ∨ vl.ownBlock = some b) [vl] l := (h.it _ hx).1.1
theorem QJ.farT (h : QJ g w0 v0 cur bs xs w) {l : List (List UInt8)} {u vl : Value} (hx : It.two l u vl ∈ xs) : Far (fun b => u.ownBlock = some b ∨ vl.ownBlock = some b) w cur := h.far hx
theorem made1 {w : World} {ty : Ty} {d : ty.Data} {cs : List Value} {e : TypeId} (hh : ∀ W F, ty.holds W F cs d) : (It.sl ty [d] (.slice (some ⟨w.heap.size, 0, none⟩) 1 1)).ok (w.alloc (.cells cs.toArray e)) :=
  sl_made (t := ty) (l := [d]) (cs := cs) (F := fun b => (Value.slice (some ⟨w.heap.size, 0, none⟩) 1 1).ownBlock = some b) rfl rfl rfl (by decide) ⟨cs, [], by simp, hh _ _, rfl⟩
theorem made2 {w : World} {x y : Nat} {e : TypeId} (hx : (Lit.int .u64 (x : Int)).wf = true) (hy : (Lit.int .u64 (y : Int)).wf = true) : (It.sl (.nat .u64) [x, y] (.slice (some ⟨w.heap.size, 0, none⟩) 2 2)).ok (w.alloc (.cells [Value.int .u64 (x : Int), Value.int .u64 (y : Int)].toArray e)) :=
  sl_made (t := .nat .u64) (l := [x, y]) (cs := [Value.int .u64 (x : Int), Value.int .u64 (y : Int)]) (F := fun b => (Value.slice (some ⟨w.heap.size, 0, none⟩) 2 2).ownBlock = some b) rfl rfl rfl (by decide) ⟨[.int .u64 (x : Int)], _, rfl, ⟨rfl, hx⟩, [.int .u64 (y : Int)], [], rfl, ⟨rfl, hy⟩, rfl⟩
theorem madeT {w : World} {p : List UInt8} {u : Value} {e : TypeId} (hx0 : Ext w (w.alloc (.cells [u].toArray e))) (hlt : ∀ b, u.ownBlock = some b → b < w.heap.size) (hok : (Ty.sl .u8).holds w (fun b => u.ownBlock = some b) [u] p) :
    (It.two [p] u (.slice (some ⟨w.heap.size, 0, none⟩) 1 1)).ok (w.alloc (.cells [u].toArray e)) :=
  sl_made (t := .sl .u8) (F := fun b => u.ownBlock = some b ∨ (Value.slice (some ⟨w.heap.size, 0, none⟩) 1 1).ownBlock = some b) rfl (.inr rfl) rfl (by decide) ⟨[u], [], rfl, Ty.keep (fun b hb => hx0.block b (hlt b hb) (by simp)) (fun _ h => Or.inl h) (.sl .u8) hok, rfl⟩
theorem QJ.one (h : QJ g w0 v0 cur bs xs w) {l : List UInt8} {vl : Value} (hx : It.sl .u8 l vl ∈ xs) (hb : bs.length + l.length ≤ 140737488355328) :
    Calls Tryd.prog 13 #[cur, vl] w fun e w' => ∃ v', e = .returned v' ∧ QJ g w0 v0 v' (bs ++ l) xs w' ∧ KeepB (fun b => b = g) w w' := by
  refine (Out_One cur vl bs l w _ h.own (h.getS hx) hb).mono ?_
  rintro e w' ⟨v', rfl, ho, hm⟩
  exact ⟨v', rfl, h.call ho hm⟩
theorem QJ.eight (h : QJ g w0 v0 cur bs xs w) {l : List Nat} {vl : Value} (hx : It.sl (.nat .u64) l vl ∈ xs) (hb : bs.length + 8 * l.length ≤ 140737488355328) :
    Calls Tryd.prog 14 #[cur, vl] w fun e w' => ∃ v', e = .returned v' ∧ QJ g w0 v0 v' (bs ++ l.flatMap (be 8)) xs w' ∧ KeepB (fun b => b = g) w w' := by
  refine (Out_Eight cur vl bs l w _ h.own (h.getS hx) (h.farS hx) hb).mono ?_
  rintro e w' ⟨v', rfl, ho, hm⟩
  exact ⟨v', rfl, h.call ho hm⟩
theorem QJ.sum (h : QJ g w0 v0 cur bs xs w) {l : List (List UInt8)} {vl : Value} (hx : It.sl (.arr 32 .u8) l vl ∈ xs) (hb : bs.length + 32 * l.length ≤ 140737488355328) :
    Calls Tryd.prog 15 #[cur, vl] w fun e w' => ∃ v', e = .returned v' ∧ QJ g w0 v0 v' (bs ++ l.flatMap id) xs w' ∧ KeepB (fun b => b = g) w w' := by
  refine (Out_Sum cur vl bs l w _ h.own (h.getS hx) (h.farS hx) hb).mono ?_
  rintro e w' ⟨v', rfl, ho, hm⟩
  exact ⟨v', rfl, h.call ho hm⟩
theorem QJ.blb (h : QJ g w0 v0 cur bs xs w) {l : List (List UInt8)} {u vl : Value} (hx : It.two l u vl ∈ xs) (h32 : ∀ p ∈ l, p.length < 4294967296) (hb : bs.length + (l.flatMap blob).length ≤ 140737488355328) :
    Calls Tryd.prog 16 #[cur, vl] w fun e w' => ∃ v', e = .returned v' ∧ QJ g w0 v0 v' (bs ++ l.flatMap blob) xs w' ∧ KeepB (fun b => b = g) w w' := by
  refine (Out_Blob cur vl bs l w _ h.own (h.getT hx) (h.farT hx) h32 hb).mono ?_
  rintro e w' ⟨v', rfl, ho, hm⟩
  exact ⟨v', rfl, h.call ho hm⟩
theorem QJ.mk1 (h : QJ g w0 v0 cur bs xs w) {o : Oper} {a : Act} {K : Act → World → Prop} {Q : Exit → Act → World → Prop} (t : TypeId) (p : Operand) (ho : o.op = .buildSlice t 1 #[(0, p)]) (e : TypeId) (ht : Tryd.prog.underlying t = some (.slice e))
    (ty : Ty) (d : ty.Data) (u : Value) (cs : List Value) (hp : a.eval p = u) (hu : u.cells = cs.toArray) (hh : ∀ W F, ty.holds W F cs d) (hi : (Tryd.prog.info? e).map (·.size) = some cs.length) (hz : ((Tryd.prog.info? e).bind (·.zero)).isSome = true) (hl : cs.length ≤ 16777216) (hn : 0 < cs.length)
    (hk : ∀ v W', QJ g w0 v0 cur bs (It.sl ty [d] v :: xs) W' → KeepB (fun b => b = g) w W' → K (a.put o.dst v) W') : o.wp Tryd.prog a w K Q := by
  refine wp_oneL w t p ho e u cs ht hp hu hi hz hl hn ?_
  have h1 := h.make (x := It.sl ty [d] (.slice (some ⟨w.heap.size, 0, none⟩) 1 1)) (w' := w.alloc (.cells cs.toArray e)) ((Ext.refl w).alloc _) (made1 hh) (by rintro b ⟨⟩; simp) (by rintro b ⟨⟩; exact .inl (Nat.le_refl _))
  exact hk _ _ h1.1 h1.2
theorem QJ.mk2 (h : QJ g w0 v0 cur bs xs w) {o : Oper} {a : Act} {K : Act → World → Prop} {Q : Exit → Act → World → Prop} (t : TypeId) (p q : Operand) (ho : o.op = .buildSlice t 2 #[(0, p), (1, q)]) (ht : Tryd.prog.underlying t = some (.slice 22))
    (x y : Nat) (hp : a.eval p = .int .u64 (x : Int)) (hq : a.eval q = .int .u64 (y : Int)) (hx : (Lit.int .u64 (x : Int)).wf = true) (hy : (Lit.int .u64 (y : Int)).wf = true) (hi : (Tryd.prog.info? 22).map (·.size) = some 1) (hz : ((Tryd.prog.info? 22).bind (·.zero)).isSome = true)
    (hk : ∀ v W', QJ g w0 v0 cur bs (It.sl (.nat .u64) [x, y] v :: xs) W' → KeepB (fun b => b = g) w W' → K (a.put o.dst v) W') : o.wp Tryd.prog a w K Q := by
  refine wp_twoL w t p q ho 22 (.int .u64 (x : Int)) (.int .u64 (y : Int)) ht hp hq rfl rfl hi hz ?_
  have h1 := h.make (x := It.sl (.nat .u64) [x, y] (.slice (some ⟨w.heap.size, 0, none⟩) 2 2)) (w' := w.alloc (.cells [Value.int .u64 (x : Int), Value.int .u64 (y : Int)].toArray 22)) ((Ext.refl w).alloc _) (made2 hx hy) (by rintro b ⟨⟩; simp) (by rintro b ⟨⟩; exact .inl (Nat.le_refl _))
  exact hk _ _ h1.1 h1.2
/-- The chain begins: a slice without elements. -/
theorem QJ.fresh (h : QJ g w0 v0 cur bs xs w) (hc : cur = .slice none 0 0) {o : Oper} {a : Act} {K : Act → World → Prop} {Q : Exit → Act → World → Prop} (t : TypeId) (ho : o.op = .buildSlice t 0 #[]) (ht : Tryd.prog.underlying t = some (.slice 5))
    (hk : ∀ v W', QJ g w0 v0 v (bs ++ []) xs W' → KeepB (fun b => b = g) w W' → K (a.put o.dst v) W') : o.wp Tryd.prog a w K Q := by
  subst hc
  obtain ⟨i0, hi, hz0, hz1, hz2⟩ := info_parts u8_info
  have hb : bs = [] := by
    obtain ⟨A, c, e⟩ := OwnB.form h.own
    have : bs.length = 0 := by injection e with _ e2 _; exact e2.symm
    exact List.length_eq_zero_iff.1 this
  subst hb
  have ho0 : OwnB (w.alloc (.cells #[] 5)) (.slice (some ⟨w.heap.size, 0, none⟩) 0 0) ([] ++ []) := own_empty rfl
  have h1 := h.call ho0 (fresh_empty w 5)
  have hrun : (Instr.buildSlice t 0 #[]).run Tryd.prog w = .ok (.slice (some ⟨w.heap.size, 0, none⟩) 0 0) (w.alloc (.cells #[] 5)) := by
    unfold Instr.buildSlice
    simp only [Sem.run_bind, run_underlying ht, Result.andThen_ok, sizeOf, typeInfo, run_program, hi, Sem.run_pure, hz1]
    rw [if_neg (by omega)]
    simp only [show ¬ (1 = 0) by omega, if_false, Sem.run_bind, Sem.run_pure, Result.andThen_ok, zeroValue, typeInfo, run_program, hi, hz0]
    simp [newRow, Instr.fill]
    rw [show Array.range 0 = #[] from Array.eq_empty_of_size_eq_zero (by simp), Array.map_empty]
  unfold Oper.wp execOp
  simp only [ho, List.map_toArray, List.map_nil, Sem.run_bind, hrun, Result.andThen_ok, Sem.run_pure]
  exact hk _ _ h1.1 h1.2
set_option maxRecDepth 100000 in
/-- '[]byte(s)'. -/
theorem QJ.mkStr (h : QJ g w0 v0 cur bs xs w) {o : Oper} {a : Act} {K : Act → World → Prop} {Q : Exit → Act → World → Prop} (src dst : TypeId) (p : Operand) (ho : o.op = .convert src dst p) (hs : Tryd.prog.underlying src = some .string) (hd : Tryd.prog.underlying dst = some (.slice 5))
    (s : ByteArray) (hp : a.eval p = .string s) (hm : s.size ≤ maxLen)
    (hk : ∀ v W', QJ g w0 v0 cur bs (It.sl .u8 s.data.toList v :: xs) W' → KeepB (fun b => b = g) w W' → K (a.put o.dst v) W') : o.wp Tryd.prog a w K Q := by
  have hrun := run_bytes_of_string (P := Tryd.prog) w src dst 5 s hs hd Tryd.underlying5
  have hge := grownCap_ge w s.size 0 5
  have hle := grownCap_le_maxLen w s.size 0 5 hm
  generalize grownCap w s.size 0 5 = cap at *
  have hcl : (bytesRow s cap).toList = bv s.data.toList ++ List.replicate (cap - s.size) (.int .u8 0) := by
    unfold bytesRow bv
    rw [Array.toList_append, Array.toList_map, Array.toList_replicate]
  have hsz : s.data.toList.length = s.size := by rw [Array.length_toList]; rfl
  generalize bytesRow s cap = C at *
  unfold Oper.wp execOp
  simp only [ho, hp, Sem.run_bind]
  rw [hrun]
  simp only [Result.andThen_ok, Sem.run_pure]
  have hc : Cells (w.drew.alloc (.cells C 5 (C.size, C.size + 1))) ⟨w.heap.size, 0, none⟩ (bv s.data.toList) := by
    have h0 := Cells.of_block (heap_alloc_new w.drew (.cells C 5 (C.size, C.size + 1)))
    rw [hcl] at h0
    have h2 := h0.take s.data.toList.length
    rw [List.take_left' (bv_length _)] at h2
    exact h2
  have h1 := h.make (x := It.sl .u8 s.data.toList (.slice (some ⟨w.heap.size, 0, none⟩) s.size cap)) (w' := w.drew.alloc (.cells C 5 (C.size, C.size + 1))) ((Ext.refl w).drew.alloc _)
    ⟨_, cap, bv s.data.toList, by rw [hsz], by omega, hle, by simp, fun _ => ⟨_, rfl, rfl, hc⟩, AllH.bytes.2 rfl⟩ (by rintro b ⟨⟩; show w.heap.size < (w.drew.alloc _).heap.size; rw [World.size_alloc]; exact Nat.lt_succ_self _) (by rintro b ⟨⟩; exact .inl (Nat.le_refl _))
  exact hk _ _ h1.1 h1.2
/-- A slice of one slice of bytes. -/
theorem QJ.mkS (h : QJ g w0 v0 cur bs xs w) {p : List UInt8} {u : Value} (hx : It.sl .u8 p u ∈ xs) {o : Oper} {a : Act} {K : Act → World → Prop} {Q : Exit → Act → World → Prop} (t : TypeId) (q : Operand) (ho : o.op = .buildSlice t 1 #[(0, q)]) (ht : Tryd.prog.underlying t = some (.slice 40)) (hq : a.eval q = u)
    (hi : (Tryd.prog.info? 40).map (·.size) = some 1) (hz : ((Tryd.prog.info? 40).bind (·.zero)).isSome = true)
    (hk : ∀ v W', QJ g w0 v0 cur bs (It.two [p] u v :: xs) W' → KeepB (fun b => b = g) w W' → K (a.put o.dst v) W') : o.wp Tryd.prog a w K Q := by
  obtain ⟨⟨hok, hlt⟩, _⟩ := h.it _ hx
  have huc : u.cells = [u].toArray := by
    obtain ⟨A, c, xs, hv, _⟩ := hok
    cases hv
    rfl
  refine wp_oneL w t q ho 40 u [u] ht hq huc hi hz (show 1 ≤ 16777216 by decide) (show 0 < 1 by decide) ?_
  have hx0 : Ext w (w.alloc (.cells [u].toArray 40)) := (Ext.refl w).alloc _
  have h1 := h.make (x := It.two [p] u (.slice (some ⟨w.heap.size, 0, none⟩) 1 1)) (w' := w.alloc (.cells [u].toArray 40)) hx0
    (madeT hx0 hlt hok)
    (by
      rintro b (hb | hb)
      · exact Nat.lt_of_lt_of_le (hlt b hb) hx0.size
      · cases hb; simp)
    (by
      rintro b (hb | hb)
      · exact .inr ⟨_, hx, hb⟩
      · cases hb; exact .inl (Nat.le_refl _))
  exact hk _ _ h1.1 h1.2
theorem QJ.appS (h : QJ g w0 v0 cur bs xs w) {o : Oper} {a : Act} {K : Act → World → Prop} {Q : Exit → Act → World → Prop} (s p : Operand) (t t' : TypeId) (ho : o.op = .call { callee := .builtin .append, args := #[s, p], argTypes := #[t, t'] })
    (ht : Tryd.prog.underlying t = some (.slice 5)) (ht' : Tryd.prog.underlying t' = some (.slice 5)) (hs : a.eval s = cur) (A : Option Addr) (m c : Nat) (l : List UInt8) (hp : a.eval p = .slice A m c) (hm : l.length = m) (hsrc : Src w A m (bv l)) (hb : bs.length + m ≤ 140737488355328)
    (hk : ∀ v' W', QJ g w0 v0 v' (bs ++ l) xs W' → KeepB (fun b => b = g) w W' → K (a.put o.dst v') W') : o.wp Tryd.prog a w K Q := by
  obtain ⟨i0, hi, hz0, hz1, hz2⟩ := info_parts u8_info
  refine wp_app w s p t t' ho 5 5 i0 _ 1 1 ht ht' hi hz0 hz1 hz2 rfl (by decide) cur _ _ hs h.own A m c (bv l) hp (by rw [bv_length, hm]; omega) hsrc (bv_one _) (by unfold maxLen; omega) (by omega) ?_
  intro v' w' ho' hm'
  subst hm
  have h1 := h.call (OwnB.app ho') hm'
  exact hk v' w' h1.1 h1.2
theorem QJ.num (h : QJ g w0 v0 cur bs xs w) (n size : Nat) (hn : n < 18446744073709551616) (hs : size ≤ 8) (hb : bs.length + size ≤ 140737488355328) :
    Calls Tryd.prog 40 #[cur, .int .u64 (n : Int), .int .i64 (size : Int)] w fun e w' => ∃ v', e = .returned v' ∧ QJ g w0 v0 v' (bs ++ be size n) xs w' ∧ KeepB (fun b => b = g) w w' := by
  refine (Ref_Num cur bs n size w _ (OwnB.holds h.own) (OwnB.lt h.own) hn hs hb).mono ?_
  rintro e w' ⟨v', rfl, ho, hf⟩
  exact ⟨v', rfl, h.call ho (Fresh.moved hf cur)⟩
theorem QJ.numI (h : QJ g w0 v0 cur [] xs w) {ds : List UInt8} {vb : Value} (hx : It.sl .u8 ds vb ∈ xs) (n size : Nat) (hn : n < 18446744073709551616) (hs : size ≤ 8) (hb : ds.length + size ≤ 140737488355328) :
    Calls Tryd.prog 40 #[vb, .int .u64 (n : Int), .int .i64 (size : Int)] w fun e w' => ∃ v', e = .returned v' ∧ QJ g w0 v0 v' ([] ++ (ds ++ be size n)) xs w' ∧ KeepB (fun b => b = g) w w' := by
  refine (Ref_Num vb ds n size w _ (h.getS hx) (h.it _ hx).1.2 hn hs hb).mono ?_
  rintro e w' ⟨v', rfl, ho, hf⟩
  exact ⟨v', rfl, h.call ho (Fresh.moved hf cur)⟩
theorem QJ.blobR (h : QJ g w0 v0 cur bs xs w) {p : List UInt8} {vp : Value} (hx : It.sl .u8 p vp ∈ xs) (hb : bs.length + 4 + p.length ≤ 140737488355328) :
    Calls Tryd.prog 41 #[cur, vp] w fun e w' => ∃ v', e = .returned v' ∧ OwnB w' v' (bs ++ blob p) ∧ Fresh w w' v' :=
  Ref_Blob cur vp bs p w (fun b => cur.ownBlock = some b ∨ vp.ownBlock = some b) (Ty.keep (fun _ _ => rfl) (fun _ h => Or.inl h) (.sl .u8) (OwnB.holds h.own)) (Ty.keep (fun _ _ => rfl) (fun _ h => Or.inr h) (.sl .u8) (h.getS hx))
    (fun b hb => hb.elim (OwnB.lt h.own b) ((h.it _ hx).1.2 b)) hb
theorem QJ.blk (h : QJ g w0 v0 cur bs xs w) (hv : ∀ b, v0.ownBlock = some b → b ≠ g) : w.heap[g]? = w0.heap[g]? := h.mv.grown.block g h.lt (fun e => hv _ e.symm rfl)
theorem QJ.ext (h : QJ g w0 (.slice none 0 0) cur bs xs w) : Ext w0 w := h.mv.grown
end
end Go.Proofs.YtchnjcghbbacoaaDoor

/- A payment's and a wish's cells; law 10's To and law 12's Op. Conditions: the numbers are in their bounds. -/
import Derived.Test.YtemladlnpaaefaaPModel
import Derived.Test.YtemladlnpaaefaaBuild
import Derived.Test.YtemladlnpaaefaaMonoL
import Derived.Test.YtemladlnpaaefaaPart
set_option linter.unusedVariables false
set_option linter.unusedSimpArgs false
set_option linter.unnecessarySimpa false
namespace Go.Proofs.Ytemladlnpaaefaa
open Go.RowKit

def CondT : Ty := .st (.pair (.nat .u64) (.pair (.int .i64) (.pair (.nat .u64) (.pair (.arr 32 .u8) (.pair (.nat .u64) .unit)))))
/-- A payment's cells. -/
def condCells (c : Cd) : List Value := .int .u64 (c.1 : Int) :: .int .i64 c.2.1 :: .int .u64 (c.2.2.1 : Int) :: (bv c.2.2.2.1 ++ [.int .u64 (c.2.2.2.2.1 : Int)])
structure CondOk (c : Cd) : Prop where
  id : (Lit.int .u64 (c.1 : Int)).wf = true
  side : (Lit.int .i64 c.2.1).wf = true
  am : (Lit.int .u64 (c.2.2.1 : Int)).wf = true
  hash : c.2.2.2.1.length = 32
  exp : (Lit.int .u64 (c.2.2.2.2.1 : Int)).wf = true
theorem condT_iff {w : World} {F : Fp} {cs : List Value} {c : Cd} : CondT.holds w F cs c ↔ cs = condCells c ∧ CondOk c := by
  obtain ⟨i, b, a, h, e, u⟩ := c
  constructor
  · rintro ⟨_, _, rfl, ⟨rfl, w1⟩, _, _, rfl, ⟨rfl, w2⟩, _, _, rfl, ⟨rfl, w3⟩, _, _, rfl, ⟨hl, hb⟩, _, _, rfl, ⟨rfl, w5⟩, rfl⟩
    rw [AllH.bytes.1 hb]
    exact ⟨by simp [condCells], w1, w2, w3, hl, w5⟩
  · rintro ⟨rfl, w1, w2, w3, hl, w5⟩
    exact ⟨[_], _, rfl, ⟨rfl, w1⟩, [_], _, rfl, ⟨rfl, w2⟩, [_], _, rfl, ⟨rfl, w3⟩, bv h, _, rfl, ⟨hl, AllH.bytes.2 rfl⟩, [_], [], rfl, ⟨rfl, w5⟩, rfl⟩
theorem condCells_len {c : Cd} (h : CondOk c) : (condCells c).length = 36 := by simp [condCells, h.hash]
theorem condCells_one (c : Cd) : ∀ u ∈ condCells c, u.oneCell' = true := by
  intro u hu
  simp only [condCells, List.mem_cons, List.mem_append] at hu
  rcases hu with rfl | rfl | rfl | hu | rfl | hu
  · rfl
  · rfl
  · rfl
  · exact bv_one _ u hu
  · rfl
  · cases hu
theorem conds_iff {w : World} {F : Fp} : ∀ {l : List Cd} {xs : List Value}, AllH (CondT.holds w F) xs l ↔ xs = l.flatMap condCells ∧ ∀ c ∈ l, CondOk c
  | [], xs => by simp [AllH]
  | c :: l, xs => by
    constructor
    · rintro ⟨c1, c2, rfl, h1, h2⟩
      obtain ⟨rfl, ok⟩ := condT_iff.1 h1
      obtain ⟨rfl, oks⟩ := conds_iff.1 h2
      refine ⟨rfl, fun x hx => ?_⟩
      rcases List.mem_cons.1 hx with rfl | hx
      · exact ok
      · exact oks x hx
    · rintro ⟨rfl, ok⟩
      exact ⟨_, _, rfl, condT_iff.2 ⟨rfl, ok c (by simp)⟩, conds_iff.2 ⟨rfl, fun x hx => ok x (by simp [hx])⟩⟩
/-- Bounds of a state's numbers. -/
structure StOk (s : St) : Prop where
  chan : s.chan < 4294967296
  round : s.round < M64
  m0 : s.m0 < M64
  m1 : s.m1 < M64
  t0 : s.t0 < M64
  t1 : s.t1 < M64
/-- A state's value: its slice is v. -/
abbrev stv (s : St) (v : Value) : Value := .agg #[.int .u32 (s.chan : Int), .int .u64 (s.round : Int), .int .u64 (s.m0 : Int), .int .u64 (s.m1 : Int), .int .u64 (s.t0 : Int), .int .u64 (s.t1 : Int), v]
/-- The payments of a slice. -/
abbrev Conds (w : World) (F : Fp) (v : Value) (cs : List Cd) : Prop := (Ty.sl CondT).holds w F [v] cs
theorem conds_open {w : World} {F : Fp} {v : Value} {cs : List Cd} (h : Conds w F v cs) : ∃ (A : Option Addr) (c : Nat) (xs : List Value), v = .slice A (List.length (α := Cd) cs) c ∧ List.length (α := Cd) cs ≤ c ∧ c ≤ maxLen ∧ (A = none → c = 0) ∧ (0 < List.length (α := Cd) cs → ∃ ad, A = some ad ∧ F ad.block ∧ Cells w ad xs) ∧ AllH (CondT.holds w F) xs cs := by
  obtain ⟨A, c, xs, hv, h1, h2, h3, h4, h5⟩ := h
  cases hv
  exact ⟨A, c, xs, rfl, h1, h2, h3, fun h => h4 (by intro e; rw [e] at h; exact absurd h (Nat.lt_irrefl _)), h5⟩
/-- What is read of the payments: one, by its place. -/
theorem conds_at {w w' : World} {F : Fp} {xs : List Value} {l : List Cd} {ad : Addr} {k : Nat} (hall : AllH (CondT.holds w F) xs l) (hc : Cells w' ad xs) (hk : k < l.length) : Cells w' (ad.add (k * 36)) (condCells l[k]) ∧ CondOk l[k] := by
  have h := AllH.elem hall hk
  obtain ⟨h1, h2⟩ := condT_iff.1 h
  have e : CondT.size = 36 := rfl
  rw [e] at h1
  have h3 := (hc.drop (k * 36)).take 36
  rw [h1] at h3
  exact ⟨h3, h2⟩
theorem cond_size {n : Nat} (h : n = 36) : (Try.prog.info? 48).map (·.size) = some n := by subst h; kernel_rfl
theorem cond_zero : (Try.prog.info? 48).bind (fun i => i.zero.map (·.cells)) = some (condCells (0, 0, 0, List.replicate 32 0, 0, ())).toArray := by kernel_rfl
/-- The cells of one payment that lies in a block of its own. -/
theorem cond_block {w : World} {g : Nat} {c : Cd} (h : Blk w g 48 (condCells c)) : w.cell? ⟨g, 0, none⟩ = some (.int .u64 (c.1 : Int)) ∧ w.cell? ⟨g, 1, none⟩ = some (.int .i64 c.2.1) ∧ w.cell? ⟨g, 2, none⟩ = some (.int .u64 (c.2.2.1 : Int)) :=
  ⟨h.cell 0, h.cell 1, h.cell 2⟩
theorem src_new_at {w : World} {g : Nat} (hg : w.heap.size = g) (cs : List Value) (t : TypeId) (m : Nat) : Src (w.alloc (.cells cs.toArray t)) (some ⟨g, 0, none⟩) m cs := by
  subst hg; exact src_new w cs t m
theorem Blk.new_at {w : World} {G : Nat} (hG : w.heap.size = G) (t : TypeId) (cs : List Value) : Blk (w.alloc (.cells cs.toArray t)) G t cs := by subst hG; exact Blk.new w t cs
def wishCells (o : Wish) : List Value := .int .i64 o.kind :: .int .u64 (o.am : Int) :: (condCells o.c ++ [.int .u64 (o.id : Int)])
theorem wishCells_len {o : Wish} (h : CondOk o.c) : (wishCells o).length = 39 := by simp [wishCells, condCells_len h]
theorem op_size {n : Nat} (h : n = 39) : (Try.prog.info? 50).map (·.size) = some n := by subst h; kernel_rfl

def zcl : List Value := condCells (0, 0, 0, List.replicate 32 0, 0, ())
theorem cond_fields : ∃ fields, Try.prog.underlying 48 = some (.struct fields) ∧ fields.toList.mapM (fun f => (Try.prog.info? f.type).map fun i => (f.offset, i.size)) = some [(0, 1), (1, 1), (2, 1), (3, 32), (35, 1)] :=
  ⟨_, Try.underlying48, by kernel_rfl⟩
set_option maxRecDepth 100000 in
set_option maxHeartbeats 1000000 in
theorem To10 (ck : Cd) (w : World) (hok : CondOk ck) : Calls Try.prog 36 #[.agg (condCells ck).toArray] w fun e w' => e = .returned (.agg (condCells ck).toArray) ∧ Ext w w' := by
  obtain ⟨fields, hfu, hfp⟩ := cond_fields
  have hz : (Try.prog.info? 48).bind (fun i => i.zero.map (·.cells)) = some zcl.toArray := cond_zero
  have hzl : zcl.length = 36 := rfl
  generalize zcl = Z at hz hzl
  have hcl := condCells_len hok
  have hone := condCells_one ck
  have hdef : condCells ck = .int .u64 (ck.1 : Int) :: .int .i64 ck.2.1 :: .int .u64 (ck.2.2.1 : Int) :: (bv ck.2.2.2.1 ++ [.int .u64 (ck.2.2.2.2.1 : Int)]) := rfl
  have hhl : (bv ck.2.2.2.1).length = 32 := by simp [hok.hash]
  generalize hB : bv ck.2.2.2.1 = B at *
  have c35 : (condCells ck)[35]? = some (.int .u64 (ck.2.2.2.2.1 : Int)) := by
    rw [hdef]
    rw [List.getElem?_cons_succ, List.getElem?_cons_succ, List.getElem?_cons_succ, List.getElem?_append_right (by omega), hhl]
    rfl
  have hx0 : Ext w ((w.alloc (.cells (condCells ck).toArray 26)).alloc (.cells Z.toArray 48)) := ((Ext.refl w).alloc _).alloc _
  have hb0 : Blk ((w.alloc (.cells (condCells ck).toArray 26)).alloc (.cells Z.toArray 48)) w.heap.size 26 (condCells ck) := (Blk.new _ _ _).keep ((Ext.refl _).alloc _) (by simp)
  have hr8 : ((w.alloc (.cells (condCells ck).toArray 26)).alloc (.cells Z.toArray 48)).heap[w.heap.size + 1]? = some (.cells Z.toArray 48 (0, 0)) := Blk.new_at (by simp) _ _
  have c0 : ((w.alloc (.cells (condCells ck).toArray 26)).alloc (.cells Z.toArray 48)).cell? ⟨w.heap.size, 0, none⟩ = some (.int .u64 (ck.1 : Int)) := (hb0.cell 0).trans (by rw [hdef]; rfl)
  have c1 : ((w.alloc (.cells (condCells ck).toArray 26)).alloc (.cells Z.toArray 48)).cell? ⟨w.heap.size, 1, none⟩ = some (.int .i64 ck.2.1) := (hb0.cell 1).trans (by rw [hdef]; rfl)
  have c2 : ((w.alloc (.cells (condCells ck).toArray 26)).alloc (.cells Z.toArray 48)).cell? ⟨w.heap.size, 2, none⟩ = some (.int .u64 (ck.2.2.1 : Int)) := (hb0.cell 2).trans (by rw [hdef]; rfl)
  have c5 : ((w.alloc (.cells (condCells ck).toArray 26)).alloc (.cells Z.toArray 48)).cell? ⟨w.heap.size, 35, none⟩ = some (.int .u64 (ck.2.2.2.2.1 : Int)) := (hb0.cell 35).trans c35
  have hb3 : Cells ((w.alloc (.cells (condCells ck).toArray 26)).alloc (.cells Z.toArray 48)) ⟨w.heap.size, 3, none⟩ B := by
    have h := hb0.cells.drop 3
    have e3 : (condCells ck).drop 3 = B ++ [.int .u64 (ck.2.2.2.2.1 : Int)] := by rw [hdef]; rfl
    rw [e3] at h
    have h2 := h.left
    simpa [Addr.add] using h2
  have hfl : fillL ([(0, 1), (1, 1), (2, 1), (3, 32), (35, 1)].toArray[·]?) Z [(0, [.int .u64 (ck.1 : Int)]), (1, [.int .i64 ck.2.1]), (2, [.int .u64 (ck.2.2.1 : Int)]), (3, B), (4, [.int .u64 (ck.2.2.2.2.1 : Int)])] = some (condCells ck) := by
    rw [hdef]
    obtain ⟨z0, z1, z2, T, rfl, hT⟩ : ∃ z0 z1 z2 T, Z = z0 :: z1 :: z2 :: T ∧ T.length = 33 := by
      match Z, hzl with
      | z0 :: z1 :: z2 :: T, h => exact ⟨z0, z1, z2, T, rfl, by simpa using h⟩
    simp [fillL, hhl, hT]
  have HFL := Lib.hid hfl
  have HDEF := Lib.hid hdef
  have HHL := Lib.hid hhl
  have HCL := Lib.hid hcl
  have HX0 := Lib.hid hx0
  have HZL := Lib.hid hzl
  clear hfl hdef hhl hcl hb0 hx0 c35 hzl
  generalize condCells ck = C at *
  go_enter Try.func36, Try.ntmps36
  go_wp2_with (first
    | (refine wpList_alloc _ rfl 48 rfl _ hz ?_)
    | (refine wpList_load_agg _ rfl 24 (.tmp 9) rfl _ rfl B _ Try.underlying24 rfl (by rw [HHL.out]; kernel_rfl) hb3 ?_)
    | (refine wpList_build_st (.inl rfl) 48 #[(0, .tmp 4), (1, .tmp 6), (2, .tmp 8), (3, .tmp 10), (4, .tmp 12)] rfl fields Z C _ _ hfu hz hfp (by simp [Value.cells, Act.eval]) HFL.out ?_)
    | (refine wpList_store_row _ rfl 48 (.tmp 2) (.tmp 13) rfl (w.heap.size + 1) rfl Z C _ rfl hr8 (cond_size HCL.out) (by rw [HCL.out, HZL.out]) hone ?_)
    | fail)
  have hc9 := Blk.cells (t := 48) (setRow_at (cs' := C.toArray) hr8)
  (try simp only [Exit.inBlock, Exit.then])
  refine bodyPost_ret (results_agg rfl _ _ _ _ _ rfl Try.underlying48 rfl (cond_size HCL.out) hc9) rfl ?_
  exact ⟨rfl, grown_then HX0.out (setRow_only _) (.inr (by rintro b ⟨⟩; omega))⟩
-- OP
theorem rcond_size {n : Nat} (h : n = 36) : (Try.prog.info? 26).map (·.size) = some n := by subst h; kernel_rfl
theorem op_fields : ∃ fields, Try.prog.underlying 50 = some (.struct fields) ∧ fields.toList.mapM (fun f => (Try.prog.info? f.type).map fun i => (f.offset, i.size)) = some [(0, 1), (1, 1), (2, 36), (38, 1)] :=
  ⟨_, Try.underlying50, by kernel_rfl⟩
def zop : List Value := wishCells ⟨0, 0, (0, 0, 0, List.replicate 32 0, 0, ()), 0⟩
theorem op_zero : (Try.prog.info? 50).bind (fun i => i.zero.map (·.cells)) = some zop.toArray := by kernel_rfl
theorem wish_one (o : Wish) : ∀ u ∈ wishCells o, u.oneCell' = true := by
  intro u hu
  simp only [wishCells, List.mem_cons, List.mem_append, List.not_mem_nil, or_false] at hu
  rcases hu with rfl | rfl | hu | rfl
  · rfl
  · rfl
  · exact condCells_one _ u hu
  · rfl
theorem wish_38 {o : Wish} (hok : CondOk o.c) : (wishCells o)[38]? = some (.int .u64 (o.id : Int)) := by
  have h36 := condCells_len hok
  unfold wishCells
  rw [List.getElem?_cons_succ, List.getElem?_cons_succ, List.getElem?_append_right (by omega), h36]
  rfl
set_option maxRecDepth 100000 in
set_option maxHeartbeats 1000000 in
theorem Op12 (o : Wish) (w : World) (hok : CondOk o.c) : Calls Try.prog 21 #[.agg (wishCells o).toArray] w fun e w' => e = .returned (.agg (wishCells o).toArray) ∧ Ext w w' := by
  obtain ⟨fields, hfu, hfp⟩ := op_fields
  have hz := op_zero
  have hzl : zop.length = 39 := rfl
  generalize zop = Z at hz hzl
  have hol := wishCells_len hok
  have hone := wish_one o
  have o0 : (wishCells o)[0]? = some (.int .i64 o.kind) := rfl
  have o1 : (wishCells o)[1]? = some (.int .u64 (o.am : Int)) := rfl
  have o38 := wish_38 hok
  have hto := fun W => To10 o.c W hok
  have hcl := condCells_len hok
  have hdef : wishCells o = .int .i64 o.kind :: .int .u64 (o.am : Int) :: (condCells o.c ++ [.int .u64 (o.id : Int)]) := rfl
  generalize condCells o.c = C at hto hcl hdef
  have hfl : fillL ([(0, 1), (1, 1), (2, 36), (38, 1)].toArray[·]?) Z [(0, [.int .i64 o.kind]), (1, [.int .u64 (o.am : Int)]), (2, C), (3, [.int .u64 (o.id : Int)])] = some (wishCells o) := by
    rw [hdef]
    obtain ⟨z0, z1, T, rfl, hT⟩ : ∃ z0 z1 T, Z = z0 :: z1 :: T ∧ T.length = 37 := by
      match Z, hzl with
      | z0 :: z1 :: T, h => exact ⟨z0, z1, T, rfl, by simpa using h⟩
    simp [fillL, hcl, hT]
  generalize wishCells o = OC at *
  have hx0 : Ext w ((w.alloc (.cells OC.toArray 28)).alloc (.cells Z.toArray 50)) := ((Ext.refl w).alloc _).alloc _
  have hb0 : Blk ((w.alloc (.cells OC.toArray 28)).alloc (.cells Z.toArray 50)) w.heap.size 28 OC := (Blk.new _ _ _).keep ((Ext.refl _).alloc _) (by simp)
  have hb1 : Blk ((w.alloc (.cells OC.toArray 28)).alloc (.cells Z.toArray 50)) (w.heap.size + 1) 50 Z := Blk.new_at (by simp) _ _
  have hcc : Cells ((w.alloc (.cells OC.toArray 28)).alloc (.cells Z.toArray 50)) ⟨w.heap.size, 2, none⟩ C := by
    have h := hb0.cells.drop 2
    have e3 : OC.drop 2 = C ++ [.int .u64 (o.id : Int)] := by rw [hdef]; rfl
    rw [e3] at h
    have h2 := h.left
    simpa [Addr.add] using h2
  have hlt : w.heap.size < ((w.alloc (.cells OC.toArray 28)).alloc (.cells Z.toArray 50)).heap.size := by simp; omega
  have HFL := Lib.hid hfl
  have HOL := Lib.hid hol
  have HCL := Lib.hid hcl
  have HZL := Lib.hid hzl
  have HTO := Lib.hid hto
  clear hfl hol hcl hzl hto hdef
  go_enter Try.func21, Try.ntmps21
  go_wp2_with (first
    | (refine wpList_alloc _ rfl 50 rfl _ hz ?_)
    | fail)
  have hx0 : Ext w ((w.alloc (.cells OC.toArray 28)).alloc (.cells Z.toArray 50)).drew := hx0.trans (Ext.refl _).drew
  have hb0 : Blk ((w.alloc (.cells OC.toArray 28)).alloc (.cells Z.toArray 50)).drew w.heap.size 28 OC := hb0
  have hb1 : Blk ((w.alloc (.cells OC.toArray 28)).alloc (.cells Z.toArray 50)).drew (w.heap.size + 1) 50 Z := hb1
  have hcc : Cells ((w.alloc (.cells OC.toArray 28)).alloc (.cells Z.toArray 50)).drew ⟨w.heap.size, 2, none⟩ C := hcc
  have hlt : w.heap.size < ((w.alloc (.cells OC.toArray 28)).alloc (.cells Z.toArray 50)).drew.heap.size := hlt
  have HX0 := Lib.hid hx0
  have HB0 := Lib.hid hb0
  have HB1 := Lib.hid hb1
  have HCC := Lib.hid hcc
  have HLT := Lib.hid hlt
  clear hx0 hb0 hb1 hcc hlt
  refine startL 10 Since (by kernel_rfl) ?_
  (try simp only [Act.put, List.setIfInBounds_toArray, List.set_cons_succ, List.set_cons_zero])
  generalize ((w.alloc (.cells OC.toArray 28)).alloc (.cells Z.toArray 50)).drew = w0 at *
  refine takeN (fun a => Ext.refl a) 0 rfl (by kernel_rfl) (by kernel_rfl) (by kernel_rfl) rfl (fun _ _ _ _ h => h) rfl (fun K hK => ?_)
  go_big_quiet_op
  first | refine hK _ ?_ | refine ⟨_, fun _ _ => rfl, hK _ ?_⟩
  clear hK K
  refine takeL (fun a => Ext.refl a) (fun a b c h1 h2 => Ext.trans h1 h2) 1 [10] rfl (by kernel_rfl) (by kernel_rfl) (by kernel_rfl) (by kernel_rfl) rfl (fun _ _ _ _ h => h) rfl (fun K hK => ?_)
  refine quiet_cell _ _ rfl _ rfl _ _ Try.underlying3 rfl (fun W' h => World.grownBy.cell h ((HB0.out.cell 0).trans o0) (by simp)) ?_
  refine hK _ ?_
  simp only [Act.put, List.setIfInBounds_toArray, List.set_cons_succ, List.set_cons_zero]
  clear hK K
  refine takeN (fun a => Ext.refl a) 2 rfl (by kernel_rfl) (by kernel_rfl) (by kernel_rfl) rfl (fun _ _ _ _ h => h) rfl (fun K hK => ?_)
  go_big_quiet_op
  first | refine hK _ ?_ | refine ⟨_, fun _ _ => rfl, hK _ ?_⟩
  clear hK K
  refine takeL (fun a => Ext.refl a) (fun a b c h1 h2 => Ext.trans h1 h2) 3 [10] rfl (by kernel_rfl) (by kernel_rfl) (by kernel_rfl) (by kernel_rfl) rfl (fun _ _ _ _ h => h) rfl (fun K hK => ?_)
  refine quiet_cell _ _ rfl _ rfl _ _ Try.underlying23 rfl (fun W' h => World.grownBy.cell h ((HB0.out.cell 1).trans o1) (by simp)) ?_
  refine hK _ ?_
  simp only [Act.put, List.setIfInBounds_toArray, List.set_cons_succ, List.set_cons_zero]
  clear hK K
  refine takeN (fun a => Ext.refl a) 4 rfl (by kernel_rfl) (by kernel_rfl) (by kernel_rfl) rfl (fun _ _ _ _ h => h) rfl (fun K hK => ?_)
  go_big_quiet_op
  first | refine hK _ ?_ | refine ⟨_, fun _ _ => rfl, hK _ ?_⟩
  clear hK K
  refine takeL (fun a => Ext.refl a) (fun a b c h1 h2 => Ext.trans h1 h2) 5 [10] rfl (by kernel_rfl) (by kernel_rfl) (by kernel_rfl) (by kernel_rfl) rfl (fun _ _ _ _ h => h) rfl (fun K hK => ?_)
  refine quiet_agg 26 (.tmp 7) rfl _ rfl C _ Try.underlying26 rfl (rcond_size HCL.out) (fun W' h => HCC.out.keep (h.block _ HLT.out (by simp))) ?_
  refine hK _ ?_
  simp only [Act.put, List.setIfInBounds_toArray, List.set_cons_succ, List.set_cons_zero]
  clear hK K
  refine takeN (fun a => Ext.refl a) 7 rfl (by kernel_rfl) (by kernel_rfl) (by kernel_rfl) rfl (fun _ _ _ _ h => h) rfl (fun K hK => ?_)
  go_big_quiet_op
  first | refine hK _ ?_ | refine ⟨_, fun _ _ => rfl, hK _ ?_⟩
  clear hK K
  refine takeL (fun a => Ext.refl a) (fun a b c h1 h2 => Ext.trans h1 h2) 8 [10] rfl (by kernel_rfl) (by kernel_rfl) (by kernel_rfl) (by kernel_rfl) rfl (fun _ _ _ _ h => h) rfl (fun K hK => ?_)
  refine quiet_cell _ _ rfl _ rfl _ _ Try.underlying23 rfl (fun W' h => World.grownBy.cell h ((HB0.out.cell 38).trans o38) (by simp)) ?_
  refine hK _ ?_
  simp only [Act.put, List.setIfInBounds_toArray, List.set_cons_succ, List.set_cons_zero]
  clear hK K
  refine stepL 6 rfl (by kernel_rfl) rfl (fun K hK => ?_)
  go_simp
  refine (HTO.out _).mono ?_
  rintro e w5 ⟨rfl, hx5⟩
  refine hK _ _ (fun _ => hx5) ?_
  clear hK K
  refine takeN (fun a => Ext.refl a) 9 rfl (by kernel_rfl) (by kernel_rfl) (by kernel_rfl) rfl (fun _ _ _ _ h => h) rfl (fun K hK => ?_)
  refine quiet_build_st 50 #[(0, .tmp 4), (1, .tmp 6), (2, .tmp 9), (3, .tmp 11)] rfl fields Z OC _ _ hfu hz hfp (by simp [Value.cells, Act.eval]) HFL.out ?_
  refine hK _ ?_
  simp only [Act.put, List.setIfInBounds_toArray, List.set_cons_succ, List.set_cons_zero]
  clear hK K
  refine stepL 10 rfl (by kernel_rfl) rfl (fun K hK => ?_)
  have HB9 : (w5.heap[w.heap.size + 1]? = some (.cells Z.toArray 50 (0, 0))) := HB1.out.keep hx5 (by simp)
  refine wp_store_row 50 (.tmp 2) (.tmp 12) rfl (w.heap.size + 1) rfl Z OC _ rfl HB9 (op_size HOL.out) (by rw [HOL.out, HZL.out]) hone ?_
  refine hK _ _ (fun h => absurd rfl h) ?_
  clear hK K
  (try simp only [Act.put, List.setIfInBounds_toArray, List.set_cons_succ, List.set_cons_zero])
  refine doneL (by kernel_rfl) ?_ _
  have hr9 : w5.heap[w.heap.size + 1]? = some (.cells Z.toArray 50 (0, 0)) := HB1.out.keep hx5 (by simp)
  have hx9 : Ext w (w5.setRow (w.heap.size + 1) OC.toArray) := grown_then (HX0.out.trans hx5) (setRow_only _) (.inr (by rintro b ⟨⟩; omega))
  have HX9 := Lib.hid hx9
  have hc9 := Blk.cells (t := 50) (setRow_at (cs' := OC.toArray) hr9)
  clear hx9
  go_wp2
  (try simp only [Exit.inBlock, Exit.then])
  refine bodyPost_ret (results_agg rfl _ _ _ _ _ rfl Try.underlying50 rfl (op_size HOL.out) hc9) rfl ?_
  exact ⟨rfl, HX9.out⟩
end Go.Proofs.Ytemladlnpaaefaa

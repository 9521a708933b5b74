/- The walk of deed's LayOp: a wish's bytes. Conditions: the numbers are in their bounds. -/
import Derived.Test.YtemladlnpaaefaaLayCond
set_option linter.unusedVariables false
set_option linter.unusedSimpArgs false
set_option linter.unnecessarySimpa false
namespace Go.Proofs.Ytemladlnpaaefaa
open Go.RowKit

theorem CJ.cond {g : Nat} {w0 w : World} {v0 cur : Value} {bs : List UInt8} {xs : List Item} (c : Cd) (hok : CondOk c) (h : CJ g w0 v0 cur bs xs w) (hb : bs.length ≤ 140737488354304) :
    Calls Try.prog 35 #[cur, .agg (condCells c).toArray] w fun e w' => ∃ v', e = .returned v' ∧ CJ g w0 v0 v' (bs ++ condB c) xs w' ∧ KeepB (fun b => b = g) w w' := by
  refine (LayCond c cur bs w hok h.own hb).mono ?_
  rintro e w' ⟨v', rfl, ho, hm⟩
  exact ⟨v', rfl, h.call ho hm⟩
theorem condB_len {c : Cd} (hok : CondOk c) : (condB c).length = 57 := by simp [condB, be_length, hok.hash]
/-- A wish's bytes. -/
def opB (o : Wish) : List UInt8 := byteOf o.kind :: (be 8 o.am ++ (be 8 o.id ++ condB o.c))
theorem opB_len {o : Wish} (hok : CondOk o.c) : (opB o).length = 74 := by simp [opB, be_length, condB_len hok]
set_option maxRecDepth 100000 in
set_option maxHeartbeats 8000000 in
theorem LayOp (o : Wish) (v : Value) (bs : List UInt8) (w : World) (hok : CondOk o.c) (ham : (Lit.int .u64 (o.am : Int)).wf = true) (hid : (Lit.int .u64 (o.id : Int)).wf = true) (ho : OwnB w v bs) (hb : bs.length ≤ 140737488353280) :
    Calls Try.prog 19 #[v, .agg (wishCells o).toArray] w fun e w' => ∃ v', e = .returned v' ∧ OwnB w' v' (bs ++ opB o) ∧ Moved w w' v v' := by
  have hb0 : Blk (w.alloc (.cells (wishCells o).toArray 50)) w.heap.size 50 (wishCells o) := Blk.new _ _ _
  have hx0 : Ext w (w.alloc (.cells (wishCells o).toArray 50)) := (Ext.refl w).alloc _
  have hne : ∀ b, v.ownBlock = some b → b ≠ w.heap.size := fun b hb e => by have := OwnB.lt ho b hb; omega
  have c38 := wish_38 hok
  have cc : ((wishCells o).drop 2).take 36 = condCells o.c := List.take_left' (condCells_len hok)
  have c0 : (wishCells o)[0]? = some (.int .i64 o.kind) := rfl
  have c1 : (wishCells o)[1]? = some (.int .u64 (o.am : Int)) := rfl
  have hco := fun (g : Nat) (w0 w : World) (v0 cur : Value) (bs : List UInt8) (xs : List Item) (h : CJ g w0 v0 cur bs xs w) hb => CJ.cond o.c hok h hb
  have hcl := condCells_len hok
  generalize condCells o.c = CC at *
  generalize wishCells o = OC at *
  have HCO := Lib.hid hco
  have HCL := Lib.hid hcl
  have HB0 := Lib.hid hb0
  have HX0 := Lib.hid hx0
  have HO := Lib.hid ho
  have HNE := Lib.hid hne
  clear hb0 hx0 ho hne hco hcl
  go_enter Try.func19, Try.ntmps19
  go_wp2
  have hb0 : Blk (w.alloc (.cells OC.toArray 50)).drew w.heap.size 50 OC := HB0.out
  have hx : Ext w (w.alloc (.cells OC.toArray 50)).drew := HX0.out.drew
  refine startM (KeepB fun b => b = w.heap.size) (by kernel_rfl) ?_
  (try simp only [Act.put, List.setIfInBounds_toArray, List.set_cons_succ, List.set_cons_zero])
  generalize (w.alloc (.cells OC.toArray 50)).drew = w0 at *
  have HK0 := Lib.hid ((hb0.cell 0).trans c0)
  have HK1 := Lib.hid ((hb0.cell 1).trans c1)
  have HK38 := Lib.hid ((hb0.cell 38).trans c38)
  have hkc : Cells w0 ⟨w.heap.size, 2, none⟩ CC := by have h := (hb0.cells.drop 2).take 36; rw [cc, addr_at] at h; exact h
  have HKC := Lib.hid hkc
  have hJ0 : CJ w.heap.size w0 v v bs [] w0 := CJ.start hb0.lt (HO.out.ext hx) HNE.out
  have HX := Lib.hid hx
  clear hb0 hx hkc c0 c1 c38 cc
  refine takeK 0 rfl (by kernel_rfl) (by kernel_rfl) (by kernel_rfl) rfl (fun _ _ _ _ h => h) rfl (fun K hK => ?_)
  go_big_quiet_op
  first | refine hK _ ?_ | refine ⟨_, fun _ _ => rfl, hK _ ?_⟩
  clear hK K
  refine takeK 1 rfl (by kernel_rfl) (by kernel_rfl) (by kernel_rfl) rfl (fun _ _ _ _ h => h) rfl (fun K hK => ?_)
  go_big_quiet_op
  first | refine hK _ ?_ | refine ⟨_, fun _ _ => rfl, hK _ ?_⟩
  clear hK K
  refine takeK 2 rfl (by kernel_rfl) (by kernel_rfl) (by kernel_rfl) rfl (fun _ _ _ _ h => h) rfl (fun K hK => ?_)
  refine quiet_cell _ _ rfl _ rfl _ _ Try.underlying3 rfl (fun W' h => KeepB.cell h HK0.out rfl) ?_
  refine hK _ ?_
  simp only [Act.put, List.setIfInBounds_toArray, List.set_cons_succ, List.set_cons_zero]
  clear hK K
  refine takeK 3 rfl (by kernel_rfl) (by kernel_rfl) (by kernel_rfl) rfl (fun _ _ _ _ h => h) rfl (fun K hK => ?_)
  go_big_quiet_op
  first | refine hK _ ?_ | refine ⟨_, fun _ _ => rfl, hK _ ?_⟩
  clear hK K
  refine takeK 6 rfl (by kernel_rfl) (by kernel_rfl) (by kernel_rfl) rfl (fun _ _ _ _ h => h) rfl (fun K hK => ?_)
  go_big_quiet_op
  first | refine hK _ ?_ | refine ⟨_, fun _ _ => rfl, hK _ ?_⟩
  clear hK K
  refine takeK 7 rfl (by kernel_rfl) (by kernel_rfl) (by kernel_rfl) rfl (fun _ _ _ _ h => h) rfl (fun K hK => ?_)
  refine quiet_cell _ _ rfl _ rfl _ _ Try.underlying23 rfl (fun W' h => KeepB.cell h HK1.out rfl) ?_
  refine hK _ ?_
  simp only [Act.put, List.setIfInBounds_toArray, List.set_cons_succ, List.set_cons_zero]
  clear hK K
  refine takeK 8 rfl (by kernel_rfl) (by kernel_rfl) (by kernel_rfl) rfl (fun _ _ _ _ h => h) rfl (fun K hK => ?_)
  go_big_quiet_op
  first | refine hK _ ?_ | refine ⟨_, fun _ _ => rfl, hK _ ?_⟩
  clear hK K
  refine takeK 9 rfl (by kernel_rfl) (by kernel_rfl) (by kernel_rfl) rfl (fun _ _ _ _ h => h) rfl (fun K hK => ?_)
  refine quiet_cell _ _ rfl _ rfl _ _ Try.underlying23 rfl (fun W' h => KeepB.cell h HK38.out rfl) ?_
  refine hK _ ?_
  simp only [Act.put, List.setIfInBounds_toArray, List.set_cons_succ, List.set_cons_zero]
  clear hK K
  refine takeK 12 rfl (by kernel_rfl) (by kernel_rfl) (by kernel_rfl) rfl (fun _ _ _ _ h => h) rfl (fun K hK => ?_)
  go_big_quiet_op
  first | refine hK _ ?_ | refine ⟨_, fun _ _ => rfl, hK _ ?_⟩
  clear hK K
  refine takeK 13 rfl (by kernel_rfl) (by kernel_rfl) (by kernel_rfl) rfl (fun _ _ _ _ h => h) rfl (fun K hK => ?_)
  refine quiet_agg 48 (.tmp 17) rfl _ rfl CC _ Try.underlying48 rfl (cond_size HCL.out) (fun W' h => KeepB.cells h HKC.out rfl) ?_
  refine hK _ ?_
  simp only [Act.put, List.setIfInBounds_toArray, List.set_cons_succ, List.set_cons_zero]
  clear hK K
  apply lat4 (fun v9 v10 v15 v16 W => CJ w.heap.size w0 v v16 ((bs ++ [byteOf o.kind]) ++ [o.am, o.id].flatMap (be 8)) [] W)
  intro hM5
  apply lat3 (fun v9 v10 v15 W => CJ w.heap.size w0 v v10 (bs ++ [byteOf o.kind]) [⟨.nat .u64, [o.am, o.id], v15⟩] W)
  intro hM4
  apply lat2 (fun v9 v15 W => CJ w.heap.size w0 v v bs [⟨.u8, [byteOf o.kind], v9⟩, ⟨.nat .u64, [o.am, o.id], v15⟩] W)
  intro hM3
  apply lat2 (fun v9 v10 W => CJ w.heap.size w0 v v10 (bs ++ [byteOf o.kind]) [] W)
  intro hM2
  apply lat1 (fun v15 W => CJ w.heap.size w0 v v bs [⟨.nat .u64, [o.am, o.id], v15⟩] W)
  intro hM1
  apply lat1 (fun v9 W => CJ w.heap.size w0 v v bs [⟨.u8, [byteOf o.kind], v9⟩] W)
  intro hM0
  · have HJ := Lib.hid hJ0
    refine manyM 4 [10] (by kernel_rfl) ⟨oneM rfl rfl (fun K hK => ?_), oneM rfl rfl (fun K hK => ?_), trivial⟩
    · refine HJ.out.mk1 42 (.tmp 8) rfl 5 Try.underlying42 .u8 (byteOf o.kind) _ [Value.int .u8 ((byteOf o.kind).toNat : Int)] rfl (by rw [byteOf_eq]; rfl) (fun _ _ => rfl) u8_size1 u8_zero1 (show 1 ≤ 16777216 by decide) (show 0 < 1 by decide) ?_
      intro v9 W hJ hkb
      have HJ := Lib.hid hJ
      clear hJ
      refine hK _ _ hkb ?_
      clear hK K
      (try simp only [Act.put, List.setIfInBounds_toArray, List.set_cons_succ, List.set_cons_zero])
      exact hM0 v9 _ (HJ.out.sub (by intro x hx; simp only [List.mem_cons, List.not_mem_nil, or_false] at hx; rcases hx with rfl <;> first | exact (.head _)))
    · refine HJ.out.mk2 95 (.tmp 12) (.tmp 14) rfl Try.underlying95 o.am o.id rfl rfl ham hid u64_size1 u64_zero1 ?_
      intro v15 W hJ hkb
      have HJ := Lib.hid hJ
      clear hJ
      refine hK _ _ hkb ?_
      clear hK K
      (try simp only [Act.put, List.setIfInBounds_toArray, List.set_cons_succ, List.set_cons_zero])
      exact hM1 v15 _ (HJ.out.sub (by intro x hx; simp only [List.mem_cons, List.not_mem_nil, or_false] at hx; rcases hx with rfl <;> first | exact (.head _)))
  · intro v9 W hJ
    have HJ := Lib.hid hJ
    clear hJ
    refine manyM 5 [10] (by kernel_rfl) ⟨oneM rfl rfl (fun K hK => ?_), oneM rfl rfl (fun K hK => ?_), trivial⟩
    · go_simp
      refine (HJ.out.one (.head _) (by simp only [List.length_append, List.length_cons, List.length_nil, List.flatMap_cons, List.flatMap_nil, be_length, id]; omega)).mono ?_
      rintro e W ⟨v10, rfl, hJ, hkb⟩
      have HJ := Lib.hid hJ
      clear hJ
      refine hK _ _ hkb ?_
      clear hK K
      exact hM2 v9 v10 _ (HJ.out.sub (by intro x hx; cases hx))
    · refine HJ.out.mk2 95 (.tmp 12) (.tmp 14) rfl Try.underlying95 o.am o.id rfl rfl ham hid u64_size1 u64_zero1 ?_
      intro v15 W hJ hkb
      have HJ := Lib.hid hJ
      clear hJ
      refine hK _ _ hkb ?_
      clear hK K
      (try simp only [Act.put, List.setIfInBounds_toArray, List.set_cons_succ, List.set_cons_zero])
      exact hM3 v9 v15 _ (HJ.out.sub (by intro x hx; simp only [List.mem_cons, List.not_mem_nil, or_false] at hx; rcases hx with rfl | rfl <;> first | exact (.tail _ (.head _)) | exact (.head _)))
  · intro v15 W hJ
    have HJ := Lib.hid hJ
    clear hJ
    refine stepM 4 rfl (by kernel_rfl) rfl (fun K hK => ?_)
    refine HJ.out.mk1 42 (.tmp 8) rfl 5 Try.underlying42 .u8 (byteOf o.kind) _ [Value.int .u8 ((byteOf o.kind).toNat : Int)] rfl (by rw [byteOf_eq]; rfl) (fun _ _ => rfl) u8_size1 u8_zero1 (show 1 ≤ 16777216 by decide) (show 0 < 1 by decide) ?_
    intro v9 W hJ hkb
    have HJ := Lib.hid hJ
    clear hJ
    refine hK _ _ hkb ?_
    clear hK K
    (try simp only [Act.put, List.setIfInBounds_toArray, List.set_cons_succ, List.set_cons_zero])
    exact relist (by kernel_rfl) (hM3 v9 v15 _ (HJ.out.sub (by intro x hx; simp only [List.mem_cons, List.not_mem_nil, or_false] at hx; rcases hx with rfl | rfl <;> first | exact (.head _) | exact (.tail _ (.head _)))))
  · intro v9 v10 W hJ
    have HJ := Lib.hid hJ
    clear hJ
    refine stepM 10 rfl (by kernel_rfl) rfl (fun K hK => ?_)
    refine HJ.out.mk2 95 (.tmp 12) (.tmp 14) rfl Try.underlying95 o.am o.id rfl rfl ham hid u64_size1 u64_zero1 ?_
    intro v15 W hJ hkb
    have HJ := Lib.hid hJ
    clear hJ
    refine hK _ _ hkb ?_
    clear hK K
    (try simp only [Act.put, List.setIfInBounds_toArray, List.set_cons_succ, List.set_cons_zero])
    exact hM4 v9 v10 v15 _ (HJ.out.sub (by intro x hx; simp only [List.mem_cons, List.not_mem_nil, or_false] at hx; rcases hx with rfl <;> first | exact (.head _)))
  · intro v9 v15 W hJ
    have HJ := Lib.hid hJ
    clear hJ
    refine stepM 5 rfl (by kernel_rfl) rfl (fun K hK => ?_)
    go_simp
    refine (HJ.out.one (.head _) (by simp only [List.length_append, List.length_cons, List.length_nil, List.flatMap_cons, List.flatMap_nil, be_length, id]; omega)).mono ?_
    rintro e W ⟨v10, rfl, hJ, hkb⟩
    have HJ := Lib.hid hJ
    clear hJ
    refine hK _ _ hkb ?_
    clear hK K
    exact relist (by kernel_rfl) (hM4 v9 v10 v15 _ (HJ.out.sub (by intro x hx; simp only [List.mem_cons, List.not_mem_nil, or_false] at hx; rcases hx with rfl <;> first | exact (.tail _ (.head _)))))
  · intro v9 v10 v15 W hJ
    have HJ := Lib.hid hJ
    clear hJ
    refine stepM 11 rfl (by kernel_rfl) rfl (fun K hK => ?_)
    go_simp
    refine (HJ.out.eight (.head _) (by simp only [List.length_append, List.length_cons, List.length_nil, List.flatMap_cons, List.flatMap_nil, be_length, id]; omega)).mono ?_
    rintro e W ⟨v16, rfl, hJ, hkb⟩
    have HJ := Lib.hid hJ
    clear hJ
    refine hK _ _ hkb ?_
    clear hK K
    exact hM5 v9 v10 v15 v16 _ (HJ.out.sub (by intro x hx; cases hx))
  intro v9 v10 v15 v16 W hJ
  have HJ := Lib.hid hJ
  clear hJ
  refine stepM 14 rfl (by kernel_rfl) rfl (fun K hK => ?_)
  go_simp
  refine (HCO.out _ _ _ _ _ _ _ HJ.out (by simp only [List.length_append, List.length_cons, List.length_nil, List.flatMap_cons, List.flatMap_nil, be_length, id]; omega)).mono ?_
  rintro e W ⟨v19, rfl, hJ, hkb⟩
  have HJ := Lib.hid hJ
  clear hJ
  refine hK _ _ hkb ?_
  clear hK K
  refine takeK 15 rfl (by kernel_rfl) (by kernel_rfl) (by kernel_rfl) rfl (fun _ _ _ _ h => h) rfl (fun K hK => ?_)
  go_big_quiet_op
  first | refine hK _ ?_ | refine ⟨_, fun _ _ => rfl, hK _ ?_⟩
  clear hK K
  refine doneM (by kernel_rfl) ?_ _
  have ho9 := HJ.out.own
  have hm9 := Moved.pre HX.out HJ.out.mv
  clear HJ
  go_wp2
  go_ret
  exact ⟨_, rfl, by simpa [opB] using ho9, hm9⟩
end Go.Proofs.Ytemladlnpaaefaa

/- Walks and plain laws, put together in build order. Conditions: what each of them names. -/
import Derived.Test.YtmicjaiiinaipaaWc24ab93c2f
set_option linter.unusedVariables false
set_option linter.unusedSimpArgs false
set_option linter.unnecessarySimpa false
namespace Go.Proofs.Ytmicjaiiinaipaa
section
open Go.RowKit

theorem CJ.cond {g : Nat} {w0 w : World} {v0 cur : Value} {bs : List UInt8} {xs : List Item} (c : Cd) (hok : CondOk c) (h : CJ g w0 v0 cur bs xs w) (hb : bs.length ≤ 140737488354304) :
    Calls Try.prog 29 #[cur, .agg (condCells c).toArray] w fun e w' => ∃ v', e = .returned v' ∧ CJ g w0 v0 v' (bs ++ condB c) xs w' ∧ KeepB (fun b => b = g) w w' := by
  refine (LayCond c cur bs w hok h.own hb).mono ?_
  rintro e w' ⟨v', rfl, ho, hm⟩
  exact ⟨v', rfl, h.call ho hm⟩
theorem condB_len {c : Cd} (hok : CondOk c) : (condB c).length = 57 := by simp [condB, be_length, hok.hash]
/-- A wish's bytes. -/
def opB (o : Wish) : List UInt8 := byteOf o.kind :: (be 8 o.am ++ (be 8 o.id ++ condB o.c))
theorem opB_len {o : Wish} (hok : CondOk o.c) : (opB o).length = 74 := by simp [opB, be_length, condB_len hok]
set_option maxRecDepth 100000 in
set_option maxHeartbeats 8000000 in
theorem LayOp (o : Wish) (v : Value) (bs : List UInt8) (w : World) (hok : CondOk o.c) (ham : (Lit.int .u64 (o.am : Int)).wf = true) (hid : (Lit.int .u64 (o.id : Int)).wf = true) (ho : OwnB w v bs) (hb : bs.length ≤ 140737488353280) :
    Calls Try.prog 10 #[v, .agg (wishCells o).toArray] w fun e w' => ∃ v', e = .returned v' ∧ OwnB w' v' (bs ++ opB o) ∧ Moved w w' v v' := by
  have hb0 : Blk (w.alloc (.cells (wishCells o).toArray 49)) w.heap.size 49 (wishCells o) := Blk.new _ _ _
  have hx0 : Ext w (w.alloc (.cells (wishCells o).toArray 49)) := (Ext.refl w).alloc _
  have hne : ∀ b, v.ownBlock = some b → b ≠ w.heap.size := fun b hb e => by have := OwnB.lt ho b hb; omega
  have c38 := wish_38 hok
  have cc : ((wishCells o).drop 2).take 36 = condCells o.c := List.take_left' (condCells_len hok)
  have c0 : (wishCells o)[0]? = some (.int .i64 o.kind) := rfl
  have c1 : (wishCells o)[1]? = some (.int .u64 (o.am : Int)) := rfl
  have hco := fun (g : Nat) (w0 w : World) (v0 cur : Value) (bs : List UInt8) (xs : List Item) (h : CJ g w0 v0 cur bs xs w) hb => CJ.cond o.c hok h hb
  have hcl := condCells_len hok
  generalize condCells o.c = CC at *
  generalize wishCells o = OC at *
  have HCO := Lib.hid hco
  have HCL := Lib.hid hcl
  have HB0 := Lib.hid hb0
  have HX0 := Lib.hid hx0
  have HO := Lib.hid ho
  have HNE := Lib.hid hne
  clear hb0 hx0 ho hne hco hcl
  go_enter Try.func10, Try.ntmps10
  go_wp2
  have hb0 : Blk (w.alloc (.cells OC.toArray 49)).drew w.heap.size 49 OC := HB0.out
  have hx : Ext w (w.alloc (.cells OC.toArray 49)).drew := HX0.out.drew
  refine startM (KeepB fun b => b = w.heap.size) (by kernel_rfl) ?_
  (try simp only [Act.put, List.setIfInBounds_toArray, List.set_cons_succ, List.set_cons_zero])
  generalize (w.alloc (.cells OC.toArray 49)).drew = w0 at *
  have HK0 := Lib.hid ((hb0.cell 0).trans c0)
  have HK1 := Lib.hid ((hb0.cell 1).trans c1)
  have HK38 := Lib.hid ((hb0.cell 38).trans c38)
  have hkc : Cells w0 ⟨w.heap.size, 2, none⟩ CC := by have h := (hb0.cells.drop 2).take 36; rw [cc, addr_at] at h; exact h
  have HKC := Lib.hid hkc
  have hJ0 : CJ w.heap.size w0 v v bs [] w0 := CJ.start hb0.lt (HO.out.ext hx) HNE.out
  have HX := Lib.hid hx
  clear hb0 hx hkc c0 c1 c38 cc
  refine takeK 0 rfl (by kernel_rfl) (by kernel_rfl) (by kernel_rfl) rfl (fun _ _ _ _ h => h) rfl (fun K hK => ?_)
  go_big_quiet_op
  first | refine hK _ ?_ | refine ⟨_, fun _ _ => rfl, hK _ ?_⟩
  clear hK K
  refine takeK 1 rfl (by kernel_rfl) (by kernel_rfl) (by kernel_rfl) rfl (fun _ _ _ _ h => h) rfl (fun K hK => ?_)
  go_big_quiet_op
  first | refine hK _ ?_ | refine ⟨_, fun _ _ => rfl, hK _ ?_⟩
  clear hK K
  refine takeK 2 rfl (by kernel_rfl) (by kernel_rfl) (by kernel_rfl) rfl (fun _ _ _ _ h => h) rfl (fun K hK => ?_)
  refine quiet_cell _ _ rfl _ rfl _ _ Try.underlying3 rfl (fun W' h => KeepB.cell h HK0.out rfl) ?_
  refine hK _ ?_
  simp only [Act.put, List.setIfInBounds_toArray, List.set_cons_succ, List.set_cons_zero]
  clear hK K
  refine takeK 3 rfl (by kernel_rfl) (by kernel_rfl) (by kernel_rfl) rfl (fun _ _ _ _ h => h) rfl (fun K hK => ?_)
  go_big_quiet_op
  first | refine hK _ ?_ | refine ⟨_, fun _ _ => rfl, hK _ ?_⟩
  clear hK K
  refine takeK 6 rfl (by kernel_rfl) (by kernel_rfl) (by kernel_rfl) rfl (fun _ _ _ _ h => h) rfl (fun K hK => ?_)
  go_big_quiet_op
  first | refine hK _ ?_ | refine ⟨_, fun _ _ => rfl, hK _ ?_⟩
  clear hK K
  refine takeK 7 rfl (by kernel_rfl) (by kernel_rfl) (by kernel_rfl) rfl (fun _ _ _ _ h => h) rfl (fun K hK => ?_)
  refine quiet_cell _ _ rfl _ rfl _ _ Try.underlying23 rfl (fun W' h => KeepB.cell h HK1.out rfl) ?_
  refine hK _ ?_
  simp only [Act.put, List.setIfInBounds_toArray, List.set_cons_succ, List.set_cons_zero]
  clear hK K
  refine takeK 8 rfl (by kernel_rfl) (by kernel_rfl) (by kernel_rfl) rfl (fun _ _ _ _ h => h) rfl (fun K hK => ?_)
  go_big_quiet_op
  first | refine hK _ ?_ | refine ⟨_, fun _ _ => rfl, hK _ ?_⟩
  clear hK K
  refine takeK 9 rfl (by kernel_rfl) (by kernel_rfl) (by kernel_rfl) rfl (fun _ _ _ _ h => h) rfl (fun K hK => ?_)
  refine quiet_cell _ _ rfl _ rfl _ _ Try.underlying23 rfl (fun W' h => KeepB.cell h HK38.out rfl) ?_
  refine hK _ ?_
  simp only [Act.put, List.setIfInBounds_toArray, List.set_cons_succ, List.set_cons_zero]
  clear hK K
  refine takeK 12 rfl (by kernel_rfl) (by kernel_rfl) (by kernel_rfl) rfl (fun _ _ _ _ h => h) rfl (fun K hK => ?_)
  go_big_quiet_op
  first | refine hK _ ?_ | refine ⟨_, fun _ _ => rfl, hK _ ?_⟩
  clear hK K
  refine takeK 13 rfl (by kernel_rfl) (by kernel_rfl) (by kernel_rfl) rfl (fun _ _ _ _ h => h) rfl (fun K hK => ?_)
  refine quiet_agg 47 (.tmp 17) rfl _ rfl CC _ Try.underlying47 rfl (cond_size HCL.out) (fun W' h => KeepB.cells h HKC.out rfl) ?_
  refine hK _ ?_
  simp only [Act.put, List.setIfInBounds_toArray, List.set_cons_succ, List.set_cons_zero]
  clear hK K
  apply lat4 (fun v9 v10 v15 v16 W => CJ w.heap.size w0 v v16 ((bs ++ [byteOf o.kind]) ++ [o.am, o.id].flatMap (be 8)) [] W)
  intro hM5
  apply lat3 (fun v9 v10 v15 W => CJ w.heap.size w0 v v10 (bs ++ [byteOf o.kind]) [⟨.nat .u64, [o.am, o.id], v15⟩] W)
  intro hM4
  apply lat2 (fun v9 v15 W => CJ w.heap.size w0 v v bs [⟨.u8, [byteOf o.kind], v9⟩, ⟨.nat .u64, [o.am, o.id], v15⟩] W)
  intro hM3
  apply lat2 (fun v9 v10 W => CJ w.heap.size w0 v v10 (bs ++ [byteOf o.kind]) [] W)
  intro hM2
  apply lat1 (fun v15 W => CJ w.heap.size w0 v v bs [⟨.nat .u64, [o.am, o.id], v15⟩] W)
  intro hM1
  apply lat1 (fun v9 W => CJ w.heap.size w0 v v bs [⟨.u8, [byteOf o.kind], v9⟩] W)
  intro hM0
  · have HJ := Lib.hid hJ0
    refine anyofM 4 [10] (by kernel_rfl) ⟨oneM rfl rfl (fun K hK => ?_), oneM rfl rfl (fun K hK => ?_), trivial⟩
    · refine HJ.out.mk1 35 (.tmp 8) rfl 5 Try.underlying35 .u8 (byteOf o.kind) _ [Value.int .u8 ((byteOf o.kind).toNat : Int)] rfl (by rw [byteOf_eq]; rfl) (fun _ _ => rfl) u8_sizeU u8_zeroU (show 1 ≤ 16777216 by decide) (show 0 < 1 by decide) ?_
      intro v9 W hJ hkb
      have HJ := Lib.hid hJ
      clear hJ
      refine hK _ _ hkb ?_
      clear hK K
      (try simp only [Act.put, List.setIfInBounds_toArray, List.set_cons_succ, List.set_cons_zero])
      exact hM0 v9 _ (HJ.out.sub (by intro x hx; simp only [List.mem_cons, List.not_mem_nil, or_false] at hx; rcases hx with rfl <;> first | exact (.head _)))
    · refine HJ.out.mk2 121 (.tmp 12) (.tmp 14) rfl Try.underlying121 o.am o.id rfl rfl ham hid u64_size1 u64_zero1 ?_
      intro v15 W hJ hkb
      have HJ := Lib.hid hJ
      clear hJ
      refine hK _ _ hkb ?_
      clear hK K
      (try simp only [Act.put, List.setIfInBounds_toArray, List.set_cons_succ, List.set_cons_zero])
      exact hM1 v15 _ (HJ.out.sub (by intro x hx; simp only [List.mem_cons, List.not_mem_nil, or_false] at hx; rcases hx with rfl <;> first | exact (.head _)))
  · intro v9 W hJ
    have HJ := Lib.hid hJ
    clear hJ
    refine anyofM 5 [10] (by kernel_rfl) ⟨oneM rfl rfl (fun K hK => ?_), oneM rfl rfl (fun K hK => ?_), trivial⟩
    · go_simp
      refine (HJ.out.one (.head _) (by simp only [List.length_append, List.length_cons, List.length_nil, List.flatMap_cons, List.flatMap_nil, be_length, id]; omega)).mono ?_
      rintro e W ⟨v10, rfl, hJ, hkb⟩
      have HJ := Lib.hid hJ
      clear hJ
      refine hK _ _ hkb ?_
      clear hK K
      exact hM2 v9 v10 _ (HJ.out.sub (by intro x hx; cases hx))
    · refine HJ.out.mk2 121 (.tmp 12) (.tmp 14) rfl Try.underlying121 o.am o.id rfl rfl ham hid u64_size1 u64_zero1 ?_
      intro v15 W hJ hkb
      have HJ := Lib.hid hJ
      clear hJ
      refine hK _ _ hkb ?_
      clear hK K
      (try simp only [Act.put, List.setIfInBounds_toArray, List.set_cons_succ, List.set_cons_zero])
      exact hM3 v9 v15 _ (HJ.out.sub (by intro x hx; simp only [List.mem_cons, List.not_mem_nil, or_false] at hx; rcases hx with rfl | rfl <;> first | exact (.tail _ (.head _)) | exact (.head _)))
  · intro v15 W hJ
    have HJ := Lib.hid hJ
    clear hJ
    refine stepM 4 rfl (by kernel_rfl) rfl (fun K hK => ?_)
    refine HJ.out.mk1 35 (.tmp 8) rfl 5 Try.underlying35 .u8 (byteOf o.kind) _ [Value.int .u8 ((byteOf o.kind).toNat : Int)] rfl (by rw [byteOf_eq]; rfl) (fun _ _ => rfl) u8_sizeU u8_zeroU (show 1 ≤ 16777216 by decide) (show 0 < 1 by decide) ?_
    intro v9 W hJ hkb
    have HJ := Lib.hid hJ
    clear hJ
    refine hK _ _ hkb ?_
    clear hK K
    (try simp only [Act.put, List.setIfInBounds_toArray, List.set_cons_succ, List.set_cons_zero])
    exact relist (by kernel_rfl) (hM3 v9 v15 _ (HJ.out.sub (by intro x hx; simp only [List.mem_cons, List.not_mem_nil, or_false] at hx; rcases hx with rfl | rfl <;> first | exact (.head _) | exact (.tail _ (.head _)))))
  · intro v9 v10 W hJ
    have HJ := Lib.hid hJ
    clear hJ
    refine stepM 10 rfl (by kernel_rfl) rfl (fun K hK => ?_)
    refine HJ.out.mk2 121 (.tmp 12) (.tmp 14) rfl Try.underlying121 o.am o.id rfl rfl ham hid u64_size1 u64_zero1 ?_
    intro v15 W hJ hkb
    have HJ := Lib.hid hJ
    clear hJ
    refine hK _ _ hkb ?_
    clear hK K
    (try simp only [Act.put, List.setIfInBounds_toArray, List.set_cons_succ, List.set_cons_zero])
    exact hM4 v9 v10 v15 _ (HJ.out.sub (by intro x hx; simp only [List.mem_cons, List.not_mem_nil, or_false] at hx; rcases hx with rfl <;> first | exact (.head _)))
  · intro v9 v15 W hJ
    have HJ := Lib.hid hJ
    clear hJ
    refine stepM 5 rfl (by kernel_rfl) rfl (fun K hK => ?_)
    go_simp
    refine (HJ.out.one (.head _) (by simp only [List.length_append, List.length_cons, List.length_nil, List.flatMap_cons, List.flatMap_nil, be_length, id]; omega)).mono ?_
    rintro e W ⟨v10, rfl, hJ, hkb⟩
    have HJ := Lib.hid hJ
    clear hJ
    refine hK _ _ hkb ?_
    clear hK K
    exact relist (by kernel_rfl) (hM4 v9 v10 v15 _ (HJ.out.sub (by intro x hx; simp only [List.mem_cons, List.not_mem_nil, or_false] at hx; rcases hx with rfl <;> first | exact (.tail _ (.head _)))))
  · intro v9 v10 v15 W hJ
    have HJ := Lib.hid hJ
    clear hJ
    refine stepM 11 rfl (by kernel_rfl) rfl (fun K hK => ?_)
    go_simp
    refine (HJ.out.eight (.head _) (by simp only [List.length_append, List.length_cons, List.length_nil, List.flatMap_cons, List.flatMap_nil, be_length, id]; omega)).mono ?_
    rintro e W ⟨v16, rfl, hJ, hkb⟩
    have HJ := Lib.hid hJ
    clear hJ
    refine hK _ _ hkb ?_
    clear hK K
    exact hM5 v9 v10 v15 v16 _ (HJ.out.sub (by intro x hx; cases hx))
  intro v9 v10 v15 v16 W hJ
  have HJ := Lib.hid hJ
  clear hJ
  refine stepM 14 rfl (by kernel_rfl) rfl (fun K hK => ?_)
  go_simp
  refine (HCO.out _ _ _ _ _ _ _ HJ.out (by simp only [List.length_append, List.length_cons, List.length_nil, List.flatMap_cons, List.flatMap_nil, be_length, id]; omega)).mono ?_
  rintro e W ⟨v19, rfl, hJ, hkb⟩
  have HJ := Lib.hid hJ
  clear hJ
  refine hK _ _ hkb ?_
  clear hK K
  refine takeK 15 rfl (by kernel_rfl) (by kernel_rfl) (by kernel_rfl) rfl (fun _ _ _ _ h => h) rfl (fun K hK => ?_)
  go_big_quiet_op
  first | refine hK _ ?_ | refine ⟨_, fun _ _ => rfl, hK _ ?_⟩
  clear hK K
  refine doneM (by kernel_rfl) ?_ _
  have ho9 := HJ.out.own
  have hm9 := Moved.pre HX.out HJ.out.mv
  clear HJ
  go_wp2
  go_ret
  exact ⟨_, rfl, by simpa [opB] using ho9, hm9⟩
end
section
open Go.RowKit

section
variable {P : Program} (w : World)
/-- '[]T{x}' where x is a struct or an array. -/
theorem wp_one {o : Oper} {a : Act} {K : Act → World → Prop} {Q : Exit → Act → World → Prop} (t : TypeId) (x : Operand) (ho : o.op = .buildSlice t 1 #[(0, x)])
    (e : TypeId) (cs : List Value) (ht : P.underlying t = some (.slice e)) (hx : a.eval x = .agg cs.toArray) (hi : (P.info? e).map (·.size) = some cs.length) (hz : ((P.info? e).bind (·.zero)).isSome = true) (hl : cs.length ≤ 16777216) (hn : 0 < cs.length)
    (h : K (a.put o.dst (.slice (some ⟨w.heap.size, 0, none⟩) 1 1)) (w.alloc (.cells cs.toArray e))) : o.wp P a w K Q := by
    obtain ⟨i, hi', hs⟩ := Option.map_eq_some_iff.1 hi
    rw [hi', Option.bind_some] at hz
    obtain ⟨z, hz⟩ := Option.isSome_iff_exists.1 hz
    have hfill : ∀ (c : Array Value), c.size = cs.length → Instr.fill (fun i => some (i * cs.length, cs.length)) c [(0, .agg cs.toArray)] = some cs.toArray := by
      intro c hc
      rw [fill_list _ c 0 (.agg cs.toArray) cs 0 [] rfl (by simp) (by omega)]
      simp only [Instr.fill, List.take_zero, List.nil_append, Nat.zero_add]
      rw [List.drop_eq_nil_of_le (by rw [Array.length_toList]; omega), List.append_nil]
    unfold Oper.wp execOp
    have hrun : (Instr.buildSlice t 1 #[(0, .agg cs.toArray)]).run P w = .ok (.slice (some ⟨w.heap.size, 0, none⟩) 1 1) (w.alloc (.cells cs.toArray e)) := by
      unfold Instr.buildSlice
      simp only [Sem.run_bind, run_underlying ht, Result.andThen_ok, sizeOf, typeInfo, run_program, hi', Sem.run_pure, hs, Nat.one_mul]
      rw [if_neg (by omega)]
      have h0 : ¬ cs.length = 0 := by omega
      simp only [h0, if_false, Sem.run_bind, Sem.run_pure, Result.andThen_ok, zeroValue, typeInfo, run_program, hi', hz]
      have := hfill ((Array.range cs.length).map fun x => z.cells[x % z.cells.size]!) (by simp)
      simp only [this]
      simp [newRow]
    simp only [ho, List.map_toArray, List.map_cons, List.map_nil, hx, Sem.run_bind, hrun, Result.andThen_ok, Sem.run_pure]
    exact h
end
end
section
open Go.RowKit

section
variable {P : Program}
theorem run_isAgg {t : TypeId} {d : TypeDesc} (hu : P.underlying t = some d) (w : World) : (isAgg t).run P w = .ok (isAggD d) w := by
  unfold isAgg
  rw [Sem.run_bind, run_underlying hu w]
  cases d <;> simp [isAggD]
theorem run_field_agg (t : TypeId) (n off m : Nat) (cs piece : List Value) (w : World)
    (hf : ∃ fields f d, P.underlying t = some (.struct fields) ∧ fields[n]? = some f ∧ f.offset = off ∧ P.underlying f.type = some d ∧ isAggD d = true ∧ (P.info? f.type).map (·.size) = some m)
    (hp : (cs.drop off).take m = piece) : (Instr.field t (.agg cs.toArray) n).run P w = .ok (.agg piece.toArray) w := by
  obtain ⟨fields, f, d, hu, hf, rfl, hd, ha, hi⟩ := hf
  obtain ⟨i, hi2, rfl⟩ := Option.map_eq_some_iff.1 hi
  clear hi
  unfold Instr.field
  rw [Sem.run_bind, run_underlying hu w]
  simp only [Result.andThen_ok, hf, asAgg, Sem.run_bind, Sem.run_pure, part, run_isAgg hd, ha, if_true, sizeOf, typeInfo, run_program, hi2]
  rw [← hp]
  simp
theorem run_field_cell (t : TypeId) (n off : Nat) (cs : List Value) (v : Value) (w : World)
    (hf : ∃ fields f d, P.underlying t = some (.struct fields) ∧ fields[n]? = some f ∧ f.offset = off ∧ P.underlying f.type = some d ∧ isAggD d = false)
    (hp : cs[off]? = some v) : (Instr.field t (.agg cs.toArray) n).run P w = .ok v w := by
  obtain ⟨fields, f, d, hu, hf, rfl, hd, ha⟩ := hf
  unfold Instr.field
  rw [Sem.run_bind, run_underlying hu w]
  simp [Result.andThen_ok, hf, asAgg, Sem.run_bind, Sem.run_pure, part, run_isAgg hd, ha, hp]
theorem quiet_field {C : World → Prop} {o : Oper} {a : Act} {K : Act → Prop} (t : TypeId) (x : Operand) (n : Nat) (ho : o.op = .field t x n) (off m : Nat) (cs piece : List Value)
    (hf : ∃ fields f d, P.underlying t = some (.struct fields) ∧ fields[n]? = some f ∧ f.offset = off ∧ P.underlying f.type = some d ∧ isAggD d = true ∧ (P.info? f.type).map (·.size) = some m)
    (hx : a.eval x = .agg cs.toArray) (hp : (cs.drop off).take m = piece) (h : K (a.put o.dst (.agg piece.toArray))) : o.quiet P a C K :=
  quiet_run _ (fun w _ => by
    unfold execOp
    simp only [ho, hx, Sem.run_bind, run_field_agg t n off m cs piece w hf hp, Result.andThen_ok, Sem.run_pure]) h
theorem quiet_fieldCell {C : World → Prop} {o : Oper} {a : Act} {K : Act → Prop} (t : TypeId) (x : Operand) (n : Nat) (ho : o.op = .field t x n) (off : Nat) (cs : List Value) (v : Value)
    (hf : ∃ fields f d, P.underlying t = some (.struct fields) ∧ fields[n]? = some f ∧ f.offset = off ∧ P.underlying f.type = some d ∧ isAggD d = false)
    (hx : a.eval x = .agg cs.toArray) (hp : cs[off]? = some v) (h : K (a.put o.dst v)) : o.quiet P a C K :=
  quiet_run _ (fun w _ => by
    unfold execOp
    simp only [ho, hx, Sem.run_bind, run_field_cell t n off cs v w hf hp, Result.andThen_ok, Sem.run_pure]) h
theorem wpList_field {w : World} {ops : Array Oper} {rest : List Oper} {o : Oper} {a : Act} {Q : Exit → Act → World → Prop} (hgd : o.guard = none ∨ Region.wanted o (yielded ops a.tmps) = true) (t : TypeId) (x : Operand) (n : Nat) (ho : o.op = .field t x n) (off m : Nat) (cs piece : List Value)
    (hf : ∃ fields f d, P.underlying t = some (.struct fields) ∧ fields[n]? = some f ∧ f.offset = off ∧ P.underlying f.type = some d ∧ isAggD d = true ∧ (P.info? f.type).map (·.size) = some m)
    (hx : a.eval x = .agg cs.toArray) (hp : (cs.drop off).take m = piece) (h : wpList P ops Q rest (a.put o.dst (.agg piece.toArray)) w) : wpList P ops Q (o :: rest) a w :=
  wpList_want hgd fun K hK => by
    unfold Oper.wp execOp
    simp only [ho, hx, Sem.run_bind, run_field_agg t n off m cs piece w hf hp, Result.andThen_ok, Sem.run_pure]
    exact hK _ _ h
theorem wpList_fieldCell {w : World} {ops : Array Oper} {rest : List Oper} {o : Oper} {a : Act} {Q : Exit → Act → World → Prop} (hgd : o.guard = none ∨ Region.wanted o (yielded ops a.tmps) = true) (t : TypeId) (x : Operand) (n : Nat) (ho : o.op = .field t x n) (off : Nat) (cs : List Value) (v : Value)
    (hf : ∃ fields f d, P.underlying t = some (.struct fields) ∧ fields[n]? = some f ∧ f.offset = off ∧ P.underlying f.type = some d ∧ isAggD d = false)
    (hx : a.eval x = .agg cs.toArray) (hp : cs[off]? = some v) (h : wpList P ops Q rest (a.put o.dst v) w) : wpList P ops Q (o :: rest) a w :=
  wpList_want hgd fun K hK => by
    unfold Oper.wp execOp
    simp only [ho, hx, Sem.run_bind, run_field_cell t n off cs v w hf hp, Result.andThen_ok, Sem.run_pure]
    exact hK _ _ h
/-- A load of a whole struct or array, perhaps guarded. -/
theorem wpList_loadG {w : World} {ops : Array Oper} {rest : List Oper} {o : Oper} {a : Act} {Q : Exit → Act → World → Prop} (hgd : o.guard = none ∨ Region.wanted o (yielded ops a.tmps) = true) (ty : TypeId) (x : Operand) (ho : o.op = .load ty x) (ad : Addr) (hx : a.eval x = .pointer (some ad)) (cs : List Value) (d : TypeDesc) (hu : P.underlying ty = some d) (hd : isAggD d = true) (hi : (P.info? ty).map (·.size) = some cs.length) (hc : Cells w ad cs)
    (h : wpList P ops Q rest (a.put o.dst (.agg cs.toArray)) w) : wpList P ops Q (o :: rest) a w :=
  wpList_want hgd fun K hK => by
    unfold Oper.wp execOp
    simp only [ho, hx, Instr.loadAt, Instr.sureAddr, Sem.run_bind, Sem.run_pure, Result.andThen_ok, run_load_agg w ty ad cs d hu hd hi hc]
    exact hK _ _ h
/-- A load of one cell. -/
theorem wpList_cell {w : World} {ops : Array Oper} {rest : List Oper} {o : Oper} {a : Act} {Q : Exit → Act → World → Prop} (hgd : o.guard = none ∨ Region.wanted o (yielded ops a.tmps) = true) (ty : TypeId) (x : Operand) (ho : o.op = .load ty x) (ad : Addr) (hx : a.eval x = .pointer (some ad)) (v : Value) (d : TypeDesc) (hu : P.underlying ty = some d) (hd : isAggD d = false) (hc : w.cell? ad = some v)
    (h : wpList P ops Q rest (a.put o.dst v) w) : wpList P ops Q (o :: rest) a w :=
  wpList_want hgd fun K hK => by
    unfold Oper.wp execOp
    simp only [ho, hx, Sem.run_bind, run_load_one ty ad v d hu hd hc, Sem.run_pure, Result.andThen_ok]
    exact hK _ _ h
end
end
section
open Go.RowKit

def stc (s : St) (v : Value) : List Value := [.int .u32 (s.chan : Int), .int .u64 (s.round : Int), .int .u64 (s.m0 : Int), .int .u64 (s.m1 : Int), .int .u64 (s.t0 : Int), .int .u64 (s.t1 : Int), v]
def zst : List Value := [.int .u32 0, .int .u64 0, .int .u64 0, .int .u64 0, .int .u64 0, .int .u64 0, .slice none 0 0]
theorem stc_one (s : St) (A : Option Addr) (n c : Nat) : ∀ u ∈ stc s (.slice A n c), u.oneCell' = true := by
  intro u hu
  simp only [stc, List.mem_cons, List.not_mem_nil, or_false] at hu
  rcases hu with rfl | rfl | rfl | rfl | rfl | rfl | rfl <;> rfl
theorem szSTo {n : Nat} (h : n = 7) : (Try.prog.info? 40).map (·.size) = some n := by subst h; kernel_rfl
theorem szCTo {n : Nat} (h : n = 36) : (Try.prog.info? 30).map (·.size) = some n := by subst h; kernel_rfl
theorem szDTo {n : Nat} (h : n = 36) : (Try.prog.info? 47).map (·.size) = some n := by subst h; kernel_rfl
theorem zSTo : (Try.prog.info? 40).bind (fun i => i.zero.map (·.cells)) = some zst.toArray := by kernel_rfl
theorem zCTo : (Try.prog.info? 30).bind (fun i => i.zero.map (·.cells)) = some (condCells (0, 0, 0, List.replicate 32 0, 0, ())).toArray := by kernel_rfl
theorem zDTo : ((Try.prog.info? 47).bind (·.zero)).isSome = true := by kernel_rfl
theorem bytesTo : (Try.prog.info? 47).map (fun i => (i.zero.map (·.cells.size), i.size, i.bytes)) = some (some 36, 36, 64) := by kernel_rfl
theorem partsTo : ∃ (i : TypeInfo) (z : Value), Try.prog.info? 47 = some i ∧ i.zero = some z ∧ i.size = 36 ∧ i.bytes = 64 ∧ z.cells.size = 36 := by
  obtain ⟨i, hi, h⟩ := Option.map_eq_some_iff.1 bytesTo
  simp only [Prod.mk.injEq] at h
  obtain ⟨h1, h2, h3⟩ := h
  obtain ⟨z, hz, hz2⟩ := Option.map_eq_some_iff.1 h1
  exact ⟨i, z, hi, hz, h2, h3, hz2⟩
theorem Own.lt'To {w : World} {v : Value} {n : Nat} {xs : List Value} {e : TypeId} {size : Nat} (h : Own w e size v n xs) : ∀ g, v.ownBlock = some g → g < w.heap.size := fun g hg => (World.ownsRow.lt h g hg).2
def OwnTo (w : World) (v : Value) (cs : List Cd) : Prop := (∀ c ∈ cs, CondOk c) ∧ Own w 47 36 v (List.length (α := Cd) cs) (cs.flatMap condCells)
set_option maxRecDepth 100000 in
set_option maxHeartbeats 2000000 in
theorem To12 (s : St) (v : Value) (w : World) (F : Fp) (hc : Conds w F v s.cs) (hF : ∀ b, F b → b < w.heap.size) (hlen : List.length (α := Cd) s.cs ≤ 1099511627776) :
    Calls Try.prog 8 #[.agg (stc s v).toArray] w fun e w' => ∃ v', e = .returned (.agg (stc s v').toArray) ∧ OwnTo w' v' s.cs ∧ Ext w w' ∧ ∀ b, v'.ownBlock = some b → w.heap.size ≤ b := by
  obtain ⟨i1, z1, hi1, hz1, hi2, hi3, hi4⟩ := partsTo
  obtain ⟨cs, hcs⟩ : ∃ cs, cs = s.cs := ⟨_, rfl⟩
  rw [← hcs] at hc hlen ⊢
  have HCS := Lib.hid hcs
  clear hcs
  obtain ⟨A, c, xs, rfl, hlc, hcm, hA, hcell, hall⟩ := conds_open hc
  clear hc
  unfold maxLen at hcm
  have hz := zSTo
  have hzl : zst.length = 7 := rfl
  generalize hZE : zst = Z at hz hzl
  have hzc := zCTo
  have hzcl : (condCells (0, 0, 0, List.replicate 32 0, 0, ())).length = 36 := rfl
  generalize condCells (0, 0, 0, List.replicate 32 0, 0, ()) = ZC at hzc hzcl
  have HZL := Lib.hid hzl
  have HZCL := Lib.hid hzcl
  clear hzl hzcl
  show Calls _ _ #[stv s (.slice A (List.length (α := Cd) cs) c)] w _
  go_enter Try.func8, Try.ntmps8
  go_wp2_with (first
    | (refine wpList_alloc _ rfl 40 rfl _ hz ?_)
    | (refine wpList_build (.inl rfl) 40 _ rfl (.agg (stc s (.slice none 0 0)).toArray) (by kernel_rfl) ?_)
    | (refine wpList_store_new _ rfl 40 (.tmp 3) (.tmp 14) rfl rfl Z (stc s (.slice none 0 0)) _ rfl (szSTo rfl) (by rw [HZL.out]; rfl) (stc_one _ _ _ _) ?_)
    | fail)
  have hx0 : Ext w (((w.alloc (.cells (stc s (.slice A (List.length (α := Cd) cs) c)).toArray 27)).alloc (.cells Z.toArray 40)).alloc (.cells (stc s (.slice none 0 0)).toArray 40)) := (((Ext.refl w).alloc _).alloc _).alloc _
  have hb2 : Blk (((w.alloc (.cells (stc s (.slice A (List.length (α := Cd) cs) c)).toArray 27)).alloc (.cells Z.toArray 40)).alloc (.cells (stc s (.slice none 0 0)).toArray 40)) (w.heap.size + 1) 40 Z := (Blk.new_at (by simp) _ _).keep ((Ext.refl _).alloc _) (by simp)
  have hb3 : Blk (((w.alloc (.cells (stc s (.slice A (List.length (α := Cd) cs) c)).toArray 27)).alloc (.cells Z.toArray 40)).alloc (.cells (stc s (.slice none 0 0)).toArray 40)) (w.heap.size + 2) 40 (stc s (.slice none 0 0)) := Blk.new_at (by simp) _ _
  have HX0 := Lib.hid hx0
  have HB2 := Lib.hid hb2
  have HB3 := Lib.hid hb3
  clear hx0 hb2 hb3
  go_loopw [5, 18] (fun p i wr => ∃ k : Nat, k ≤ List.length (α := Cd) cs ∧ i = .int .i64 k ∧ Ext w wr ∧ Blk wr (w.heap.size + 1) 40 Z ∧ (∃ v, Blk wr (w.heap.size + 2) 40 (stc s v) ∧ OwnTo wr v (cs.take k) ∧ ∀ b, v.ownBlock = some b → w.heap.size + 3 ≤ b) ∧ ∃ q, p = q) (fun _ i _ => List.length (α := Cd) cs - (intOf i).toNat)
  case atStart => exact ⟨0, by omega, rfl, HX0.out, HB2.out, ⟨.slice none 0 0, HB3.out, ⟨by simp, by simpa using Own.nil _ _ _⟩, by simp [Value.ownBlock]⟩, _, rfl⟩
  case round =>
    clear HX0 HB2 HB3
    obtain ⟨k, hk, rfl, hx, hb2, ⟨v, hb3, ho, hap⟩, q, rfl⟩ := hrel
    by_cases hlt : k < List.length (α := Cd) cs
    · obtain ⟨ad, rfl, hf, hcells⟩ := hcell (by omega)
      obtain ⟨hcc, hok⟩ := conds_at hall (hcells.keep (hx.same hF _ hf)) hlt
      have htk : cs.take (k + 1) = cs.take k ++ [cs[k]] := List.take_succ_eq_append_getElem hlt
      have hltk : List.length (α := Cd) (cs.take k) = k := by simp; omega
      generalize hck : cs[k] = ck at *
      have HCL := Lib.hid (condCells_len hok)
      have hone := condCells_one ck
      have hconv := fun W => To10 ck W hok
      have HHOK := Lib.hid hok
      generalize hCE : condCells ck = C at *
      have HCE := Lib.hid hCE
      have HTK := Lib.hid htk
      have HLTK := Lib.hid hltk
      have HCONV := Lib.hid hconv
      have HX := Lib.hid hx
      have HB2 := Lib.hid hb2
      have HB3 := Lib.hid hb3
      have HO := Lib.hid ho
      have HAP := Lib.hid hap
      have HOT := Lib.hid ho.1
      obtain ⟨Av, cv, hv⟩ := ho.2.form
      rw [hltk] at hv
      subst hv
      clear hx hb2 hb3 ho hap hck hok hcells hCE htk hltk hconv
      go_wp2_with (first
        | (refine wpList_load_agg _ rfl 30 (.tmp 20) rfl _ rfl C _ Try.underlying30 rfl (szCTo HCL.out) hcc ?_)
        | (refine wpList_alloc _ rfl 30 rfl _ hzc ?_)
        | (refine wpList_store_new _ rfl 30 (.tmp 5) (.tmp 21) rfl rfl ZC C _ rfl (szCTo HCL.out) (by rw [HCL.out, HZCL.out]) hone ?_)
        | fail)
      have hxw : Ext wr (wr.alloc (.cells C.toArray 30)).drew := ((Ext.refl wr).alloc _).drew
      have hb5 : Blk (wr.alloc (.cells C.toArray 30)).drew wr.heap.size 30 C := Blk.new wr _ _
      have hg5 : w.heap.size + 3 ≤ wr.heap.size := by have := HB3.out.lt; omega
      have hgo : some wr.heap.size ≠ (Value.slice Av k cv).ownBlock := fun e => by have := (Own.lt'To HO.out.2 _ e.symm); omega
      have HG5 := Lib.hid hgo
      clear hgo
      refine startL 7 (KeepB fun b => b = w.heap.size + 2 ∨ b = wr.heap.size) (by kernel_rfl) ?_
      (try simp only [Act.put, List.setIfInBounds_toArray, List.set_cons_succ, List.set_cons_zero])
      generalize (wr.alloc (.cells C.toArray 30)).drew = w0 at *
      generalize wr.heap.size = g5 at *
      have hb2 := HB2.out.keep hxw (by simp)
      have hb3 := HB3.out.keep hxw (by simp)
      have ho := HO.out.2.ext hxw
      have hx0 := HX.out.trans hxw
      have c6 := hb3.cell 6
      have HB0 := Lib.hid hb2
      have HB5 := Lib.hid hb5
      have HBS := Lib.hid hb3
      have HX0 := Lib.hid hx0
      have HOW := Lib.hid ho
      have HC6 := Lib.hid c6
      have hsz5 : g5 < w0.heap.size := hb5.lt
      have hne3 : ∀ b, some b = (Value.slice Av k cv).ownBlock → b ≠ w.heap.size + 2 ∧ b ≠ w.heap.size + 1 := fun b hb => by have := HAP.out b hb.symm; omega
      have HNE3 := Lib.hid hne3
      clear hb2 hb5 hb3 hx0 ho c6 hxw HB2 HB3 HX HO hne3
      refine takeN (fun _ _ _ => rfl) 0 rfl (by kernel_rfl) (by kernel_rfl) (by kernel_rfl) rfl (fun _ _ _ _ h => h) rfl (fun K hK => ?_)
      go_big_quiet_op
      first | refine hK _ ?_ | refine ⟨_, fun _ _ => rfl, hK _ ?_⟩
      clear hK K
      refine takeL (fun _ _ _ => rfl) (fun _ _ _ h1 h2 b hb => (h2 b hb).trans (h1 b hb)) 1 [7] rfl (by kernel_rfl) (by kernel_rfl) (by kernel_rfl) (by kernel_rfl) rfl (fun _ _ _ _ h => h) rfl (fun K hK => ?_)
      refine quiet_cell _ _ rfl _ rfl _ _ Try.underlying38 rfl (fun W' h => KeepB.cell h (HC6.out.trans rfl) (by simp)) ?_
      refine hK _ ?_
      simp only [Act.put, List.setIfInBounds_toArray, List.set_cons_succ, List.set_cons_zero]
      clear hK K
      refine takeL (fun _ _ _ => rfl) (fun _ _ _ h1 h2 b hb => (h2 b hb).trans (h1 b hb)) 2 [7] rfl (by kernel_rfl) (by kernel_rfl) (by kernel_rfl) (by kernel_rfl) rfl (fun _ _ _ _ h => h) rfl (fun K hK => ?_)
      refine quiet_agg 30 (.tmp 5) rfl _ rfl C _ Try.underlying30 rfl (szCTo HCL.out) (fun W' h => KeepB.cells h HB5.out.cells (by simp)) ?_
      refine hK _ ?_
      simp only [Act.put, List.setIfInBounds_toArray, List.set_cons_succ, List.set_cons_zero]
      clear hK K
      refine stepL 3 rfl (by kernel_rfl) rfl (fun K hK => ?_)
      go_simp
      refine (HCONV.out _).mono ?_
      rintro e w5 ⟨rfl, hx5⟩
      refine hK _ _ (fun _ b hb => hx5.block b (by have h1 := HBS.out.lt; rcases hb with rfl | rfl <;> omega) (by simp)) ?_
      clear hK K
      refine stepL 4 rfl (by kernel_rfl) rfl (fun K hK => ?_)
      refine wp_one w5 38 (.tmp 25) rfl 47 C Try.underlying38 rfl (szDTo HCL.out) zDTo (by rw [HCL.out]; decide) (by rw [HCL.out]; decide) ?_
      refine hK _ _ (fun _ b hb => ((Ext.refl w5).alloc _).block b (by have h1 := HBS.out.lt; have h2 := hx5.size; rcases hb with rfl | rfl <;> omega) (by simp)) ?_
      clear hK K
      (try simp only [Act.put, List.setIfInBounds_toArray, List.set_cons_succ, List.set_cons_zero])
      refine stepL 5 rfl (by kernel_rfl) rfl (fun K hK => ?_)
      refine wp_app _ (.tmp 23) (.tmp 26) _ _ rfl 47 47 i1 z1 36 64 Try.underlying38 Try.underlying38 hi1 hz1 hi2 hi3 hi4 (by decide) _ _ _ rfl ((HOW.out.ext hx5).ext ((Ext.refl w5).alloc _)) _ 1 1 C rfl (by rw [HCL.out]) (src_new_at rfl C _ 1) hone (by rw [HLTK.out]; unfold maxLen; omega) (by rw [HLTK.out]; omega) ?_
      intro v7 w7 ho7 hm7
      have hbs7 : Blk w7 (w.heap.size + 2) 40 (stc s (.slice Av k cv)) := (HBS.out.keep (hx5.trans ((Ext.refl w5).alloc _)) (by simp)).keep hm7.grown (fun e => (HNE3.out _ e).1 rfl)
      have hb27 : Blk w7 (w.heap.size + 1) 40 Z := (HB0.out.keep (hx5.trans ((Ext.refl w5).alloc _)) (by simp)).keep hm7.grown (fun e => (HNE3.out _ e).2 rfl)
      have HBS7 := Lib.hid hbs7
      have HB27 := Lib.hid hb27
      rw [HLTK.out] at ho7
      obtain ⟨A7, c7, hv7⟩ := Own.form ho7
      subst hv7
      clear hbs7 hb27
      refine hK _ _ (fun _ b hb => hm7.grown.block b (by have h1 := HBS.out.lt; have h2 := hx5.size; simp; rcases hb with rfl | rfl <;> omega) (fun e => by have h9 := HNE3.out b e; exact hb.elim h9.1 (fun hb => by rw [hb] at e; exact HG5.out e))) ?_
      clear hK K
      (try simp only [Act.put, List.setIfInBounds_toArray, List.set_cons_succ, List.set_cons_zero])
      refine takeN (fun _ _ _ => rfl) 6 rfl (by kernel_rfl) (by kernel_rfl) (by kernel_rfl) rfl (fun _ _ _ _ h => h) rfl (fun K hK => ?_)
      go_big_quiet_op
      first | refine hK _ ?_ | refine ⟨_, fun _ _ => rfl, hK _ ?_⟩
      clear hK K
      refine stepL 7 rfl (by kernel_rfl) rfl (fun K hK => ?_)
      have s9 : w7.cell? ⟨w.heap.size + 1 + 1, 6, none⟩ = some (.slice Av k cv) := (HBS7.out.cell 6).trans rfl
      have f9 : w7.frozen? ⟨w.heap.size + 1 + 1, 6, none⟩ = false := HBS7.out.free 6
      go_simp
      refine hK _ _ (fun h => absurd rfl h) ?_
      clear hK K
      refine doneL (by kernel_rfl) ?_ _
      have hb8 := Blk.set (w := w7) HBS7.out 6 (.slice A7 (k + 1) c7)
      have hb28 : Blk (w7.setCell ⟨w.heap.size + 2, 6, none⟩ (.slice A7 (k + 1) c7)) (w.heap.size + 1) 40 Z := HB27.out.keep (only_set 6 _) (by simp)
      have hx8 : Ext w (w7.setCell ⟨w.heap.size + 2, 6, none⟩ (.slice A7 (k + 1) c7)) := grown_then (grown_then (HX0.out.trans (hx5.trans ((Ext.refl w5).alloc _))) hm7.grown (.inr fun g hg => by have := HAP.out g hg; omega)) (only_set 6 _) (.inr (by rintro b ⟨⟩; omega))
      have hap8 : ∀ b, (Value.slice A7 (k + 1) c7).ownBlock = some b → w.heap.size + 3 ≤ b := fun b hb => by
        rcases hm7.at_ with e | h
        · exact HAP.out b (e.symm.trans hb)
        · have h1 := h b hb; have h2 := HX0.out.size; have h3 := hx5.size; have h4 := HBS.out.lt; simp at h1; omega
      have ho8 : Own (w7.setCell ⟨w.heap.size + 2, 6, none⟩ (.slice A7 (k + 1) c7)) 47 36 (.slice A7 (k + 1) c7) (k + 1) ((cs.take k).flatMap condCells ++ C) := ho7.keep (only_set 6 _) (by
        cases hvb : (Value.slice A7 (k + 1) c7).ownBlock with
        | none => exact .inl rfl
        | some b => exact .inr (by have := hap8 b hvb; simp; omega))
      have HB8 := Lib.hid hb8
      have HB28 := Lib.hid hb28
      have HX8 := Lib.hid hx8
      have HAP8 := Lib.hid hap8
      have HO8 := Lib.hid ho8
      clear hb8 hb28 hx8 hap8 ho8 ho7 s9 f9
      go_wp2
      go_roundw
      case rel =>
        refine ⟨k + 1, by omega, by go_num, HX8.out, HB28.out, ⟨.slice A7 (k + 1) c7, ?_, ⟨?_, ?_⟩, HAP8.out⟩, _, rfl⟩
        · have h := HB8.out
          simpa [stc] using h
        · intro c hc
          rw [HTK.out] at hc
          rcases List.mem_append.1 hc with hc | hc
          · exact HOT.out c hc
          · rw [List.mem_singleton.1 hc]; exact HHOK.out
        · have e1 : (cs.take k ++ [ck]).flatMap condCells = (cs.take k).flatMap condCells ++ condCells ck := by simp
          have e2 : List.length (α := Cd) (cs.take k ++ [ck]) = k + 1 := by rw [List.length_append, HLTK.out]; rfl
          rw [HTK.out, e1, e2, HCE.out]
          exact HO8.out
      case measure => simp [intOf]; omega
    · obtain rfl : k = List.length (α := Cd) cs := by omega
      rw [List.take_length] at ho
      obtain ⟨Av, cv, hv⟩ := ho.2.form
      have hone := stc_one s Av (List.length (α := Cd) cs) cv
      rw [← hv] at hone
      have HONE := Lib.hid hone
      have HV := Lib.hid hv
      have HX := Lib.hid hx
      have HO := Lib.hid ho
      have HAP := Lib.hid hap
      have hc3 := hb3.cells
      have hr8 : wr.heap[w.heap.size + 1]? = some (.cells Z.toArray 40 (0, 0)) := hb2
      clear hone hv hx ho hap hb3 hb2
      go_wp2_with (first
        | (refine wpList_load_agg _ rfl 40 (.tmp 3) rfl _ rfl (stc s v) _ Try.underlying40 rfl (szSTo rfl) hc3 ?_)
        | (refine wpList_store_row _ rfl 40 (.tmp 2) (.tmp 30) rfl (w.heap.size + 1) rfl Z (stc s v) _ rfl hr8 (szSTo rfl) (by rw [HZL.out]; rfl) HONE.out ?_)
        | fail)
      have hc9 := Blk.cells (t := 40) (setRow_at (cs' := (stc s v).toArray) hr8)
      (try simp only [Exit.inBlock, Exit.then])
      refine bodyPost_ret (results_agg rfl _ _ _ _ _ rfl Try.underlying40 rfl (szSTo rfl) hc9) rfl ?_
      refine ⟨v, rfl, ⟨HO.out.1, HO.out.2.keep (setRow_only _) ?_⟩, grown_then HX.out (setRow_only _) (.inr (by rintro b ⟨⟩; omega)), fun b hb => by have := HAP.out b hb; omega⟩
      cases hvb : v.ownBlock with
      | none => exact .inl rfl
      | some b => exact .inr (by have := HAP.out b hvb; simp; omega)
end
section
open Go.RowKit

/-- Is it the operation that fills this slot? (Ahead of an arm, 'with_reducible'.) -/
theorem wpDst {P : Program} {w : World} {ops : Array Oper} {rest : List Oper} {o : Oper} {a : Act} {Q : Exit → Act → World → Prop} (n : Nat) (_ : o.dst = some n) (h : wpList P ops Q (o :: rest) a w) : wpList P ops Q (o :: rest) a w := h
/-- Is it the store of this slot at that one? -/
theorem wpSto {P : Program} {w : World} {ops : Array Oper} {rest : List Oper} {o : Oper} {a : Act} {Q : Exit → Act → World → Prop} {ty : TypeId} (p x : Nat) (_ : o.op = .store ty (.tmp p) (.tmp x)) (h : wpList P ops Q (o :: rest) a w) : wpList P ops Q (o :: rest) a w := h
/-- A load of a whole struct or array, named by the slot that it fills. -/
theorem wpList_loadD {P : Program} {w : World} {ops : Array Oper} {rest : List Oper} {o : Oper} {a : Act} {Q : Exit → Act → World → Prop} (dst : Nat) (hdst : o.dst = some dst) (hgd : o.guard = none) (ty : TypeId) (x : Operand) (ho : o.op = .load ty x)
    (ad : Addr) (hx : a.eval x = .pointer (some ad)) (cs : List Value) (d : TypeDesc) (hu : P.underlying ty = some d) (hd : isAggD d = true) (hi : (P.info? ty).map (·.size) = some cs.length) (hc : Cells w ad cs)
    (h : wpList P ops Q rest (a.put o.dst (.agg cs.toArray)) w) : wpList P ops Q (o :: rest) a w := wpList_load_agg w hgd ty x ho ad hx cs d hu hd hi hc h
/-- A store into the variable that was made last. -/
theorem wpList_storeN {P : Program} {w : World} {ops : Array Oper} {rest : List Oper} {o : Oper} {a : Act} {Q : Exit → Act → World → Prop} (hgd : o.guard = none) (ty : TypeId) (p x : Operand) (ho : o.op = .store ty p x)
    (w0 : World) (hp : a.eval p = .pointer (some ⟨w0.heap.size, 0, none⟩)) (old cs : List Value) (t : TypeId) (hw : w = w0.alloc (.cells old.toArray t)) (hx : a.eval x = .agg cs.toArray)
    (hi : (P.info? ty).map (·.size) = some cs.length) (hl : cs.length = old.length) (h1 : ∀ u ∈ cs, u.oneCell' = true)
    (h : wpList P ops Q rest (a.put o.dst undef) (w0.alloc (.cells cs.toArray t))) : wpList P ops Q (o :: rest) a w := by
  subst hw
  refine wpList_store_row _ hgd ty p x ho w0.heap.size hp old cs t hx (heap_alloc_new w0 _) hi hl h1 ?_
  rw [setRow_new w0 (.cells old.toArray t) old.toArray cs.toArray t rfl]
  exact h
end
section
open Go.RowKit

theorem u32_sizeD : (Try.prog.info? 22).map (·.size) = some 1 := by kernel_rfl
theorem u32_zeroD : ((Try.prog.info? 22).bind (·.zero)).isSome = true := by kernel_rfl
theorem wp_fiveL {P : Program} (w : World) {o : Oper} {a : Act} {K : Act → World → Prop} {Q : Exit → Act → World → Prop} (t : TypeId) (x1 x2 x3 x4 x5 : Operand) (ho : o.op = .buildSlice t 5 #[(0, x1), (1, x2), (2, x3), (3, x4), (4, x5)])
    (e : TypeId) (u1 u2 u3 u4 u5 : Value) (ht : P.underlying t = some (.slice e)) (e1 : a.eval x1 = u1) (e2 : a.eval x2 = u2) (e3 : a.eval x3 = u3) (e4 : a.eval x4 = u4) (e5 : a.eval x5 = u5)
    (h1 : u1.cells = #[u1]) (h2 : u2.cells = #[u2]) (h3 : u3.cells = #[u3]) (h4 : u4.cells = #[u4]) (h5 : u5.cells = #[u5]) (hi : (P.info? e).map (·.size) = some 1) (hz : ((P.info? e).bind (·.zero)).isSome = true)
    (h : K (a.put o.dst (.slice (some ⟨w.heap.size, 0, none⟩) 5 5)) (w.alloc (.cells [u1, u2, u3, u4, u5].toArray e))) : o.wp P a w K Q := by
    obtain ⟨i, hi', hs⟩ := Option.map_eq_some_iff.1 hi
    rw [hi', Option.bind_some] at hz
    obtain ⟨z, hz⟩ := Option.isSome_iff_exists.1 hz
    have hfill : ∀ (c : Array Value), c.size = 5 → Instr.fill (fun i => some (i, 1)) c [(0, u1), (1, u2), (2, u3), (3, u4), (4, u5)] = some [u1, u2, u3, u4, u5].toArray := by
      intro c hc
      have hc' : c.toList.length = 5 := by rw [Array.length_toList]; exact hc
      obtain ⟨x0, x1, x2, x3, x4, hx⟩ : ∃ x0 x1 x2 x3 x4, c.toList = [x0, x1, x2, x3, x4] := by
        match hl : c.toList, hc' with
        | [x0, x1, x2, x3, x4], _ => exact ⟨x0, x1, x2, x3, x4, rfl⟩
      rw [fill_list _ c 0 u1 [u1] 0 _ (by simpa using h1) rfl (by simp; omega), hx]
      simp only [List.take_zero, List.nil_append, List.length_singleton, List.drop_succ_cons, List.drop_zero, List.singleton_append]
      rw [fill_list _ _ 1 u2 [u2] 1 _ (by simpa using h2) rfl (by simp)]
      simp only [List.length_singleton, List.take_succ_cons, List.take_zero, List.drop_succ_cons, List.drop_zero, List.cons_append, List.nil_append, List.singleton_append]
      rw [fill_list _ _ 2 u3 [u3] 2 _ (by simpa using h3) rfl (by simp)]
      simp only [List.length_singleton, List.take_succ_cons, List.take_zero, List.drop_succ_cons, List.drop_zero, List.cons_append, List.nil_append, List.singleton_append]
      rw [fill_list _ _ 3 u4 [u4] 3 _ (by simpa using h4) rfl (by simp)]
      simp only [List.length_singleton, List.take_succ_cons, List.take_zero, List.drop_succ_cons, List.drop_zero, List.cons_append, List.nil_append, List.singleton_append]
      rw [fill_list _ _ 4 u5 [u5] 4 _ (by simpa using h5) rfl (by simp)]
      simp [Instr.fill]
    unfold Oper.wp execOp
    have hrun : (Instr.buildSlice t 5 #[(0, u1), (1, u2), (2, u3), (3, u4), (4, u5)]).run P w = .ok (.slice (some ⟨w.heap.size, 0, none⟩) 5 5) (w.alloc (.cells [u1, u2, u3, u4, u5].toArray e)) := by
      unfold Instr.buildSlice
      simp only [Sem.run_bind, run_underlying ht, Result.andThen_ok, sizeOf, typeInfo, run_program, hi', Sem.run_pure, hs, Nat.mul_one]
      rw [if_neg (by omega)]
      simp only [show ¬ (5 = 0) by omega, if_false, Sem.run_bind, Sem.run_pure, Result.andThen_ok, zeroValue, typeInfo, run_program, hi', hz]
      have := hfill ((Array.range 5).map fun x => z.cells[x % z.cells.size]!) (by simp)
      simp only [this]
      simp [newRow]
    simp only [ho, List.map_toArray, List.map_cons, List.map_nil, e1, e2, e3, e4, e5, Sem.run_bind, hrun, Result.andThen_ok, Sem.run_pure]
    exact h
theorem five_holds {W : World} {F : Fp} {a b c d e : Nat} (h1 : (Lit.int .u64 (a : Int)).wf = true) (h2 : (Lit.int .u64 (b : Int)).wf = true) (h3 : (Lit.int .u64 (c : Int)).wf = true) (h4 : (Lit.int .u64 (d : Int)).wf = true) (h5 : (Lit.int .u64 (e : Int)).wf = true) :
    AllH ((Ty.nat .u64).holds W F) [.int .u64 (a : Int), .int .u64 (b : Int), .int .u64 (c : Int), .int .u64 (d : Int), .int .u64 (e : Int)] [a, b, c, d, e] :=
  ⟨[_], _, rfl, ⟨rfl, h1⟩, [_], _, rfl, ⟨rfl, h2⟩, [_], _, rfl, ⟨rfl, h3⟩, [_], _, rfl, ⟨rfl, h4⟩, [_], [], rfl, ⟨rfl, h5⟩, rfl⟩
theorem CJ.mk5 {g : Nat} {w0 w : World} {v0 cur : Value} {bs : List UInt8} {xs : List Item} (h : CJ g w0 v0 cur bs xs w) {o : Oper} {a : Act} {K : Act → World → Prop} {Q : Exit → Act → World → Prop} (t : TypeId) (p1 p2 p3 p4 p5 : Operand) (ho : o.op = .buildSlice t 5 #[(0, p1), (1, p2), (2, p3), (3, p4), (4, p5)]) (ht : Try.prog.underlying t = some (.slice 23))
    (x1 x2 x3 x4 x5 : Nat) (e1 : a.eval p1 = .int .u64 (x1 : Int)) (e2 : a.eval p2 = .int .u64 (x2 : Int)) (e3 : a.eval p3 = .int .u64 (x3 : Int)) (e4 : a.eval p4 = .int .u64 (x4 : Int)) (e5 : a.eval p5 = .int .u64 (x5 : Int))
    (h1 : (Lit.int .u64 (x1 : Int)).wf = true) (h2 : (Lit.int .u64 (x2 : Int)).wf = true) (h3 : (Lit.int .u64 (x3 : Int)).wf = true) (h4 : (Lit.int .u64 (x4 : Int)).wf = true) (h5 : (Lit.int .u64 (x5 : Int)).wf = true) (hi : (Try.prog.info? 23).map (·.size) = some 1) (hz : ((Try.prog.info? 23).bind (·.zero)).isSome = true)
    (hk : ∀ v W', CJ g w0 v0 cur bs (⟨.nat .u64, [x1, x2, x3, x4, x5], v⟩ :: xs) W' → KeepB (fun b => b = g) w W' → K (a.put o.dst v) W') : o.wp Try.prog a w K Q := by
  refine wp_fiveL w t p1 p2 p3 p4 p5 ho 23 _ _ _ _ _ ht e1 e2 e3 e4 e5 rfl rfl rfl rfl rfl hi hz ?_
  have hm := h.make (x := ⟨.nat .u64, [x1, x2, x3, x4, x5], .slice (some ⟨w.heap.size, 0, none⟩) 5 5⟩) (w' := w.alloc (.cells [Value.int .u64 (x1 : Int), Value.int .u64 (x2 : Int), Value.int .u64 (x3 : Int), Value.int .u64 (x4 : Int), Value.int .u64 (x5 : Int)].toArray 23)) ((Ext.refl w).alloc _) ⟨sl_made rfl rfl rfl (by decide) (five_holds h1 h2 h3 h4 h5), by rintro b ⟨⟩; simp⟩ (by rintro b ⟨⟩; exact Nat.le_refl _)
  exact hk _ _ hm.1 hm.2
/-- A state's bytes. -/
def headB (s : St) : List UInt8 := be 4 s.chan ++ (be 8 s.round ++ (be 8 s.m0 ++ (be 8 s.m1 ++ (be 8 s.t0 ++ (be 8 s.t1 ++ [byteOf ((List.length (α := Cd) s.cs : Nat) : Int)])))))
def stateB (s : St) : List UInt8 := headB s ++ s.cs.flatMap condB
theorem headB_len (s : St) : (headB s).length = 45 := by simp [headB, be_length]
theorem conds_flat : ∀ cs : List Cd, (∀ c ∈ cs, CondOk c) → (cs.flatMap condB).length = 57 * List.length (α := Cd) cs
  | [], _ => rfl
  | c :: cs, h => by
    rw [List.flatMap_cons, List.length_append, condB_len (h c (by simp)), conds_flat cs (fun x hx => h x (by simp [hx])), List.length_cons]
    omega
theorem stateB_len (s : St) (h : ∀ c ∈ s.cs, CondOk c) : (stateB s).length = 45 + 57 * List.length (α := Cd) s.cs := by rw [stateB, List.length_append, headB_len, conds_flat _ h]
theorem conds_ok {w : World} {F : Fp} {v : Value} {cs : List Cd} (h : Conds w F v cs) : ∀ c ∈ cs, CondOk c := by
  obtain ⟨A, c, xs, _, _, _, _, _, ha⟩ := h
  intro x hx
  obtain ⟨k, hk, rfl⟩ := List.getElem_of_mem hx
  exact (condT_iff.1 (AllH.elem ha hk)).2
structure StWf (s : St) : Prop where
  chan : (Lit.int .u32 (s.chan : Int)).wf = true
  round : (Lit.int .u64 (s.round : Int)).wf = true
  m0 : (Lit.int .u64 (s.m0 : Int)).wf = true
  m1 : (Lit.int .u64 (s.m1 : Int)).wf = true
  t0 : (Lit.int .u64 (s.t0 : Int)).wf = true
  t1 : (Lit.int .u64 (s.t1 : Int)).wf = true
set_option maxRecDepth 100000 in
set_option maxHeartbeats 8000000 in
theorem DLay (s : St) (hw : StWf s) (u : Value) (F : Fp) (v : Value) (bs : List UInt8) (w : World) (hc : Conds w F u s.cs) (hF : ∀ b, F b → b < w.heap.size) (hap : ∀ b, F b → v.ownBlock ≠ some b) (ho : OwnB w v bs) (hlen : List.length (α := Cd) s.cs ≤ 1099511627776) (hb : bs.length ≤ 1099511627776) :
    Calls Try.prog 7 #[v, stv s u] w fun e w' => ∃ v', e = .returned v' ∧ OwnB w' v' (bs ++ stateB s) ∧ Moved w w' v v' := by
  have hoks := conds_ok hc
  obtain ⟨A, c, xs, rfl, hlc, hcm, hA, hcell, hall⟩ := conds_open hc
  unfold maxLen at hcm
  clear hc
  obtain ⟨SC, hSC⟩ : ∃ SC, SC = stc s (.slice A (List.length (α := Cd) s.cs) c) := ⟨_, rfl⟩
  have hst : stv s (.slice A (List.length (α := Cd) s.cs) c) = .agg SC.toArray := by rw [hSC]; rfl
  rw [hst]
  have s0 : SC[0]? = some (.int .u32 (s.chan : Int)) := by rw [hSC]; rfl
  have s1 : SC[1]? = some (.int .u64 (s.round : Int)) := by rw [hSC]; rfl
  have s2 : SC[2]? = some (.int .u64 (s.m0 : Int)) := by rw [hSC]; rfl
  have s3 : SC[3]? = some (.int .u64 (s.m1 : Int)) := by rw [hSC]; rfl
  have s4 : SC[4]? = some (.int .u64 (s.t0 : Int)) := by rw [hSC]; rfl
  have s5 : SC[5]? = some (.int .u64 (s.t1 : Int)) := by rw [hSC]; rfl
  have s6 : SC[6]? = some (.slice A (List.length (α := Cd) s.cs) c) := by rw [hSC]; rfl
  obtain ⟨cs, hcs⟩ : ∃ cs, cs = s.cs := ⟨_, rfl⟩
  have hb0 : Blk (w.alloc (.cells SC.toArray 40)) w.heap.size 40 SC := Blk.new _ _ _
  have hx0 : Ext w (w.alloc (.cells SC.toArray 40)) := (Ext.refl w).alloc _
  have hne : ∀ b, v.ownBlock = some b → b ≠ w.heap.size := fun b hb e => by have := OwnB.lt ho b hb; omega
  have HW0 := Lib.hid hw.chan
  have HW1 := Lib.hid hw.round
  have HW2 := Lib.hid hw.m0
  have HW3 := Lib.hid hw.m1
  have HW4 := Lib.hid hw.t0
  have HW5 := Lib.hid hw.t1
  have HB0 := Lib.hid hb0
  have HX0 := Lib.hid hx0
  have HO := Lib.hid ho
  have HNE := Lib.hid hne
  have HFW := Lib.hid hF
  have HAP := Lib.hid hap
  have HALL := Lib.hid hall
  have HCELL := Lib.hid hcell
  have HOKS := Lib.hid hoks
  have HS6 := Lib.hid s6
  clear hb0 hx0 ho hne hw hF hap hall hcell hst hSC hoks hcs
  go_enter Try.func7, Try.ntmps7
  go_wp2
  have hb0 : Blk (w.alloc (.cells SC.toArray 40)).drew w.heap.size 40 SC := HB0.out
  have hx : Ext w (w.alloc (.cells SC.toArray 40)).drew := HX0.out.drew
  refine startM (KeepB fun b => b = w.heap.size) (by kernel_rfl) ?_
  (try simp only [Act.put, List.setIfInBounds_toArray, List.set_cons_succ, List.set_cons_zero])
  generalize (w.alloc (.cells SC.toArray 40)).drew = w0 at *
  have HK0 := Lib.hid ((hb0.cell 0).trans s0)
  have HK1 := Lib.hid ((hb0.cell 1).trans s1)
  have HK2 := Lib.hid ((hb0.cell 2).trans s2)
  have HK3 := Lib.hid ((hb0.cell 3).trans s3)
  have HK4 := Lib.hid ((hb0.cell 4).trans s4)
  have HK5 := Lib.hid ((hb0.cell 5).trans s5)
  have HK6 := Lib.hid ((hb0.cell 6).trans s6)
  have hJ0 : CJ w.heap.size w0 v v bs [] w0 := CJ.start hb0.lt (HO.out.ext hx) HNE.out
  have HX := Lib.hid hx
  have HBB := Lib.hid hb0
  clear hb0 hx s0 s1 s2 s3 s4 s5 s6 HB0 HX0
  refine takeK 0 rfl (by kernel_rfl) (by kernel_rfl) (by kernel_rfl) rfl (fun _ _ _ _ h => h) rfl (fun K hK => ?_)
  go_big_quiet_op
  first | refine hK _ ?_ | refine ⟨_, fun _ _ => rfl, hK _ ?_⟩
  clear hK K
  refine takeK 1 rfl (by kernel_rfl) (by kernel_rfl) (by kernel_rfl) rfl (fun _ _ _ _ h => h) rfl (fun K hK => ?_)
  go_big_quiet_op
  first | refine hK _ ?_ | refine ⟨_, fun _ _ => rfl, hK _ ?_⟩
  clear hK K
  refine takeK 2 rfl (by kernel_rfl) (by kernel_rfl) (by kernel_rfl) rfl (fun _ _ _ _ h => h) rfl (fun K hK => ?_)
  refine quiet_cell _ _ rfl _ rfl _ _ Try.underlying22 rfl (fun W' h => KeepB.cell h HK0.out rfl) ?_
  refine hK _ ?_
  simp only [Act.put, List.setIfInBounds_toArray, List.set_cons_succ, List.set_cons_zero]
  clear hK K
  refine takeK 5 rfl (by kernel_rfl) (by kernel_rfl) (by kernel_rfl) rfl (fun _ _ _ _ h => h) rfl (fun K hK => ?_)
  go_big_quiet_op
  first | refine hK _ ?_ | refine ⟨_, fun _ _ => rfl, hK _ ?_⟩
  clear hK K
  refine takeK 6 rfl (by kernel_rfl) (by kernel_rfl) (by kernel_rfl) rfl (fun _ _ _ _ h => h) rfl (fun K hK => ?_)
  refine quiet_cell _ _ rfl _ rfl _ _ Try.underlying23 rfl (fun W' h => KeepB.cell h HK1.out rfl) ?_
  refine hK _ ?_
  simp only [Act.put, List.setIfInBounds_toArray, List.set_cons_succ, List.set_cons_zero]
  clear hK K
  refine takeK 7 rfl (by kernel_rfl) (by kernel_rfl) (by kernel_rfl) rfl (fun _ _ _ _ h => h) rfl (fun K hK => ?_)
  go_big_quiet_op
  first | refine hK _ ?_ | refine ⟨_, fun _ _ => rfl, hK _ ?_⟩
  clear hK K
  refine takeK 8 rfl (by kernel_rfl) (by kernel_rfl) (by kernel_rfl) rfl (fun _ _ _ _ h => h) rfl (fun K hK => ?_)
  go_big_quiet_op
  first | refine hK _ ?_ | refine ⟨_, fun _ _ => rfl, hK _ ?_⟩
  clear hK K
  refine takeK 9 rfl (by kernel_rfl) (by kernel_rfl) (by kernel_rfl) rfl (fun _ _ _ _ h => h) rfl (fun K hK => ?_)
  refine quiet_cell _ _ rfl _ rfl _ _ Try.underlying23 rfl (fun W' h => KeepB.cell h HK2.out rfl) ?_
  refine hK _ ?_
  simp only [Act.put, List.setIfInBounds_toArray, List.set_cons_succ, List.set_cons_zero]
  clear hK K
  refine takeK 10 rfl (by kernel_rfl) (by kernel_rfl) (by kernel_rfl) rfl (fun _ _ _ _ h => h) rfl (fun K hK => ?_)
  go_big_quiet_op
  first | refine hK _ ?_ | refine ⟨_, fun _ _ => rfl, hK _ ?_⟩
  clear hK K
  refine takeK 11 rfl (by kernel_rfl) (by kernel_rfl) (by kernel_rfl) rfl (fun _ _ _ _ h => h) rfl (fun K hK => ?_)
  go_big_quiet_op
  first | refine hK _ ?_ | refine ⟨_, fun _ _ => rfl, hK _ ?_⟩
  clear hK K
  refine takeK 12 rfl (by kernel_rfl) (by kernel_rfl) (by kernel_rfl) rfl (fun _ _ _ _ h => h) rfl (fun K hK => ?_)
  refine quiet_cell _ _ rfl _ rfl _ _ Try.underlying23 rfl (fun W' h => KeepB.cell h HK3.out rfl) ?_
  refine hK _ ?_
  simp only [Act.put, List.setIfInBounds_toArray, List.set_cons_succ, List.set_cons_zero]
  clear hK K
  refine takeK 13 rfl (by kernel_rfl) (by kernel_rfl) (by kernel_rfl) rfl (fun _ _ _ _ h => h) rfl (fun K hK => ?_)
  go_big_quiet_op
  first | refine hK _ ?_ | refine ⟨_, fun _ _ => rfl, hK _ ?_⟩
  clear hK K
  refine takeK 14 rfl (by kernel_rfl) (by kernel_rfl) (by kernel_rfl) rfl (fun _ _ _ _ h => h) rfl (fun K hK => ?_)
  go_big_quiet_op
  first | refine hK _ ?_ | refine ⟨_, fun _ _ => rfl, hK _ ?_⟩
  clear hK K
  refine takeK 15 rfl (by kernel_rfl) (by kernel_rfl) (by kernel_rfl) rfl (fun _ _ _ _ h => h) rfl (fun K hK => ?_)
  refine quiet_cell _ _ rfl _ rfl _ _ Try.underlying23 rfl (fun W' h => KeepB.cell h HK4.out rfl) ?_
  refine hK _ ?_
  simp only [Act.put, List.setIfInBounds_toArray, List.set_cons_succ, List.set_cons_zero]
  clear hK K
  refine takeK 16 rfl (by kernel_rfl) (by kernel_rfl) (by kernel_rfl) rfl (fun _ _ _ _ h => h) rfl (fun K hK => ?_)
  go_big_quiet_op
  first | refine hK _ ?_ | refine ⟨_, fun _ _ => rfl, hK _ ?_⟩
  clear hK K
  refine takeK 17 rfl (by kernel_rfl) (by kernel_rfl) (by kernel_rfl) rfl (fun _ _ _ _ h => h) rfl (fun K hK => ?_)
  go_big_quiet_op
  first | refine hK _ ?_ | refine ⟨_, fun _ _ => rfl, hK _ ?_⟩
  clear hK K
  refine takeK 18 rfl (by kernel_rfl) (by kernel_rfl) (by kernel_rfl) rfl (fun _ _ _ _ h => h) rfl (fun K hK => ?_)
  refine quiet_cell _ _ rfl _ rfl _ _ Try.underlying23 rfl (fun W' h => KeepB.cell h HK5.out rfl) ?_
  refine hK _ ?_
  simp only [Act.put, List.setIfInBounds_toArray, List.set_cons_succ, List.set_cons_zero]
  clear hK K
  refine takeK 21 rfl (by kernel_rfl) (by kernel_rfl) (by kernel_rfl) rfl (fun _ _ _ _ h => h) rfl (fun K hK => ?_)
  go_big_quiet_op
  first | refine hK _ ?_ | refine ⟨_, fun _ _ => rfl, hK _ ?_⟩
  clear hK K
  refine takeK 22 rfl (by kernel_rfl) (by kernel_rfl) (by kernel_rfl) rfl (fun _ _ _ _ h => h) rfl (fun K hK => ?_)
  refine quiet_cell _ _ rfl _ rfl _ _ Try.underlying38 rfl (fun W' h => KeepB.cell h HK6.out rfl) ?_
  refine hK _ ?_
  simp only [Act.put, List.setIfInBounds_toArray, List.set_cons_succ, List.set_cons_zero]
  clear hK K
  refine takeK 23 rfl (by kernel_rfl) (by kernel_rfl) (by kernel_rfl) rfl (fun _ _ _ _ h => h) rfl (fun K hK => ?_)
  go_big_quiet_op
  first | refine hK _ ?_ | refine ⟨_, fun _ _ => rfl, hK _ ?_⟩
  clear hK K
  refine takeK 24 rfl (by kernel_rfl) (by kernel_rfl) (by kernel_rfl) rfl (fun _ _ _ _ h => h) rfl (fun K hK => ?_)
  go_big_quiet_op
  first | refine hK _ ?_ | refine ⟨_, fun _ _ => rfl, hK _ ?_⟩
  clear hK K
  apply lat5 (fun v10 v11 v26 v27 v32 W => CJ w.heap.size w0 v v27 ((bs ++ [s.chan].flatMap (be 4)) ++ [s.round, s.m0, s.m1, s.t0, s.t1].flatMap (be 8)) [⟨.u8, [byteOf ((List.length (α := Cd) s.cs : Nat) : Int)], v32⟩] W)
  intro hM12
  apply lat4 (fun v10 v11 v26 v32 W => CJ w.heap.size w0 v v11 (bs ++ [s.chan].flatMap (be 4)) [⟨.nat .u64, [s.round, s.m0, s.m1, s.t0, s.t1], v26⟩, ⟨.u8, [byteOf ((List.length (α := Cd) s.cs : Nat) : Int)], v32⟩] W)
  intro hM11
  apply lat4 (fun v10 v11 v26 v27 W => CJ w.heap.size w0 v v27 ((bs ++ [s.chan].flatMap (be 4)) ++ [s.round, s.m0, s.m1, s.t0, s.t1].flatMap (be 8)) [] W)
  intro hM10
  apply lat3 (fun v10 v26 v32 W => CJ w.heap.size w0 v v bs [⟨.nat .u32, [s.chan], v10⟩, ⟨.nat .u64, [s.round, s.m0, s.m1, s.t0, s.t1], v26⟩, ⟨.u8, [byteOf ((List.length (α := Cd) s.cs : Nat) : Int)], v32⟩] W)
  intro hM9
  apply lat3 (fun v10 v11 v32 W => CJ w.heap.size w0 v v11 (bs ++ [s.chan].flatMap (be 4)) [⟨.u8, [byteOf ((List.length (α := Cd) s.cs : Nat) : Int)], v32⟩] W)
  intro hM8
  apply lat3 (fun v10 v11 v26 W => CJ w.heap.size w0 v v11 (bs ++ [s.chan].flatMap (be 4)) [⟨.nat .u64, [s.round, s.m0, s.m1, s.t0, s.t1], v26⟩] W)
  intro hM7
  apply lat2 (fun v26 v32 W => CJ w.heap.size w0 v v bs [⟨.nat .u64, [s.round, s.m0, s.m1, s.t0, s.t1], v26⟩, ⟨.u8, [byteOf ((List.length (α := Cd) s.cs : Nat) : Int)], v32⟩] W)
  intro hM6
  apply lat2 (fun v10 v32 W => CJ w.heap.size w0 v v bs [⟨.nat .u32, [s.chan], v10⟩, ⟨.u8, [byteOf ((List.length (α := Cd) s.cs : Nat) : Int)], v32⟩] W)
  intro hM5
  apply lat2 (fun v10 v26 W => CJ w.heap.size w0 v v bs [⟨.nat .u32, [s.chan], v10⟩, ⟨.nat .u64, [s.round, s.m0, s.m1, s.t0, s.t1], v26⟩] W)
  intro hM4
  apply lat2 (fun v10 v11 W => CJ w.heap.size w0 v v11 (bs ++ [s.chan].flatMap (be 4)) [] W)
  intro hM3
  apply lat1 (fun v32 W => CJ w.heap.size w0 v v bs [⟨.u8, [byteOf ((List.length (α := Cd) s.cs : Nat) : Int)], v32⟩] W)
  intro hM2
  apply lat1 (fun v26 W => CJ w.heap.size w0 v v bs [⟨.nat .u64, [s.round, s.m0, s.m1, s.t0, s.t1], v26⟩] W)
  intro hM1
  apply lat1 (fun v10 W => CJ w.heap.size w0 v v bs [⟨.nat .u32, [s.chan], v10⟩] W)
  intro hM0
  · have HJ := Lib.hid hJ0
    refine anyofM 3 [19, 25] (by kernel_rfl) ⟨oneM rfl rfl (fun K hK => ?_), oneM rfl rfl (fun K hK => ?_), oneM rfl rfl (fun K hK => ?_), trivial⟩
    · refine HJ.out.mk1 119 (.tmp 9) rfl 22 Try.underlying119 (.nat .u32) s.chan _ [Value.int .u32 (s.chan : Int)] rfl rfl (fun _ _ => ⟨rfl, HW0.out⟩) u32_sizeD u32_zeroD (show 1 ≤ 16777216 by decide) (show 0 < 1 by decide) ?_
      intro v10 W hJ hkb
      have HJ := Lib.hid hJ
      clear hJ
      refine hK _ _ hkb ?_
      clear hK K
      (try simp only [Act.put, List.setIfInBounds_toArray, List.set_cons_succ, List.set_cons_zero])
      exact hM0 v10 _ (HJ.out.sub (by intro x hx; simp only [List.mem_cons, List.not_mem_nil, or_false] at hx; rcases hx with rfl <;> first | exact (.head _)))
    · refine HJ.out.mk5 121 (.tmp 13) (.tmp 16) (.tmp 19) (.tmp 22) (.tmp 25) rfl Try.underlying121 s.round s.m0 s.m1 s.t0 s.t1 rfl rfl rfl rfl rfl HW1.out HW2.out HW3.out HW4.out HW5.out u64_size1 u64_zero1 ?_
      intro v26 W hJ hkb
      have HJ := Lib.hid hJ
      clear hJ
      refine hK _ _ hkb ?_
      clear hK K
      (try simp only [Act.put, List.setIfInBounds_toArray, List.set_cons_succ, List.set_cons_zero])
      exact hM1 v26 _ (HJ.out.sub (by intro x hx; simp only [List.mem_cons, List.not_mem_nil, or_false] at hx; rcases hx with rfl <;> first | exact (.head _)))
    · refine HJ.out.mk1 35 (.tmp 31) rfl 5 Try.underlying35 .u8 (byteOf ((List.length (α := Cd) s.cs : Nat) : Int)) _ [Value.int .u8 ((byteOf ((List.length (α := Cd) s.cs : Nat) : Int)).toNat : Int)] rfl (by rw [byteOf_eq]; rfl) (fun _ _ => rfl) u8_sizeU u8_zeroU (show 1 ≤ 16777216 by decide) (show 0 < 1 by decide) ?_
      intro v32 W hJ hkb
      have HJ := Lib.hid hJ
      clear hJ
      refine hK _ _ hkb ?_
      clear hK K
      (try simp only [Act.put, List.setIfInBounds_toArray, List.set_cons_succ, List.set_cons_zero])
      exact hM2 v32 _ (HJ.out.sub (by intro x hx; simp only [List.mem_cons, List.not_mem_nil, or_false] at hx; rcases hx with rfl <;> first | exact (.head _)))
  · intro v10 W hJ
    have HJ := Lib.hid hJ
    clear hJ
    refine anyofM 4 [19, 25] (by kernel_rfl) ⟨oneM rfl rfl (fun K hK => ?_), oneM rfl rfl (fun K hK => ?_), oneM rfl rfl (fun K hK => ?_), trivial⟩
    · go_simp
      refine (HJ.out.four (.head _) (by simp only [List.length_append, List.length_cons, List.length_nil, List.flatMap_cons, List.flatMap_nil, be_length]; omega)).mono ?_
      rintro e W ⟨v11, rfl, hJ, hkb⟩
      have HJ := Lib.hid hJ
      clear hJ
      refine hK _ _ hkb ?_
      clear hK K
      exact hM3 v10 v11 _ (HJ.out.sub (by intro x hx; cases hx))
    · refine HJ.out.mk5 121 (.tmp 13) (.tmp 16) (.tmp 19) (.tmp 22) (.tmp 25) rfl Try.underlying121 s.round s.m0 s.m1 s.t0 s.t1 rfl rfl rfl rfl rfl HW1.out HW2.out HW3.out HW4.out HW5.out u64_size1 u64_zero1 ?_
      intro v26 W hJ hkb
      have HJ := Lib.hid hJ
      clear hJ
      refine hK _ _ hkb ?_
      clear hK K
      (try simp only [Act.put, List.setIfInBounds_toArray, List.set_cons_succ, List.set_cons_zero])
      exact hM4 v10 v26 _ (HJ.out.sub (by intro x hx; simp only [List.mem_cons, List.not_mem_nil, or_false] at hx; rcases hx with rfl | rfl <;> first | exact (.tail _ (.head _)) | exact (.head _)))
    · refine HJ.out.mk1 35 (.tmp 31) rfl 5 Try.underlying35 .u8 (byteOf ((List.length (α := Cd) s.cs : Nat) : Int)) _ [Value.int .u8 ((byteOf ((List.length (α := Cd) s.cs : Nat) : Int)).toNat : Int)] rfl (by rw [byteOf_eq]; rfl) (fun _ _ => rfl) u8_sizeU u8_zeroU (show 1 ≤ 16777216 by decide) (show 0 < 1 by decide) ?_
      intro v32 W hJ hkb
      have HJ := Lib.hid hJ
      clear hJ
      refine hK _ _ hkb ?_
      clear hK K
      (try simp only [Act.put, List.setIfInBounds_toArray, List.set_cons_succ, List.set_cons_zero])
      exact hM5 v10 v32 _ (HJ.out.sub (by intro x hx; simp only [List.mem_cons, List.not_mem_nil, or_false] at hx; rcases hx with rfl | rfl <;> first | exact (.tail _ (.head _)) | exact (.head _)))
  · intro v26 W hJ
    have HJ := Lib.hid hJ
    clear hJ
    refine anyofM 3 [25] (by kernel_rfl) ⟨oneM rfl rfl (fun K hK => ?_), oneM rfl rfl (fun K hK => ?_), trivial⟩
    · refine HJ.out.mk1 119 (.tmp 9) rfl 22 Try.underlying119 (.nat .u32) s.chan _ [Value.int .u32 (s.chan : Int)] rfl rfl (fun _ _ => ⟨rfl, HW0.out⟩) u32_sizeD u32_zeroD (show 1 ≤ 16777216 by decide) (show 0 < 1 by decide) ?_
      intro v10 W hJ hkb
      have HJ := Lib.hid hJ
      clear hJ
      refine hK _ _ hkb ?_
      clear hK K
      (try simp only [Act.put, List.setIfInBounds_toArray, List.set_cons_succ, List.set_cons_zero])
      exact relist (by kernel_rfl) (hM4 v10 v26 _ (HJ.out.sub (by intro x hx; simp only [List.mem_cons, List.not_mem_nil, or_false] at hx; rcases hx with rfl | rfl <;> first | exact (.head _) | exact (.tail _ (.head _)))))
    · refine HJ.out.mk1 35 (.tmp 31) rfl 5 Try.underlying35 .u8 (byteOf ((List.length (α := Cd) s.cs : Nat) : Int)) _ [Value.int .u8 ((byteOf ((List.length (α := Cd) s.cs : Nat) : Int)).toNat : Int)] rfl (by rw [byteOf_eq]; rfl) (fun _ _ => rfl) u8_sizeU u8_zeroU (show 1 ≤ 16777216 by decide) (show 0 < 1 by decide) ?_
      intro v32 W hJ hkb
      have HJ := Lib.hid hJ
      clear hJ
      refine hK _ _ hkb ?_
      clear hK K
      (try simp only [Act.put, List.setIfInBounds_toArray, List.set_cons_succ, List.set_cons_zero])
      exact hM6 v26 v32 _ (HJ.out.sub (by intro x hx; simp only [List.mem_cons, List.not_mem_nil, or_false] at hx; rcases hx with rfl | rfl <;> first | exact (.tail _ (.head _)) | exact (.head _)))
  · intro v32 W hJ
    have HJ := Lib.hid hJ
    clear hJ
    refine anyofM 3 [19] (by kernel_rfl) ⟨oneM rfl rfl (fun K hK => ?_), oneM rfl rfl (fun K hK => ?_), trivial⟩
    · refine HJ.out.mk1 119 (.tmp 9) rfl 22 Try.underlying119 (.nat .u32) s.chan _ [Value.int .u32 (s.chan : Int)] rfl rfl (fun _ _ => ⟨rfl, HW0.out⟩) u32_sizeD u32_zeroD (show 1 ≤ 16777216 by decide) (show 0 < 1 by decide) ?_
      intro v10 W hJ hkb
      have HJ := Lib.hid hJ
      clear hJ
      refine hK _ _ hkb ?_
      clear hK K
      (try simp only [Act.put, List.setIfInBounds_toArray, List.set_cons_succ, List.set_cons_zero])
      exact relist (by kernel_rfl) (hM5 v10 v32 _ (HJ.out.sub (by intro x hx; simp only [List.mem_cons, List.not_mem_nil, or_false] at hx; rcases hx with rfl | rfl <;> first | exact (.head _) | exact (.tail _ (.head _)))))
    · refine HJ.out.mk5 121 (.tmp 13) (.tmp 16) (.tmp 19) (.tmp 22) (.tmp 25) rfl Try.underlying121 s.round s.m0 s.m1 s.t0 s.t1 rfl rfl rfl rfl rfl HW1.out HW2.out HW3.out HW4.out HW5.out u64_size1 u64_zero1 ?_
      intro v26 W hJ hkb
      have HJ := Lib.hid hJ
      clear hJ
      refine hK _ _ hkb ?_
      clear hK K
      (try simp only [Act.put, List.setIfInBounds_toArray, List.set_cons_succ, List.set_cons_zero])
      exact relist (by kernel_rfl) (hM6 v26 v32 _ (HJ.out.sub (by intro x hx; simp only [List.mem_cons, List.not_mem_nil, or_false] at hx; rcases hx with rfl | rfl <;> first | exact (.head _) | exact (.tail _ (.head _)))))
  · intro v10 v11 W hJ
    have HJ := Lib.hid hJ
    clear hJ
    refine anyofM 19 [25] (by kernel_rfl) ⟨oneM rfl rfl (fun K hK => ?_), oneM rfl rfl (fun K hK => ?_), trivial⟩
    · refine HJ.out.mk5 121 (.tmp 13) (.tmp 16) (.tmp 19) (.tmp 22) (.tmp 25) rfl Try.underlying121 s.round s.m0 s.m1 s.t0 s.t1 rfl rfl rfl rfl rfl HW1.out HW2.out HW3.out HW4.out HW5.out u64_size1 u64_zero1 ?_
      intro v26 W hJ hkb
      have HJ := Lib.hid hJ
      clear hJ
      refine hK _ _ hkb ?_
      clear hK K
      (try simp only [Act.put, List.setIfInBounds_toArray, List.set_cons_succ, List.set_cons_zero])
      exact hM7 v10 v11 v26 _ (HJ.out.sub (by intro x hx; simp only [List.mem_cons, List.not_mem_nil, or_false] at hx; rcases hx with rfl <;> first | exact (.head _)))
    · refine HJ.out.mk1 35 (.tmp 31) rfl 5 Try.underlying35 .u8 (byteOf ((List.length (α := Cd) s.cs : Nat) : Int)) _ [Value.int .u8 ((byteOf ((List.length (α := Cd) s.cs : Nat) : Int)).toNat : Int)] rfl (by rw [byteOf_eq]; rfl) (fun _ _ => rfl) u8_sizeU u8_zeroU (show 1 ≤ 16777216 by decide) (show 0 < 1 by decide) ?_
      intro v32 W hJ hkb
      have HJ := Lib.hid hJ
      clear hJ
      refine hK _ _ hkb ?_
      clear hK K
      (try simp only [Act.put, List.setIfInBounds_toArray, List.set_cons_succ, List.set_cons_zero])
      exact hM8 v10 v11 v32 _ (HJ.out.sub (by intro x hx; simp only [List.mem_cons, List.not_mem_nil, or_false] at hx; rcases hx with rfl <;> first | exact (.head _)))
  · intro v10 v26 W hJ
    have HJ := Lib.hid hJ
    clear hJ
    refine anyofM 4 [25] (by kernel_rfl) ⟨oneM rfl rfl (fun K hK => ?_), oneM rfl rfl (fun K hK => ?_), trivial⟩
    · go_simp
      refine (HJ.out.four (.head _) (by simp only [List.length_append, List.length_cons, List.length_nil, List.flatMap_cons, List.flatMap_nil, be_length]; omega)).mono ?_
      rintro e W ⟨v11, rfl, hJ, hkb⟩
      have HJ := Lib.hid hJ
      clear hJ
      refine hK _ _ hkb ?_
      clear hK K
      exact relist (by kernel_rfl) (hM7 v10 v11 v26 _ (HJ.out.sub (by intro x hx; simp only [List.mem_cons, List.not_mem_nil, or_false] at hx; rcases hx with rfl <;> first | exact (.tail _ (.head _)))))
    · refine HJ.out.mk1 35 (.tmp 31) rfl 5 Try.underlying35 .u8 (byteOf ((List.length (α := Cd) s.cs : Nat) : Int)) _ [Value.int .u8 ((byteOf ((List.length (α := Cd) s.cs : Nat) : Int)).toNat : Int)] rfl (by rw [byteOf_eq]; rfl) (fun _ _ => rfl) u8_sizeU u8_zeroU (show 1 ≤ 16777216 by decide) (show 0 < 1 by decide) ?_
      intro v32 W hJ hkb
      have HJ := Lib.hid hJ
      clear hJ
      refine hK _ _ hkb ?_
      clear hK K
      (try simp only [Act.put, List.setIfInBounds_toArray, List.set_cons_succ, List.set_cons_zero])
      exact hM9 v10 v26 v32 _ (HJ.out.sub (by intro x hx; simp only [List.mem_cons, List.not_mem_nil, or_false] at hx; rcases hx with rfl | rfl | rfl <;> first | exact (.tail _ (.head _)) | exact (.tail _ (.tail _ (.head _))) | exact (.head _)))
  · intro v10 v32 W hJ
    have HJ := Lib.hid hJ
    clear hJ
    refine anyofM 4 [19] (by kernel_rfl) ⟨oneM rfl rfl (fun K hK => ?_), oneM rfl rfl (fun K hK => ?_), trivial⟩
    · go_simp
      refine (HJ.out.four (.head _) (by simp only [List.length_append, List.length_cons, List.length_nil, List.flatMap_cons, List.flatMap_nil, be_length]; omega)).mono ?_
      rintro e W ⟨v11, rfl, hJ, hkb⟩
      have HJ := Lib.hid hJ
      clear hJ
      refine hK _ _ hkb ?_
      clear hK K
      exact relist (by kernel_rfl) (hM8 v10 v11 v32 _ (HJ.out.sub (by intro x hx; simp only [List.mem_cons, List.not_mem_nil, or_false] at hx; rcases hx with rfl <;> first | exact (.tail _ (.head _)))))
    · refine HJ.out.mk5 121 (.tmp 13) (.tmp 16) (.tmp 19) (.tmp 22) (.tmp 25) rfl Try.underlying121 s.round s.m0 s.m1 s.t0 s.t1 rfl rfl rfl rfl rfl HW1.out HW2.out HW3.out HW4.out HW5.out u64_size1 u64_zero1 ?_
      intro v26 W hJ hkb
      have HJ := Lib.hid hJ
      clear hJ
      refine hK _ _ hkb ?_
      clear hK K
      (try simp only [Act.put, List.setIfInBounds_toArray, List.set_cons_succ, List.set_cons_zero])
      exact relist (by kernel_rfl) (hM9 v10 v26 v32 _ (HJ.out.sub (by intro x hx; simp only [List.mem_cons, List.not_mem_nil, or_false] at hx; rcases hx with rfl | rfl | rfl <;> first | exact (.tail _ (.head _)) | exact (.head _) | exact (.tail _ (.tail _ (.head _))))))
  · intro v26 v32 W hJ
    have HJ := Lib.hid hJ
    clear hJ
    refine stepM 3 rfl (by kernel_rfl) rfl (fun K hK => ?_)
    refine HJ.out.mk1 119 (.tmp 9) rfl 22 Try.underlying119 (.nat .u32) s.chan _ [Value.int .u32 (s.chan : Int)] rfl rfl (fun _ _ => ⟨rfl, HW0.out⟩) u32_sizeD u32_zeroD (show 1 ≤ 16777216 by decide) (show 0 < 1 by decide) ?_
    intro v10 W hJ hkb
    have HJ := Lib.hid hJ
    clear hJ
    refine hK _ _ hkb ?_
    clear hK K
    (try simp only [Act.put, List.setIfInBounds_toArray, List.set_cons_succ, List.set_cons_zero])
    exact relist (by kernel_rfl) (hM9 v10 v26 v32 _ (HJ.out.sub (by intro x hx; simp only [List.mem_cons, List.not_mem_nil, or_false] at hx; rcases hx with rfl | rfl | rfl <;> first | exact (.head _) | exact (.tail _ (.head _)) | exact (.tail _ (.tail _ (.head _))))))
  · intro v10 v11 v26 W hJ
    have HJ := Lib.hid hJ
    clear hJ
    refine anyofM 20 [25] (by kernel_rfl) ⟨oneM rfl rfl (fun K hK => ?_), oneM rfl rfl (fun K hK => ?_), trivial⟩
    · go_simp
      refine (HJ.out.eight (.head _) (by simp only [List.length_append, List.length_cons, List.length_nil, List.flatMap_cons, List.flatMap_nil, be_length]; omega)).mono ?_
      rintro e W ⟨v27, rfl, hJ, hkb⟩
      have HJ := Lib.hid hJ
      clear hJ
      refine hK _ _ hkb ?_
      clear hK K
      exact hM10 v10 v11 v26 v27 _ (HJ.out.sub (by intro x hx; cases hx))
    · refine HJ.out.mk1 35 (.tmp 31) rfl 5 Try.underlying35 .u8 (byteOf ((List.length (α := Cd) s.cs : Nat) : Int)) _ [Value.int .u8 ((byteOf ((List.length (α := Cd) s.cs : Nat) : Int)).toNat : Int)] rfl (by rw [byteOf_eq]; rfl) (fun _ _ => rfl) u8_sizeU u8_zeroU (show 1 ≤ 16777216 by decide) (show 0 < 1 by decide) ?_
      intro v32 W hJ hkb
      have HJ := Lib.hid hJ
      clear hJ
      refine hK _ _ hkb ?_
      clear hK K
      (try simp only [Act.put, List.setIfInBounds_toArray, List.set_cons_succ, List.set_cons_zero])
      exact hM11 v10 v11 v26 v32 _ (HJ.out.sub (by intro x hx; simp only [List.mem_cons, List.not_mem_nil, or_false] at hx; rcases hx with rfl | rfl <;> first | exact (.tail _ (.head _)) | exact (.head _)))
  · intro v10 v11 v32 W hJ
    have HJ := Lib.hid hJ
    clear hJ
    refine stepM 19 rfl (by kernel_rfl) rfl (fun K hK => ?_)
    refine HJ.out.mk5 121 (.tmp 13) (.tmp 16) (.tmp 19) (.tmp 22) (.tmp 25) rfl Try.underlying121 s.round s.m0 s.m1 s.t0 s.t1 rfl rfl rfl rfl rfl HW1.out HW2.out HW3.out HW4.out HW5.out u64_size1 u64_zero1 ?_
    intro v26 W hJ hkb
    have HJ := Lib.hid hJ
    clear hJ
    refine hK _ _ hkb ?_
    clear hK K
    (try simp only [Act.put, List.setIfInBounds_toArray, List.set_cons_succ, List.set_cons_zero])
    exact relist (by kernel_rfl) (hM11 v10 v11 v26 v32 _ (HJ.out.sub (by intro x hx; simp only [List.mem_cons, List.not_mem_nil, or_false] at hx; rcases hx with rfl | rfl <;> first | exact (.head _) | exact (.tail _ (.head _)))))
  · intro v10 v26 v32 W hJ
    have HJ := Lib.hid hJ
    clear hJ
    refine stepM 4 rfl (by kernel_rfl) rfl (fun K hK => ?_)
    go_simp
    refine (HJ.out.four (.head _) (by simp only [List.length_append, List.length_cons, List.length_nil, List.flatMap_cons, List.flatMap_nil, be_length]; omega)).mono ?_
    rintro e W ⟨v11, rfl, hJ, hkb⟩
    have HJ := Lib.hid hJ
    clear hJ
    refine hK _ _ hkb ?_
    clear hK K
    exact relist (by kernel_rfl) (hM11 v10 v11 v26 v32 _ (HJ.out.sub (by intro x hx; simp only [List.mem_cons, List.not_mem_nil, or_false] at hx; rcases hx with rfl | rfl <;> first | exact (.tail _ (.head _)) | exact (.tail _ (.tail _ (.head _))))))
  · intro v10 v11 v26 v27 W hJ
    have HJ := Lib.hid hJ
    clear hJ
    refine stepM 25 rfl (by kernel_rfl) rfl (fun K hK => ?_)
    refine HJ.out.mk1 35 (.tmp 31) rfl 5 Try.underlying35 .u8 (byteOf ((List.length (α := Cd) s.cs : Nat) : Int)) _ [Value.int .u8 ((byteOf ((List.length (α := Cd) s.cs : Nat) : Int)).toNat : Int)] rfl (by rw [byteOf_eq]; rfl) (fun _ _ => rfl) u8_sizeU u8_zeroU (show 1 ≤ 16777216 by decide) (show 0 < 1 by decide) ?_
    intro v32 W hJ hkb
    have HJ := Lib.hid hJ
    clear hJ
    refine hK _ _ hkb ?_
    clear hK K
    (try simp only [Act.put, List.setIfInBounds_toArray, List.set_cons_succ, List.set_cons_zero])
    exact hM12 v10 v11 v26 v27 v32 _ (HJ.out.sub (by intro x hx; simp only [List.mem_cons, List.not_mem_nil, or_false] at hx; rcases hx with rfl <;> first | exact (.head _)))
  · intro v10 v11 v26 v32 W hJ
    have HJ := Lib.hid hJ
    clear hJ
    refine stepM 20 rfl (by kernel_rfl) rfl (fun K hK => ?_)
    go_simp
    refine (HJ.out.eight (.head _) (by simp only [List.length_append, List.length_cons, List.length_nil, List.flatMap_cons, List.flatMap_nil, be_length]; omega)).mono ?_
    rintro e W ⟨v27, rfl, hJ, hkb⟩
    have HJ := Lib.hid hJ
    clear hJ
    refine hK _ _ hkb ?_
    clear hK K
    exact relist (by kernel_rfl) (hM12 v10 v11 v26 v27 v32 _ (HJ.out.sub (by intro x hx; simp only [List.mem_cons, List.not_mem_nil, or_false] at hx; rcases hx with rfl <;> first | exact (.tail _ (.head _)))))
  intro v10 v11 v26 v27 v32 W hJ
  have HJ := Lib.hid hJ
  clear hJ
  refine stepM 26 rfl (by kernel_rfl) rfl (fun K hK => ?_)
  go_simp
  refine (HJ.out.one (.head _) (by simp only [List.length_append, List.length_cons, List.length_nil, List.flatMap_cons, List.flatMap_nil, be_length]; omega)).mono ?_
  rintro e W ⟨v33, rfl, hJ, hkb⟩
  have HJ := Lib.hid hJ
  clear hJ
  refine hK _ _ hkb ?_
  clear hK K
  refine takeK 27 rfl (by kernel_rfl) (by kernel_rfl) (by kernel_rfl) rfl (fun _ _ _ _ h => h) rfl (fun K hK => ?_)
  go_big_quiet_op
  first | refine hK _ ?_ | refine ⟨_, fun _ _ => rfl, hK _ ?_⟩
  clear hK K
  refine doneM (by kernel_rfl) ?_ _
  have ho33 := HJ.out.own
  have hm33 := Moved.pre HX.out HJ.out.mv
  have hb33 : Blk W w.heap.size 40 SC := (HJ.out.mv.grown.block _ HJ.out.lt (fun e => HNE.out _ e.symm rfl)).trans HBB.out
  have hn33 := HJ.out.ne
  have e33 : (((bs ++ List.flatMap (be 4) [s.chan]) ++ List.flatMap (be 8) [s.round, s.m0, s.m1, s.t0, s.t1]) ++ [byteOf ((List.length (α := Cd) s.cs : Nat) : Int)]) = bs ++ headB s := by simp [headB]
  rw [e33] at ho33
  have c6 := (hb33.cell 6).trans HS6.out
  have HOV := Lib.hid ho33
  have HMV := Lib.hid hm33
  have HB33 := Lib.hid hb33
  have HN33 := Lib.hid hn33
  clear HJ ho33 hm33 hb33 hn33 e33 HK0 HK1 HK2 HK3 HK4 HK5 HK6 HX HBB
  have hzc := cond_zero
  have hzcl : (condCells (0, 0, 0, List.replicate 32 0, 0, ())).length = 36 := rfl
  generalize condCells (0, 0, 0, List.replicate 32 0, 0, ()) = ZC at hzc hzcl
  have HZCL := Lib.hid hzcl
  clear hzcl
  obtain ⟨nc, hnc⟩ : ∃ nc, nc = List.length (α := Cd) s.cs := ⟨_, rfl⟩
  rw [← hnc] at c6 hlen hlc HCELL
  have HNC := Lib.hid hnc
  clear hnc
  go_wp2
  go_loopw [0, 37] (fun cur i wr => ∃ k : Nat, k ≤ nc ∧ i = .int .i64 k ∧ OwnB wr cur (bs ++ headB s ++ (s.cs.take k).flatMap condB) ∧ Moved w wr v cur ∧ ∀ b, cur.ownBlock = some b → b ≠ w.heap.size) (fun _ i _ => nc - (intOf i).toNat)
  case atStart => exact ⟨0, by omega, rfl, by simpa using HOV.out, HMV.out, HN33.out⟩
  case round =>
    clear HOV HMV HB33 HN33
    obtain ⟨k, hk, rfl, hov, hmv, hnn⟩ := hrel
    by_cases hlt : k < nc
    · obtain ⟨ad, rfl, hf, hcells⟩ := HCELL.out (by omega)
      have hlt2 : k < List.length (α := Cd) s.cs := by rw [← HNC.out]; exact hlt
      have hfar : ∀ b, F b → wr.heap[b]? = w.heap[b]? := fun b hb => hmv.grown.block b (HFW.out b hb) (fun e => HAP.out b hb e.symm)
      obtain ⟨hcc, hok⟩ := conds_at HALL.out (hcells.keep (hfar _ hf)) hlt2
      have htk : s.cs.take (k + 1) = s.cs.take k ++ [s.cs[k]] := List.take_succ_eq_append_getElem hlt2
      have hfl := conds_flat (s.cs.take k) (fun x hx => HOKS.out x (List.mem_of_mem_take hx))
      have hltk : List.length (α := Cd) (s.cs.take k) = k := by simp; omega
      rw [hltk] at hfl
      generalize s.cs[k] = ck at *
      have hcl := condCells_len hok
      have hone := condCells_one ck
      have hbl : (bs ++ headB s ++ (s.cs.take k).flatMap condB).length ≤ 140737488354304 := by rw [List.length_append, List.length_append, hfl, headB_len]; omega
      have hxa : Ext wr (wr.alloc (.cells (condCells ck).toArray 47)) := (Ext.refl wr).alloc _
      have hlay := LayCond ck u0 _ (wr.alloc (.cells (condCells ck).toArray 47)) hok (hov.ext hxa) hbl
      have hb6 : Blk (wr.alloc (.cells (condCells ck).toArray 47)) wr.heap.size 47 (condCells ck) := Blk.new _ _ _
      obtain ⟨CC, hCC⟩ : ∃ CC, CC = condCells ck := ⟨_, rfl⟩
      rw [← hCC] at hcc hcl hone hlay hb6 hxa
      have HTK := Lib.hid htk
      have HCL := Lib.hid hcl
      have HLAY := Lib.hid hlay
      have HB6 := Lib.hid hb6
      have HXA := Lib.hid hxa
      have HMV := Lib.hid hmv
      have HNN := Lib.hid hnn
      have HCC := Lib.hid hcc
      clear htk hcl hlay hb6 hxa hmv hnn hov hok hfl hltk hbl hfar hcells hCC hcc
      go_wp2_with (first
        | ((with_reducible refine wpList_load_agg _ rfl 47 (.tmp 39) rfl _ rfl CC _ Try.underlying47 rfl (cond_size HCL.out) (by exact HCC.out) ?_))
        | (refine wpList_load_agg _ rfl 47 (.tmp 39) rfl _ rfl CC _ Try.underlying47 rfl (cond_size HCL.out) (by exact HCC.out) ?_)
        | (refine wpList_alloc _ rfl 47 rfl _ hzc ?_)
        | (refine wpList_store_new _ rfl 47 (.tmp 6) (.tmp 40) rfl rfl ZC CC _ rfl (cond_size HCL.out) (by rw [HCL.out, HZCL.out]) hone ?_)
        | (refine wpList_load_agg _ rfl 47 (.tmp 6) rfl _ rfl CC _ Try.underlying47 rfl (cond_size HCL.out) (by exact HB6.out.cells) ?_)
        | fail)
      refine HLAY.out.mono ?_
      rintro e w' ⟨v', rfl, ho', hm'⟩
      have ho9 : OwnB w' v' (bs ++ headB s ++ (s.cs.take (k + 1)).flatMap condB) := by rw [HTK.out, List.flatMap_append, ← List.append_assoc]; simpa using ho'
      have hm9 : Moved w w' v v' := HMV.out.trans (Moved.pre HXA.out hm')
      have hn9 : ∀ b, v'.ownBlock = some b → b ≠ w.heap.size := fun b hb => by
        rcases hm'.at_ with e | hn
        · exact HNN.out b (e.symm.trans hb)
        · have h1 := hn b hb
          have h2 := HMV.out.grown.size
          simp at h1
          omega
      have HO9 := Lib.hid ho9
      have HM9 := Lib.hid hm9
      have HN9 := Lib.hid hn9
      clear ho9 hm9 hn9 ho' hm'
      go_wp2_with fail
      go_roundw
      case rel => exact ⟨k + 1, by omega, by go_num, HO9.out, HM9.out, HN9.out⟩
      case measure => simp [intOf]; omega
    · obtain rfl : k = nc := by omega
      have htk : s.cs.take k = s.cs := List.take_of_length_le (by rw [HNC.out]; exact Nat.le_refl _)
      rw [htk] at hov
      have HO9 := Lib.hid hov
      have HM9 := Lib.hid hmv
      clear hov hmv htk
      go_wp2_with fail
      go_ret
      exact ⟨_, rfl, by rw [stateB, ← List.append_assoc]; exact HO9.out, HM9.out⟩
end
section
open Go.RowKit

set_option maxHeartbeats 400000 in
set_option maxRecDepth 100000 in
theorem Ref_Num (vb : Value) (bs : List UInt8) (n size : Nat) (w : World) (F : Fp) (hb : (Ty.sl .u8).holds w F [vb] bs) (hF : ∀ b, F b → b < w.heap.size) (hn : n < 18446744073709551616) (hs : size ≤ 8) (hbb : bs.length + size ≤ 140737488355328) :
    Calls Try.prog 31 #[vb, .int .u64 n, .int .i64 size] w fun e w' => ∃ v', e = .returned v' ∧ OwnB w' v' (bs ++ be size n) ∧ Fresh w w' v' := by
  obtain ⟨i0, hi, hz0, hz1, hz2⟩ := info_parts u8_info
  obtain ⟨A, c, xs, hv, hlc, hc, hA, hcell, hall⟩ := hb
  cases hv
  go_enter Try.func31, Try.ntmps31
  go_wp2_with (at_make; refine wpList_make_full _ rfl _ _ _ rfl 0 _ i0 _ 1 Try.underlying35 hi hz0 hz1 .i64 .i64 size size size rfl rfl rfl rfl (by rw [hz2]; omega) (by unfold maxLen; omega) (Nat.zero_le _) ?_; intro w1 ho1 hg1)
  have hg1 : Ext w w1 := hg1
  have ho1 : Own w1 5 1 (.slice (some ⟨w.heap.size, 0, none⟩) size size) size (bv (beFill size size n)) := by
    have e : bv (beFill size size n) = (madeCells (Value.int .u8 0).cells (size * 1)).toList := by
      rw [show (Value.int .u8 0).cells = #[.int .u8 0] from rfl, toList_madeCells_one, Nat.mul_one]
      simp [beFill, bv, be_length]
    rw [e]; exact ho1
  go_loopw [1, 8] (fun nn i wr => ∃ j : Nat, j ≤ size ∧ i = .int .i64 ((j : Int) - 1) ∧ nn = .int .u64 ((n / 256 ^ (size - j) : Nat) : Int) ∧ Own wr 5 1 (.slice (some ⟨w.heap.size, 0, none⟩) size size) size (bv (beFill size j n)) ∧ Ext w wr) (fun _ i _ => (intOf i + 1).toNat)
  case atStart => exact ⟨size, by omega, rfl, by simp, ho1, hg1⟩
  case round =>
    obtain ⟨j, hj, rfl, rfl, hor, hxr⟩ := hrel
    by_cases hlt : 0 < j
    · have hcell0 := World.ownsRow.cellAt hor (j - 1) (by omega)
      obtain ⟨u0, hu0⟩ : ∃ u0, (bv (beFill size j n))[j - 1]? = some u0 := ⟨_, List.getElem?_eq_getElem (by rw [bv_length, beFill_length _ _ _ hj]; omega)⟩
      rw [hu0] at hcell0
      have hfr := World.ownsRow.frozenAt hor (j - 1)
      have hst := World.ownsRow.stored hor (j - 1) (.int .u8 ((UInt8.ofNat (n / 256 ^ (size - j))).toNat : Int))
      have hm : ((n / 256 ^ (size - j) : Nat) : Int) % 256 = ((UInt8.ofNat (n / 256 ^ (size - j))).toNat : Int) := by rw [UInt8.toNat_ofNat']; omega
      have hlow : n / 256 ^ (size - j) < 18446744073709551616 := Nat.lt_of_le_of_lt (Nat.div_le_self _ _) hn
      have hq := be_rest n size j hlt hj
      generalize hN : n / 256 ^ (size - j) = N at *
      have HM := Lib.hid hm
      have HQ := Lib.hid hq
      have HN := Lib.hid hN
      clear hm hq hN hu0
      go_wp2
      go_roundw
      case rel =>
        rw [HM.out]
        refine ⟨j - 1, by omega, by rw [show ((j - 1 : Nat) : Int) = (j : Int) - 1 by omega], by rw [← HQ.out, Int.natCast_ediv]; rfl, ?_, hxr.setCell (Nat.le_refl _) _⟩
        rw [← beFill_step size j n hlt hj, HN.out, bv_set]
        exact hst.1
      case measure => simp [intOf]; omega
    · obtain rfl : j = 0 := by omega
      have hb' : (Ty.sl .u8).holds wr F [.slice A bs.length c] bs := hxr.holds hF ⟨A, c, xs, rfl, hlc, hc, hA, hcell, hall⟩
      have hsrc := src_bytes hb'
      have hbe : beFill size 0 n = be size n := by simp [beFill]
      rw [hbe] at hor
      clear hbe
      go_wp2_with (first
        | (at_builtin; refine wpList_app _ rfl (.tmp 25) (.tmp 26) _ _ rfl _ _ i0 _ 1 1 Try.underlying35 Try.underlying35 hi hz0 hz1 hz2 rfl (by decide) _ _ _ rfl (own_empty rfl) _ _ _ (bv bs) rfl (by simp) (hsrc.alloc (bv_ne bs) _) (bv_one _) (by unfold maxLen; omega) (by omega) ?_; intro v2 w2 ho2 hm2; have hm3 : Fresh wr w2 v2 := (fresh_empty wr _).trans hm2; have hor2 := Own.ext hor hm3.ext)
        | (at_builtin; refine wpList_app _ rfl (.tmp 27) (.tmp 28) _ _ rfl _ _ i0 _ 1 1 Try.underlying35 Try.underlying35 hi hz0 hz1 hz2 rfl (by decide) _ _ _ rfl ho2 _ _ _ (bv (be size n)) rfl (by simp [be_length]) (own_src hor2) (bv_one _) (by unfold maxLen; omega) (by omega) ?_; intro v4 w4 ho4 hm4))
      go_ret
      refine ⟨_, rfl, ?_, Moved.pre hxr (hm3.trans hm4)⟩
      unfold OwnB
      rw [bv_append, List.length_append, be_length]
      simpa using ho4
end
section
open Go.RowKit

section
variable {g : Nat} {w0 w : World} {v0 cur : Value} {bs : List UInt8} {xs : List Item}
theorem CJ.appS (h : CJ g w0 v0 cur bs xs w) {o : Oper} {a : Act} {K : Act → World → Prop} {Q : Exit → Act → World → Prop} (s p : Operand) (t t' : TypeId) (ho : o.op = .call { callee := .builtin .append, args := #[s, p], argTypes := #[t, t'] })
    (ht : Try.prog.underlying t = some (.slice 5)) (ht' : Try.prog.underlying t' = some (.slice 5)) (hs : a.eval s = cur) (A : Option Addr) (m c : Nat) (l : List UInt8) (hp : a.eval p = .slice A m c) (hm : l.length = m) (hsrc : Src w A m (bv l)) (hb : bs.length + m ≤ 140737488355328)
    (hk : ∀ v' W', CJ g w0 v0 v' (bs ++ l) xs W' → KeepB (fun b => b = g) w W' → K (a.put o.dst v') W') : o.wp Try.prog a w K Q := by
  obtain ⟨i0, hi, hz0, hz1, hz2⟩ := info_parts u8_info
  refine wp_app w s p t t' ho 5 5 i0 _ 1 1 ht ht' hi hz0 hz1 hz2 rfl (by decide) cur _ _ hs h.own A m c (bv l) hp (by rw [bv_length, hm]; omega) hsrc (bv_one _) (by unfold maxLen; omega) (by omega) ?_
  intro v' w' ho' hm'
  subst hm
  have h1 := h.call (OwnB.app ho') hm'
  exact hk v' w' h1.1 h1.2
theorem CJ.appI (h : CJ g w0 v0 cur bs xs w) {o : Oper} {a : Act} {K : Act → World → Prop} {Q : Exit → Act → World → Prop} (s p : Operand) (t t' : TypeId) (ho : o.op = .call { callee := .builtin .append, args := #[s, p], argTypes := #[t, t'] })
    (ht : Try.prog.underlying t = some (.slice 5)) (ht' : Try.prog.underlying t' = some (.slice 5)) (hs : a.eval s = cur) {l : List UInt8} {vl : Value} (hx : (⟨.u8, l, vl⟩ : Item) ∈ xs) (hp : a.eval p = vl) (hb : bs.length + l.length ≤ 140737488355328)
    (hk : ∀ v' W', CJ g w0 v0 v' (bs ++ l) xs W' → KeepB (fun b => b = g) w W' → K (a.put o.dst v') W') : o.wp Try.prog a w K Q := by
  have h1 : (Ty.sl .u8).holds w (fun b => vl.ownBlock = some b) [vl] l := (h.it _ hx).1.1
  obtain ⟨A, c, hv⟩ : ∃ A c, vl = .slice A l.length c := by
    obtain ⟨A, c, xs', hv, _⟩ := h1
    exact ⟨A, c, by simpa using hv⟩
  rw [hv] at hp h1
  exact h.appS s p t t' ho ht ht' hs A _ c l hp rfl (src_bytes h1) hb hk
theorem CJ.num (h : CJ g w0 v0 cur bs xs w) (n size : Nat) (hn : n < 18446744073709551616) (hs : size ≤ 8) (hb : bs.length + size ≤ 140737488355328) :
    Calls Try.prog 31 #[cur, .int .u64 (n : Int), .int .i64 (size : Int)] w fun e w' => ∃ v', e = .returned v' ∧ CJ g w0 v0 v' (bs ++ be size n) xs w' ∧ KeepB (fun b => b = g) w w' := by
  refine (Ref_Num cur bs n size w _ (OwnB.holds h.own) (OwnB.lt h.own) hn hs hb).mono ?_
  rintro e w' ⟨v', rfl, ho, hf⟩
  exact ⟨v', rfl, h.call ho (Fresh.moved hf cur)⟩
theorem CJ.num0 (h : CJ g w0 v0 cur [] xs w) (vb : Value) (ds : List UInt8) (F : Fp) (hd : (Ty.sl .u8).holds w F [vb] ds) (hF : ∀ b, F b → b < w.heap.size) (n size : Nat) (hn : n < 18446744073709551616) (hs : size ≤ 8) (hb : ds.length + size ≤ 140737488355328) :
    Calls Try.prog 31 #[vb, .int .u64 (n : Int), .int .i64 (size : Int)] w fun e w' => ∃ v', e = .returned v' ∧ CJ g w0 v0 v' (ds ++ be size n) xs w' ∧ KeepB (fun b => b = g) w w' := by
  refine (Ref_Num vb ds n size w F hd hF hn hs hb).mono ?_
  rintro e w' ⟨v', rfl, ho, hf⟩
  exact ⟨v', rfl, h.call ho (Fresh.moved hf cur)⟩
theorem CJ.blk (h : CJ g w0 v0 cur bs xs w) (hv : ∀ b, v0.ownBlock = some b → b ≠ g) : w.heap[g]? = w0.heap[g]? := h.mv.grown.block g h.lt (fun e => hv _ e.symm rfl)
theorem CJ.ext (h : CJ g w0 (.slice none 0 0) cur bs xs w) : Ext w0 w := h.mv.grown
end
end
end Go.Proofs.Ytmicjaiiinaipaa

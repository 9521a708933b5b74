/- Walks and plain laws, put together in build order. Conditions: what each of them names. -/
import Derived.Test.YtmicjaiiinaipaaW02450f763c
set_option linter.unusedVariables false
set_option linter.unusedSimpArgs false
set_option linter.unnecessarySimpa false
namespace Go.Proofs.Ytmicjaiiinaipaa
section
open Go.RowKit

theorem u64_size1 : (Try.prog.info? 23).map (·.size) = some 1 := by kernel_rfl
theorem u64_zero1 : ((Try.prog.info? 23).bind (·.zero)).isSome = true := by kernel_rfl
theorem szHash {n : Nat} (h : n = 32) : (Try.prog.info? 45).map (·.size) = some n := by subst h; kernel_rfl
/-- A payment's bytes. -/
def condB (c : Cd) : List UInt8 := be 8 c.1 ++ byteOf c.2.1 :: (be 8 c.2.2.1 ++ (c.2.2.2.1 ++ be 8 c.2.2.2.2.1))
set_option maxRecDepth 100000 in
set_option maxHeartbeats 16000000 in
theorem LayCond (c : Cd) (v : Value) (bs : List UInt8) (w : World) (hok : CondOk c) (ho : OwnB w v bs) (hb : bs.length ≤ 140737488354304) :
    Calls Try.prog 29 #[v, .agg (condCells c).toArray] w fun e w' => ∃ v', e = .returned v' ∧ OwnB w' v' (bs ++ condB c) ∧ Moved w w' v v' := by
  have HH := Lib.hid hok.hash
  have hb0 : Blk (w.alloc (.cells (condCells c).toArray 47)) w.heap.size 47 (condCells c) := Blk.new _ _ _
  have hx0 : Ext w (w.alloc (.cells (condCells c).toArray 47)) := (Ext.refl w).alloc _
  have hne : ∀ b, v.ownBlock = some b → b ≠ w.heap.size := fun b hb e => by have := OwnB.lt ho b hb; omega
  have c35 : (condCells c)[35]? = some (.int .u64 (c.2.2.2.2.1 : Int)) := by
    show (bv c.2.2.2.1 ++ [Value.int .u64 (c.2.2.2.2.1 : Int)])[32]? = _
    rw [List.getElem?_append_right (by rw [bv_length, HH.out]; omega), bv_length, HH.out]
    rfl
  have ch : ((condCells c).drop 3).take 32 = bv c.2.2.2.1 := List.take_left' (by rw [bv_length, HH.out])
  have c0 : (condCells c)[0]? = some (.int .u64 (c.1 : Int)) := rfl
  have c1 : (condCells c)[1]? = some (.int .i64 c.2.1) := rfl
  have c2 : (condCells c)[2]? = some (.int .u64 (c.2.2.1 : Int)) := rfl
  generalize condCells c = CC at *
  have HB0 := Lib.hid hb0
  have HX0 := Lib.hid hx0
  have HO := Lib.hid ho
  have HNE := Lib.hid hne
  clear hb0 hx0 ho hne
  go_enter Try.func29, Try.ntmps29
  go_wp2
  have hb0 : Blk (w.alloc (.cells CC.toArray 47)).drew w.heap.size 47 CC := HB0.out
  have hx : Ext w (w.alloc (.cells CC.toArray 47)).drew := HX0.out.drew
  refine startM (KeepB fun b => b = w.heap.size) (by kernel_rfl) ?_
  (try simp only [Act.put, List.setIfInBounds_toArray, List.set_cons_succ, List.set_cons_zero])
  generalize (w.alloc (.cells CC.toArray 47)).drew = w0 at *
  have HK0 := Lib.hid ((hb0.cell 0).trans c0)
  have HK1 := Lib.hid ((hb0.cell 1).trans c1)
  have HK2 := Lib.hid ((hb0.cell 2).trans c2)
  have HK35 := Lib.hid ((hb0.cell 35).trans c35)
  have hkh : Cells w0 ⟨w.heap.size, 3, none⟩ (bv c.2.2.2.1) := by have h := (hb0.cells.drop 3).take 32; rw [ch, addr_at] at h; exact h
  have HKH := Lib.hid hkh
  have hJ0 : CJ w.heap.size w0 v v bs [] w0 := CJ.start hb0.lt (HO.out.ext hx) HNE.out
  have HX := Lib.hid hx
  clear hb0 hx hkh c0 c1 c2 c35 ch
  refine takeK 0 rfl (by kernel_rfl) (by kernel_rfl) (by kernel_rfl) rfl (fun _ _ _ _ h => h) rfl (fun K hK => ?_)
  go_big_quiet_op
  first | refine hK _ ?_ | refine ⟨_, fun _ _ => rfl, hK _ ?_⟩
  clear hK K
  refine takeK 1 rfl (by kernel_rfl) (by kernel_rfl) (by kernel_rfl) rfl (fun _ _ _ _ h => h) rfl (fun K hK => ?_)
  go_big_quiet_op
  first | refine hK _ ?_ | refine ⟨_, fun _ _ => rfl, hK _ ?_⟩
  clear hK K
  refine takeK 2 rfl (by kernel_rfl) (by kernel_rfl) (by kernel_rfl) rfl (fun _ _ _ _ h => h) rfl (fun K hK => ?_)
  refine quiet_cell _ _ rfl _ rfl _ _ Try.underlying23 rfl (fun W' h => KeepB.cell h HK0.out rfl) ?_
  refine hK _ ?_
  simp only [Act.put, List.setIfInBounds_toArray, List.set_cons_succ, List.set_cons_zero]
  clear hK K
  refine takeK 5 rfl (by kernel_rfl) (by kernel_rfl) (by kernel_rfl) rfl (fun _ _ _ _ h => h) rfl (fun K hK => ?_)
  go_big_quiet_op
  first | refine hK _ ?_ | refine ⟨_, fun _ _ => rfl, hK _ ?_⟩
  clear hK K
  refine takeK 6 rfl (by kernel_rfl) (by kernel_rfl) (by kernel_rfl) rfl (fun _ _ _ _ h => h) rfl (fun K hK => ?_)
  refine quiet_cell _ _ rfl _ rfl _ _ Try.underlying44 rfl (fun W' h => KeepB.cell h HK1.out rfl) ?_
  refine hK _ ?_
  simp only [Act.put, List.setIfInBounds_toArray, List.set_cons_succ, List.set_cons_zero]
  clear hK K
  refine takeK 7 rfl (by kernel_rfl) (by kernel_rfl) (by kernel_rfl) rfl (fun _ _ _ _ h => h) rfl (fun K hK => ?_)
  go_big_quiet_op
  first | refine hK _ ?_ | refine ⟨_, fun _ _ => rfl, hK _ ?_⟩
  clear hK K
  refine takeK 10 rfl (by kernel_rfl) (by kernel_rfl) (by kernel_rfl) rfl (fun _ _ _ _ h => h) rfl (fun K hK => ?_)
  go_big_quiet_op
  first | refine hK _ ?_ | refine ⟨_, fun _ _ => rfl, hK _ ?_⟩
  clear hK K
  refine takeK 11 rfl (by kernel_rfl) (by kernel_rfl) (by kernel_rfl) rfl (fun _ _ _ _ h => h) rfl (fun K hK => ?_)
  refine quiet_cell _ _ rfl _ rfl _ _ Try.underlying23 rfl (fun W' h => KeepB.cell h HK2.out rfl) ?_
  refine hK _ ?_
  simp only [Act.put, List.setIfInBounds_toArray, List.set_cons_succ, List.set_cons_zero]
  clear hK K
  refine takeK 14 rfl (by kernel_rfl) (by kernel_rfl) (by kernel_rfl) rfl (fun _ _ _ _ h => h) rfl (fun K hK => ?_)
  go_big_quiet_op
  first | refine hK _ ?_ | refine ⟨_, fun _ _ => rfl, hK _ ?_⟩
  clear hK K
  refine takeK 15 rfl (by kernel_rfl) (by kernel_rfl) (by kernel_rfl) rfl (fun _ _ _ _ h => h) rfl (fun K hK => ?_)
  refine quiet_agg 45 (.tmp 19) rfl _ rfl (bv c.2.2.2.1) _ Try.underlying45 rfl (szHash (by rw [bv_length]; exact HH.out)) (fun W' h => KeepB.cells h HKH.out rfl) ?_
  refine hK _ ?_
  simp only [Act.put, List.setIfInBounds_toArray, List.set_cons_succ, List.set_cons_zero]
  clear hK K
  refine takeK 18 rfl (by kernel_rfl) (by kernel_rfl) (by kernel_rfl) rfl (fun _ _ _ _ h => h) rfl (fun K hK => ?_)
  go_big_quiet_op
  first | refine hK _ ?_ | refine ⟨_, fun _ _ => rfl, hK _ ?_⟩
  clear hK K
  refine takeK 19 rfl (by kernel_rfl) (by kernel_rfl) (by kernel_rfl) rfl (fun _ _ _ _ h => h) rfl (fun K hK => ?_)
  refine quiet_cell _ _ rfl _ rfl _ _ Try.underlying23 rfl (fun W' h => KeepB.cell h HK35.out rfl) ?_
  refine hK _ ?_
  simp only [Act.put, List.setIfInBounds_toArray, List.set_cons_succ, List.set_cons_zero]
  clear hK K
  apply lat9 (fun v8 v9 v13 v14 v17 v18 v21 v22 v25 W => CJ w.heap.size w0 v v22 ((((bs ++ [c.1].flatMap (be 8)) ++ [byteOf c.2.1]) ++ [c.2.2.1].flatMap (be 8)) ++ [c.2.2.2.1].flatMap id) [⟨.nat .u64, [c.2.2.2.2.1], v25⟩] W)
  intro hM60
  apply lat8 (fun v8 v9 v13 v14 v17 v18 v21 v25 W => CJ w.heap.size w0 v v18 (((bs ++ [c.1].flatMap (be 8)) ++ [byteOf c.2.1]) ++ [c.2.2.1].flatMap (be 8)) [⟨.arr 32 .u8, [c.2.2.2.1], v21⟩, ⟨.nat .u64, [c.2.2.2.2.1], v25⟩] W)
  intro hM59
  apply lat8 (fun v8 v9 v13 v14 v17 v18 v21 v22 W => CJ w.heap.size w0 v v22 ((((bs ++ [c.1].flatMap (be 8)) ++ [byteOf c.2.1]) ++ [c.2.2.1].flatMap (be 8)) ++ [c.2.2.2.1].flatMap id) [] W)
  intro hM58
  apply lat7 (fun v8 v9 v13 v14 v17 v21 v25 W => CJ w.heap.size w0 v v14 ((bs ++ [c.1].flatMap (be 8)) ++ [byteOf c.2.1]) [⟨.nat .u64, [c.2.2.1], v17⟩, ⟨.arr 32 .u8, [c.2.2.2.1], v21⟩, ⟨.nat .u64, [c.2.2.2.2.1], v25⟩] W)
  intro hM57
  apply lat7 (fun v8 v9 v13 v14 v17 v18 v25 W => CJ w.heap.size w0 v v18 (((bs ++ [c.1].flatMap (be 8)) ++ [byteOf c.2.1]) ++ [c.2.2.1].flatMap (be 8)) [⟨.nat .u64, [c.2.2.2.2.1], v25⟩] W)
  intro hM56
  apply lat7 (fun v8 v9 v13 v14 v17 v18 v21 W => CJ w.heap.size w0 v v18 (((bs ++ [c.1].flatMap (be 8)) ++ [byteOf c.2.1]) ++ [c.2.2.1].flatMap (be 8)) [⟨.arr 32 .u8, [c.2.2.2.1], v21⟩] W)
  intro hM55
  apply lat6 (fun v8 v9 v13 v17 v21 v25 W => CJ w.heap.size w0 v v9 (bs ++ [c.1].flatMap (be 8)) [⟨.u8, [byteOf c.2.1], v13⟩, ⟨.nat .u64, [c.2.2.1], v17⟩, ⟨.arr 32 .u8, [c.2.2.2.1], v21⟩, ⟨.nat .u64, [c.2.2.2.2.1], v25⟩] W)
  intro hM54
  apply lat6 (fun v8 v9 v13 v14 v21 v25 W => CJ w.heap.size w0 v v14 ((bs ++ [c.1].flatMap (be 8)) ++ [byteOf c.2.1]) [⟨.arr 32 .u8, [c.2.2.2.1], v21⟩, ⟨.nat .u64, [c.2.2.2.2.1], v25⟩] W)
  intro hM53
  apply lat6 (fun v8 v9 v13 v14 v17 v25 W => CJ w.heap.size w0 v v14 ((bs ++ [c.1].flatMap (be 8)) ++ [byteOf c.2.1]) [⟨.nat .u64, [c.2.2.1], v17⟩, ⟨.nat .u64, [c.2.2.2.2.1], v25⟩] W)
  intro hM52
  apply lat6 (fun v8 v9 v13 v14 v17 v21 W => CJ w.heap.size w0 v v14 ((bs ++ [c.1].flatMap (be 8)) ++ [byteOf c.2.1]) [⟨.nat .u64, [c.2.2.1], v17⟩, ⟨.arr 32 .u8, [c.2.2.2.1], v21⟩] W)
  intro hM51
  apply lat6 (fun v8 v9 v13 v14 v17 v18 W => CJ w.heap.size w0 v v18 (((bs ++ [c.1].flatMap (be 8)) ++ [byteOf c.2.1]) ++ [c.2.2.1].flatMap (be 8)) [] W)
  intro hM50
  apply lat5 (fun v8 v13 v17 v21 v25 W => CJ w.heap.size w0 v v bs [⟨.nat .u64, [c.1], v8⟩, ⟨.u8, [byteOf c.2.1], v13⟩, ⟨.nat .u64, [c.2.2.1], v17⟩, ⟨.arr 32 .u8, [c.2.2.2.1], v21⟩, ⟨.nat .u64, [c.2.2.2.2.1], v25⟩] W)
  intro hM49
  apply lat5 (fun v8 v9 v17 v21 v25 W => CJ w.heap.size w0 v v9 (bs ++ [c.1].flatMap (be 8)) [⟨.nat .u64, [c.2.2.1], v17⟩, ⟨.arr 32 .u8, [c.2.2.2.1], v21⟩, ⟨.nat .u64, [c.2.2.2.2.1], v25⟩] W)
  intro hM48
  apply lat5 (fun v8 v9 v13 v21 v25 W => CJ w.heap.size w0 v v9 (bs ++ [c.1].flatMap (be 8)) [⟨.u8, [byteOf c.2.1], v13⟩, ⟨.arr 32 .u8, [c.2.2.2.1], v21⟩, ⟨.nat .u64, [c.2.2.2.2.1], v25⟩] W)
  intro hM47
  apply lat5 (fun v8 v9 v13 v17 v25 W => CJ w.heap.size w0 v v9 (bs ++ [c.1].flatMap (be 8)) [⟨.u8, [byteOf c.2.1], v13⟩, ⟨.nat .u64, [c.2.2.1], v17⟩, ⟨.nat .u64, [c.2.2.2.2.1], v25⟩] W)
  intro hM46
  apply lat5 (fun v8 v9 v13 v17 v21 W => CJ w.heap.size w0 v v9 (bs ++ [c.1].flatMap (be 8)) [⟨.u8, [byteOf c.2.1], v13⟩, ⟨.nat .u64, [c.2.2.1], v17⟩, ⟨.arr 32 .u8, [c.2.2.2.1], v21⟩] W)
  intro hM45
  apply lat5 (fun v8 v9 v13 v14 v25 W => CJ w.heap.size w0 v v14 ((bs ++ [c.1].flatMap (be 8)) ++ [byteOf c.2.1]) [⟨.nat .u64, [c.2.2.2.2.1], v25⟩] W)
  intro hM44
  apply lat5 (fun v8 v9 v13 v14 v21 W => CJ w.heap.size w0 v v14 ((bs ++ [c.1].flatMap (be 8)) ++ [byteOf c.2.1]) [⟨.arr 32 .u8, [c.2.2.2.1], v21⟩] W)
  intro hM43
  apply lat5 (fun v8 v9 v13 v14 v17 W => CJ w.heap.size w0 v v14 ((bs ++ [c.1].flatMap (be 8)) ++ [byteOf c.2.1]) [⟨.nat .u64, [c.2.2.1], v17⟩] W)
  intro hM42
  apply lat4 (fun v13 v17 v21 v25 W => CJ w.heap.size w0 v v bs [⟨.u8, [byteOf c.2.1], v13⟩, ⟨.nat .u64, [c.2.2.1], v17⟩, ⟨.arr 32 .u8, [c.2.2.2.1], v21⟩, ⟨.nat .u64, [c.2.2.2.2.1], v25⟩] W)
  intro hM41
  apply lat4 (fun v8 v17 v21 v25 W => CJ w.heap.size w0 v v bs [⟨.nat .u64, [c.1], v8⟩, ⟨.nat .u64, [c.2.2.1], v17⟩, ⟨.arr 32 .u8, [c.2.2.2.1], v21⟩, ⟨.nat .u64, [c.2.2.2.2.1], v25⟩] W)
  intro hM40
  apply lat4 (fun v8 v13 v21 v25 W => CJ w.heap.size w0 v v bs [⟨.nat .u64, [c.1], v8⟩, ⟨.u8, [byteOf c.2.1], v13⟩, ⟨.arr 32 .u8, [c.2.2.2.1], v21⟩, ⟨.nat .u64, [c.2.2.2.2.1], v25⟩] W)
  intro hM39
  apply lat4 (fun v8 v13 v17 v25 W => CJ w.heap.size w0 v v bs [⟨.nat .u64, [c.1], v8⟩, ⟨.u8, [byteOf c.2.1], v13⟩, ⟨.nat .u64, [c.2.2.1], v17⟩, ⟨.nat .u64, [c.2.2.2.2.1], v25⟩] W)
  intro hM38
  apply lat4 (fun v8 v13 v17 v21 W => CJ w.heap.size w0 v v bs [⟨.nat .u64, [c.1], v8⟩, ⟨.u8, [byteOf c.2.1], v13⟩, ⟨.nat .u64, [c.2.2.1], v17⟩, ⟨.arr 32 .u8, [c.2.2.2.1], v21⟩] W)
  intro hM37
  apply lat4 (fun v8 v9 v21 v25 W => CJ w.heap.size w0 v v9 (bs ++ [c.1].flatMap (be 8)) [⟨.arr 32 .u8, [c.2.2.2.1], v21⟩, ⟨.nat .u64, [c.2.2.2.2.1], v25⟩] W)
  intro hM36
  apply lat4 (fun v8 v9 v17 v25 W => CJ w.heap.size w0 v v9 (bs ++ [c.1].flatMap (be 8)) [⟨.nat .u64, [c.2.2.1], v17⟩, ⟨.nat .u64, [c.2.2.2.2.1], v25⟩] W)
  intro hM35
  apply lat4 (fun v8 v9 v17 v21 W => CJ w.heap.size w0 v v9 (bs ++ [c.1].flatMap (be 8)) [⟨.nat .u64, [c.2.2.1], v17⟩, ⟨.arr 32 .u8, [c.2.2.2.1], v21⟩] W)
  intro hM34
  apply lat4 (fun v8 v9 v13 v25 W => CJ w.heap.size w0 v v9 (bs ++ [c.1].flatMap (be 8)) [⟨.u8, [byteOf c.2.1], v13⟩, ⟨.nat .u64, [c.2.2.2.2.1], v25⟩] W)
  intro hM33
  apply lat4 (fun v8 v9 v13 v21 W => CJ w.heap.size w0 v v9 (bs ++ [c.1].flatMap (be 8)) [⟨.u8, [byteOf c.2.1], v13⟩, ⟨.arr 32 .u8, [c.2.2.2.1], v21⟩] W)
  intro hM32
  apply lat4 (fun v8 v9 v13 v17 W => CJ w.heap.size w0 v v9 (bs ++ [c.1].flatMap (be 8)) [⟨.u8, [byteOf c.2.1], v13⟩, ⟨.nat .u64, [c.2.2.1], v17⟩] W)
  intro hM31
  apply lat4 (fun v8 v9 v13 v14 W => CJ w.heap.size w0 v v14 ((bs ++ [c.1].flatMap (be 8)) ++ [byteOf c.2.1]) [] W)
  intro hM30
  apply lat3 (fun v17 v21 v25 W => CJ w.heap.size w0 v v bs [⟨.nat .u64, [c.2.2.1], v17⟩, ⟨.arr 32 .u8, [c.2.2.2.1], v21⟩, ⟨.nat .u64, [c.2.2.2.2.1], v25⟩] W)
  intro hM29
  apply lat3 (fun v13 v21 v25 W => CJ w.heap.size w0 v v bs [⟨.u8, [byteOf c.2.1], v13⟩, ⟨.arr 32 .u8, [c.2.2.2.1], v21⟩, ⟨.nat .u64, [c.2.2.2.2.1], v25⟩] W)
  intro hM28
  apply lat3 (fun v13 v17 v25 W => CJ w.heap.size w0 v v bs [⟨.u8, [byteOf c.2.1], v13⟩, ⟨.nat .u64, [c.2.2.1], v17⟩, ⟨.nat .u64, [c.2.2.2.2.1], v25⟩] W)
  intro hM27
  apply lat3 (fun v13 v17 v21 W => CJ w.heap.size w0 v v bs [⟨.u8, [byteOf c.2.1], v13⟩, ⟨.nat .u64, [c.2.2.1], v17⟩, ⟨.arr 32 .u8, [c.2.2.2.1], v21⟩] W)
  intro hM26
  apply lat3 (fun v8 v21 v25 W => CJ w.heap.size w0 v v bs [⟨.nat .u64, [c.1], v8⟩, ⟨.arr 32 .u8, [c.2.2.2.1], v21⟩, ⟨.nat .u64, [c.2.2.2.2.1], v25⟩] W)
  intro hM25
  apply lat3 (fun v8 v17 v25 W => CJ w.heap.size w0 v v bs [⟨.nat .u64, [c.1], v8⟩, ⟨.nat .u64, [c.2.2.1], v17⟩, ⟨.nat .u64, [c.2.2.2.2.1], v25⟩] W)
  intro hM24
  apply lat3 (fun v8 v17 v21 W => CJ w.heap.size w0 v v bs [⟨.nat .u64, [c.1], v8⟩, ⟨.nat .u64, [c.2.2.1], v17⟩, ⟨.arr 32 .u8, [c.2.2.2.1], v21⟩] W)
  intro hM23
  apply lat3 (fun v8 v13 v25 W => CJ w.heap.size w0 v v bs [⟨.nat .u64, [c.1], v8⟩, ⟨.u8, [byteOf c.2.1], v13⟩, ⟨.nat .u64, [c.2.2.2.2.1], v25⟩] W)
  intro hM22
  apply lat3 (fun v8 v13 v21 W => CJ w.heap.size w0 v v bs [⟨.nat .u64, [c.1], v8⟩, ⟨.u8, [byteOf c.2.1], v13⟩, ⟨.arr 32 .u8, [c.2.2.2.1], v21⟩] W)
  intro hM21
  apply lat3 (fun v8 v13 v17 W => CJ w.heap.size w0 v v bs [⟨.nat .u64, [c.1], v8⟩, ⟨.u8, [byteOf c.2.1], v13⟩, ⟨.nat .u64, [c.2.2.1], v17⟩] W)
  intro hM20
  apply lat3 (fun v8 v9 v25 W => CJ w.heap.size w0 v v9 (bs ++ [c.1].flatMap (be 8)) [⟨.nat .u64, [c.2.2.2.2.1], v25⟩] W)
  intro hM19
  apply lat3 (fun v8 v9 v21 W => CJ w.heap.size w0 v v9 (bs ++ [c.1].flatMap (be 8)) [⟨.arr 32 .u8, [c.2.2.2.1], v21⟩] W)
  intro hM18
  apply lat3 (fun v8 v9 v17 W => CJ w.heap.size w0 v v9 (bs ++ [c.1].flatMap (be 8)) [⟨.nat .u64, [c.2.2.1], v17⟩] W)
  intro hM17
  apply lat3 (fun v8 v9 v13 W => CJ w.heap.size w0 v v9 (bs ++ [c.1].flatMap (be 8)) [⟨.u8, [byteOf c.2.1], v13⟩] W)
  intro hM16
  apply lat2 (fun v21 v25 W => CJ w.heap.size w0 v v bs [⟨.arr 32 .u8, [c.2.2.2.1], v21⟩, ⟨.nat .u64, [c.2.2.2.2.1], v25⟩] W)
  intro hM15
  apply lat2 (fun v17 v25 W => CJ w.heap.size w0 v v bs [⟨.nat .u64, [c.2.2.1], v17⟩, ⟨.nat .u64, [c.2.2.2.2.1], v25⟩] W)
  intro hM14
  apply lat2 (fun v17 v21 W => CJ w.heap.size w0 v v bs [⟨.nat .u64, [c.2.2.1], v17⟩, ⟨.arr 32 .u8, [c.2.2.2.1], v21⟩] W)
  intro hM13
  apply lat2 (fun v13 v25 W => CJ w.heap.size w0 v v bs [⟨.u8, [byteOf c.2.1], v13⟩, ⟨.nat .u64, [c.2.2.2.2.1], v25⟩] W)
  intro hM12
  apply lat2 (fun v13 v21 W => CJ w.heap.size w0 v v bs [⟨.u8, [byteOf c.2.1], v13⟩, ⟨.arr 32 .u8, [c.2.2.2.1], v21⟩] W)
  intro hM11
  apply lat2 (fun v13 v17 W => CJ w.heap.size w0 v v bs [⟨.u8, [byteOf c.2.1], v13⟩, ⟨.nat .u64, [c.2.2.1], v17⟩] W)
  intro hM10
  apply lat2 (fun v8 v25 W => CJ w.heap.size w0 v v bs [⟨.nat .u64, [c.1], v8⟩, ⟨.nat .u64, [c.2.2.2.2.1], v25⟩] W)
  intro hM9
  apply lat2 (fun v8 v21 W => CJ w.heap.size w0 v v bs [⟨.nat .u64, [c.1], v8⟩, ⟨.arr 32 .u8, [c.2.2.2.1], v21⟩] W)
  intro hM8
  apply lat2 (fun v8 v17 W => CJ w.heap.size w0 v v bs [⟨.nat .u64, [c.1], v8⟩, ⟨.nat .u64, [c.2.2.1], v17⟩] W)
  intro hM7
  apply lat2 (fun v8 v13 W => CJ w.heap.size w0 v v bs [⟨.nat .u64, [c.1], v8⟩, ⟨.u8, [byteOf c.2.1], v13⟩] W)
  intro hM6
  apply lat2 (fun v8 v9 W => CJ w.heap.size w0 v v9 (bs ++ [c.1].flatMap (be 8)) [] W)
  intro hM5
  apply lat1 (fun v25 W => CJ w.heap.size w0 v v bs [⟨.nat .u64, [c.2.2.2.2.1], v25⟩] W)
  intro hM4
  apply lat1 (fun v21 W => CJ w.heap.size w0 v v bs [⟨.arr 32 .u8, [c.2.2.2.1], v21⟩] W)
  intro hM3
  apply lat1 (fun v17 W => CJ w.heap.size w0 v v bs [⟨.nat .u64, [c.2.2.1], v17⟩] W)
  intro hM2
  apply lat1 (fun v13 W => CJ w.heap.size w0 v v bs [⟨.u8, [byteOf c.2.1], v13⟩] W)
  intro hM1
  apply lat1 (fun v8 W => CJ w.heap.size w0 v v bs [⟨.nat .u64, [c.1], v8⟩] W)
  intro hM0
  · have HJ := Lib.hid hJ0
    refine anyofM 3 [8, 12, 16, 20] (by kernel_rfl) ⟨oneM rfl rfl (fun K hK => ?_), oneM rfl rfl (fun K hK => ?_), oneM rfl rfl (fun K hK => ?_), oneM rfl rfl (fun K hK => ?_), oneM rfl rfl (fun K hK => ?_), trivial⟩
    · refine HJ.out.mk1 121 (.tmp 7) rfl 23 Try.underlying121 (.nat .u64) c.1 _ [Value.int .u64 (c.1 : Int)] rfl rfl (fun _ _ => ⟨rfl, hok.id⟩) u64_size1 u64_zero1 (show 1 ≤ 16777216 by decide) (show 0 < 1 by decide) ?_
      intro v8 W hJ hkb
      have HJ := Lib.hid hJ
      clear hJ
      refine hK _ _ hkb ?_
      clear hK K
      (try simp only [Act.put, List.setIfInBounds_toArray, List.set_cons_succ, List.set_cons_zero])
      exact hM0 v8 _ (HJ.out.sub (by intro x hx; simp only [List.mem_cons, List.not_mem_nil, or_false] at hx; rcases hx with rfl <;> first | exact (.head _)))
    · refine HJ.out.mk1 35 (.tmp 12) rfl 5 Try.underlying35 .u8 (byteOf c.2.1) _ [Value.int .u8 ((byteOf c.2.1).toNat : Int)] rfl (by rw [byteOf_eq]; rfl) (fun _ _ => rfl) u8_sizeU u8_zeroU (show 1 ≤ 16777216 by decide) (show 0 < 1 by decide) ?_
      intro v13 W hJ hkb
      have HJ := Lib.hid hJ
      clear hJ
      refine hK _ _ hkb ?_
      clear hK K
      (try simp only [Act.put, List.setIfInBounds_toArray, List.set_cons_succ, List.set_cons_zero])
      exact hM1 v13 _ (HJ.out.sub (by intro x hx; simp only [List.mem_cons, List.not_mem_nil, or_false] at hx; rcases hx with rfl <;> first | exact (.head _)))
    · refine HJ.out.mk1 121 (.tmp 16) rfl 23 Try.underlying121 (.nat .u64) c.2.2.1 _ [Value.int .u64 (c.2.2.1 : Int)] rfl rfl (fun _ _ => ⟨rfl, hok.am⟩) u64_size1 u64_zero1 (show 1 ≤ 16777216 by decide) (show 0 < 1 by decide) ?_
      intro v17 W hJ hkb
      have HJ := Lib.hid hJ
      clear hJ
      refine hK _ _ hkb ?_
      clear hK K
      (try simp only [Act.put, List.setIfInBounds_toArray, List.set_cons_succ, List.set_cons_zero])
      exact hM2 v17 _ (HJ.out.sub (by intro x hx; simp only [List.mem_cons, List.not_mem_nil, or_false] at hx; rcases hx with rfl <;> first | exact (.head _)))
    · refine HJ.out.mk1 68 (.tmp 20) rfl 52 Try.underlying68 (.arr 32 .u8) c.2.2.2.1 _ (bv c.2.2.2.1) rfl rfl (fun _ _ => ⟨hok.hash, AllH.bytes.2 rfl⟩) (szDg (by rw [bv_length]; exact HH.out)) zDg (by rw [bv_length, HH.out]; decide) (by rw [bv_length, HH.out]; decide) ?_
      intro v21 W hJ hkb
      have HJ := Lib.hid hJ
      clear hJ
      refine hK _ _ hkb ?_
      clear hK K
      (try simp only [Act.put, List.setIfInBounds_toArray, List.set_cons_succ, List.set_cons_zero])
      exact hM3 v21 _ (HJ.out.sub (by intro x hx; simp only [List.mem_cons, List.not_mem_nil, or_false] at hx; rcases hx with rfl <;> first | exact (.head _)))
    · refine HJ.out.mk1 121 (.tmp 24) rfl 23 Try.underlying121 (.nat .u64) c.2.2.2.2.1 _ [Value.int .u64 (c.2.2.2.2.1 : Int)] rfl rfl (fun _ _ => ⟨rfl, hok.exp⟩) u64_size1 u64_zero1 (show 1 ≤ 16777216 by decide) (show 0 < 1 by decide) ?_
      intro v25 W hJ hkb
      have HJ := Lib.hid hJ
      clear hJ
      refine hK _ _ hkb ?_
      clear hK K
      (try simp only [Act.put, List.setIfInBounds_toArray, List.set_cons_succ, List.set_cons_zero])
      exact hM4 v25 _ (HJ.out.sub (by intro x hx; simp only [List.mem_cons, List.not_mem_nil, or_false] at hx; rcases hx with rfl <;> first | exact (.head _)))
  · intro v8 W hJ
    have HJ := Lib.hid hJ
    clear hJ
    refine anyofM 4 [8, 12, 16, 20] (by kernel_rfl) ⟨oneM rfl rfl (fun K hK => ?_), oneM rfl rfl (fun K hK => ?_), oneM rfl rfl (fun K hK => ?_), oneM rfl rfl (fun K hK => ?_), oneM rfl rfl (fun K hK => ?_), trivial⟩
    · go_simp
      refine (HJ.out.eight (.head _) (by simp only [List.length_append, List.length_cons, List.length_nil, List.flatMap_cons, List.flatMap_nil, be_length, HH.out, id]; omega)).mono ?_
      rintro e W ⟨v9, rfl, hJ, hkb⟩
      have HJ := Lib.hid hJ
      clear hJ
      refine hK _ _ hkb ?_
      clear hK K
      exact hM5 v8 v9 _ (HJ.out.sub (by intro x hx; cases hx))
    · refine HJ.out.mk1 35 (.tmp 12) rfl 5 Try.underlying35 .u8 (byteOf c.2.1) _ [Value.int .u8 ((byteOf c.2.1).toNat : Int)] rfl (by rw [byteOf_eq]; rfl) (fun _ _ => rfl) u8_sizeU u8_zeroU (show 1 ≤ 16777216 by decide) (show 0 < 1 by decide) ?_
      intro v13 W hJ hkb
      have HJ := Lib.hid hJ
      clear hJ
      refine hK _ _ hkb ?_
      clear hK K
      (try simp only [Act.put, List.setIfInBounds_toArray, List.set_cons_succ, List.set_cons_zero])
      exact hM6 v8 v13 _ (HJ.out.sub (by intro x hx; simp only [List.mem_cons, List.not_mem_nil, or_false] at hx; rcases hx with rfl | rfl <;> first | exact (.tail _ (.head _)) | exact (.head _)))
    · refine HJ.out.mk1 121 (.tmp 16) rfl 23 Try.underlying121 (.nat .u64) c.2.2.1 _ [Value.int .u64 (c.2.2.1 : Int)] rfl rfl (fun _ _ => ⟨rfl, hok.am⟩) u64_size1 u64_zero1 (show 1 ≤ 16777216 by decide) (show 0 < 1 by decide) ?_
      intro v17 W hJ hkb
      have HJ := Lib.hid hJ
      clear hJ
      refine hK _ _ hkb ?_
      clear hK K
      (try simp only [Act.put, List.setIfInBounds_toArray, List.set_cons_succ, List.set_cons_zero])
      exact hM7 v8 v17 _ (HJ.out.sub (by intro x hx; simp only [List.mem_cons, List.not_mem_nil, or_false] at hx; rcases hx with rfl | rfl <;> first | exact (.tail _ (.head _)) | exact (.head _)))
    · refine HJ.out.mk1 68 (.tmp 20) rfl 52 Try.underlying68 (.arr 32 .u8) c.2.2.2.1 _ (bv c.2.2.2.1) rfl rfl (fun _ _ => ⟨hok.hash, AllH.bytes.2 rfl⟩) (szDg (by rw [bv_length]; exact HH.out)) zDg (by rw [bv_length, HH.out]; decide) (by rw [bv_length, HH.out]; decide) ?_
      intro v21 W hJ hkb
      have HJ := Lib.hid hJ
      clear hJ
      refine hK _ _ hkb ?_
      clear hK K
      (try simp only [Act.put, List.setIfInBounds_toArray, List.set_cons_succ, List.set_cons_zero])
      exact hM8 v8 v21 _ (HJ.out.sub (by intro x hx; simp only [List.mem_cons, List.not_mem_nil, or_false] at hx; rcases hx with rfl | rfl <;> first | exact (.tail _ (.head _)) | exact (.head _)))
    · refine HJ.out.mk1 121 (.tmp 24) rfl 23 Try.underlying121 (.nat .u64) c.2.2.2.2.1 _ [Value.int .u64 (c.2.2.2.2.1 : Int)] rfl rfl (fun _ _ => ⟨rfl, hok.exp⟩) u64_size1 u64_zero1 (show 1 ≤ 16777216 by decide) (show 0 < 1 by decide) ?_
      intro v25 W hJ hkb
      have HJ := Lib.hid hJ
      clear hJ
      refine hK _ _ hkb ?_
      clear hK K
      (try simp only [Act.put, List.setIfInBounds_toArray, List.set_cons_succ, List.set_cons_zero])
      exact hM9 v8 v25 _ (HJ.out.sub (by intro x hx; simp only [List.mem_cons, List.not_mem_nil, or_false] at hx; rcases hx with rfl | rfl <;> first | exact (.tail _ (.head _)) | exact (.head _)))
  · intro v13 W hJ
    have HJ := Lib.hid hJ
    clear hJ
    refine anyofM 3 [12, 16, 20] (by kernel_rfl) ⟨oneM rfl rfl (fun K hK => ?_), oneM rfl rfl (fun K hK => ?_), oneM rfl rfl (fun K hK => ?_), oneM rfl rfl (fun K hK => ?_), trivial⟩
    · refine HJ.out.mk1 121 (.tmp 7) rfl 23 Try.underlying121 (.nat .u64) c.1 _ [Value.int .u64 (c.1 : Int)] rfl rfl (fun _ _ => ⟨rfl, hok.id⟩) u64_size1 u64_zero1 (show 1 ≤ 16777216 by decide) (show 0 < 1 by decide) ?_
      intro v8 W hJ hkb
      have HJ := Lib.hid hJ
      clear hJ
      refine hK _ _ hkb ?_
      clear hK K
      (try simp only [Act.put, List.setIfInBounds_toArray, List.set_cons_succ, List.set_cons_zero])
      exact relist (by kernel_rfl) (hM6 v8 v13 _ (HJ.out.sub (by intro x hx; simp only [List.mem_cons, List.not_mem_nil, or_false] at hx; rcases hx with rfl | rfl <;> first | exact (.head _) | exact (.tail _ (.head _)))))
    · refine HJ.out.mk1 121 (.tmp 16) rfl 23 Try.underlying121 (.nat .u64) c.2.2.1 _ [Value.int .u64 (c.2.2.1 : Int)] rfl rfl (fun _ _ => ⟨rfl, hok.am⟩) u64_size1 u64_zero1 (show 1 ≤ 16777216 by decide) (show 0 < 1 by decide) ?_
      intro v17 W hJ hkb
      have HJ := Lib.hid hJ
      clear hJ
      refine hK _ _ hkb ?_
      clear hK K
      (try simp only [Act.put, List.setIfInBounds_toArray, List.set_cons_succ, List.set_cons_zero])
      exact hM10 v13 v17 _ (HJ.out.sub (by intro x hx; simp only [List.mem_cons, List.not_mem_nil, or_false] at hx; rcases hx with rfl | rfl <;> first | exact (.tail _ (.head _)) | exact (.head _)))
    · refine HJ.out.mk1 68 (.tmp 20) rfl 52 Try.underlying68 (.arr 32 .u8) c.2.2.2.1 _ (bv c.2.2.2.1) rfl rfl (fun _ _ => ⟨hok.hash, AllH.bytes.2 rfl⟩) (szDg (by rw [bv_length]; exact HH.out)) zDg (by rw [bv_length, HH.out]; decide) (by rw [bv_length, HH.out]; decide) ?_
      intro v21 W hJ hkb
      have HJ := Lib.hid hJ
      clear hJ
      refine hK _ _ hkb ?_
      clear hK K
      (try simp only [Act.put, List.setIfInBounds_toArray, List.set_cons_succ, List.set_cons_zero])
      exact hM11 v13 v21 _ (HJ.out.sub (by intro x hx; simp only [List.mem_cons, List.not_mem_nil, or_false] at hx; rcases hx with rfl | rfl <;> first | exact (.tail _ (.head _)) | exact (.head _)))
    · refine HJ.out.mk1 121 (.tmp 24) rfl 23 Try.underlying121 (.nat .u64) c.2.2.2.2.1 _ [Value.int .u64 (c.2.2.2.2.1 : Int)] rfl rfl (fun _ _ => ⟨rfl, hok.exp⟩) u64_size1 u64_zero1 (show 1 ≤ 16777216 by decide) (show 0 < 1 by decide) ?_
      intro v25 W hJ hkb
      have HJ := Lib.hid hJ
      clear hJ
      refine hK _ _ hkb ?_
      clear hK K
      (try simp only [Act.put, List.setIfInBounds_toArray, List.set_cons_succ, List.set_cons_zero])
      exact hM12 v13 v25 _ (HJ.out.sub (by intro x hx; simp only [List.mem_cons, List.not_mem_nil, or_false] at hx; rcases hx with rfl | rfl <;> first | exact (.tail _ (.head _)) | exact (.head _)))
  · intro v17 W hJ
    have HJ := Lib.hid hJ
    clear hJ
    refine anyofM 3 [8, 16, 20] (by kernel_rfl) ⟨oneM rfl rfl (fun K hK => ?_), oneM rfl rfl (fun K hK => ?_), oneM rfl rfl (fun K hK => ?_), oneM rfl rfl (fun K hK => ?_), trivial⟩
    · refine HJ.out.mk1 121 (.tmp 7) rfl 23 Try.underlying121 (.nat .u64) c.1 _ [Value.int .u64 (c.1 : Int)] rfl rfl (fun _ _ => ⟨rfl, hok.id⟩) u64_size1 u64_zero1 (show 1 ≤ 16777216 by decide) (show 0 < 1 by decide) ?_
      intro v8 W hJ hkb
      have HJ := Lib.hid hJ
      clear hJ
      refine hK _ _ hkb ?_
      clear hK K
      (try simp only [Act.put, List.setIfInBounds_toArray, List.set_cons_succ, List.set_cons_zero])
      exact relist (by kernel_rfl) (hM7 v8 v17 _ (HJ.out.sub (by intro x hx; simp only [List.mem_cons, List.not_mem_nil, or_false] at hx; rcases hx with rfl | rfl <;> first | exact (.head _) | exact (.tail _ (.head _)))))
    · refine HJ.out.mk1 35 (.tmp 12) rfl 5 Try.underlying35 .u8 (byteOf c.2.1) _ [Value.int .u8 ((byteOf c.2.1).toNat : Int)] rfl (by rw [byteOf_eq]; rfl) (fun _ _ => rfl) u8_sizeU u8_zeroU (show 1 ≤ 16777216 by decide) (show 0 < 1 by decide) ?_
      intro v13 W hJ hkb
      have HJ := Lib.hid hJ
      clear hJ
      refine hK _ _ hkb ?_
      clear hK K
      (try simp only [Act.put, List.setIfInBounds_toArray, List.set_cons_succ, List.set_cons_zero])
      exact relist (by kernel_rfl) (hM10 v13 v17 _ (HJ.out.sub (by intro x hx; simp only [List.mem_cons, List.not_mem_nil, or_false] at hx; rcases hx with rfl | rfl <;> first | exact (.head _) | exact (.tail _ (.head _)))))
    · refine HJ.out.mk1 68 (.tmp 20) rfl 52 Try.underlying68 (.arr 32 .u8) c.2.2.2.1 _ (bv c.2.2.2.1) rfl rfl (fun _ _ => ⟨hok.hash, AllH.bytes.2 rfl⟩) (szDg (by rw [bv_length]; exact HH.out)) zDg (by rw [bv_length, HH.out]; decide) (by rw [bv_length, HH.out]; decide) ?_
      intro v21 W hJ hkb
      have HJ := Lib.hid hJ
      clear hJ
      refine hK _ _ hkb ?_
      clear hK K
      (try simp only [Act.put, List.setIfInBounds_toArray, List.set_cons_succ, List.set_cons_zero])
      exact hM13 v17 v21 _ (HJ.out.sub (by intro x hx; simp only [List.mem_cons, List.not_mem_nil, or_false] at hx; rcases hx with rfl | rfl <;> first | exact (.tail _ (.head _)) | exact (.head _)))
    · refine HJ.out.mk1 121 (.tmp 24) rfl 23 Try.underlying121 (.nat .u64) c.2.2.2.2.1 _ [Value.int .u64 (c.2.2.2.2.1 : Int)] rfl rfl (fun _ _ => ⟨rfl, hok.exp⟩) u64_size1 u64_zero1 (show 1 ≤ 16777216 by decide) (show 0 < 1 by decide) ?_
      intro v25 W hJ hkb
      have HJ := Lib.hid hJ
      clear hJ
      refine hK _ _ hkb ?_
      clear hK K
      (try simp only [Act.put, List.setIfInBounds_toArray, List.set_cons_succ, List.set_cons_zero])
      exact hM14 v17 v25 _ (HJ.out.sub (by intro x hx; simp only [List.mem_cons, List.not_mem_nil, or_false] at hx; rcases hx with rfl | rfl <;> first | exact (.tail _ (.head _)) | exact (.head _)))
  · intro v21 W hJ
    have HJ := Lib.hid hJ
    clear hJ
    refine anyofM 3 [8, 12, 20] (by kernel_rfl) ⟨oneM rfl rfl (fun K hK => ?_), oneM rfl rfl (fun K hK => ?_), oneM rfl rfl (fun K hK => ?_), oneM rfl rfl (fun K hK => ?_), trivial⟩
    · refine HJ.out.mk1 121 (.tmp 7) rfl 23 Try.underlying121 (.nat .u64) c.1 _ [Value.int .u64 (c.1 : Int)] rfl rfl (fun _ _ => ⟨rfl, hok.id⟩) u64_size1 u64_zero1 (show 1 ≤ 16777216 by decide) (show 0 < 1 by decide) ?_
      intro v8 W hJ hkb
      have HJ := Lib.hid hJ
      clear hJ
      refine hK _ _ hkb ?_
      clear hK K
      (try simp only [Act.put, List.setIfInBounds_toArray, List.set_cons_succ, List.set_cons_zero])
      exact relist (by kernel_rfl) (hM8 v8 v21 _ (HJ.out.sub (by intro x hx; simp only [List.mem_cons, List.not_mem_nil, or_false] at hx; rcases hx with rfl | rfl <;> first | exact (.head _) | exact (.tail _ (.head _)))))
    · refine HJ.out.mk1 35 (.tmp 12) rfl 5 Try.underlying35 .u8 (byteOf c.2.1) _ [Value.int .u8 ((byteOf c.2.1).toNat : Int)] rfl (by rw [byteOf_eq]; rfl) (fun _ _ => rfl) u8_sizeU u8_zeroU (show 1 ≤ 16777216 by decide) (show 0 < 1 by decide) ?_
      intro v13 W hJ hkb
      have HJ := Lib.hid hJ
      clear hJ
      refine hK _ _ hkb ?_
      clear hK K
      (try simp only [Act.put, List.setIfInBounds_toArray, List.set_cons_succ, List.set_cons_zero])
      exact relist (by kernel_rfl) (hM11 v13 v21 _ (HJ.out.sub (by intro x hx; simp only [List.mem_cons, List.not_mem_nil, or_false] at hx; rcases hx with rfl | rfl <;> first | exact (.head _) | exact (.tail _ (.head _)))))
    · refine HJ.out.mk1 121 (.tmp 16) rfl 23 Try.underlying121 (.nat .u64) c.2.2.1 _ [Value.int .u64 (c.2.2.1 : Int)] rfl rfl (fun _ _ => ⟨rfl, hok.am⟩) u64_size1 u64_zero1 (show 1 ≤ 16777216 by decide) (show 0 < 1 by decide) ?_
      intro v17 W hJ hkb
      have HJ := Lib.hid hJ
      clear hJ
      refine hK _ _ hkb ?_
      clear hK K
      (try simp only [Act.put, List.setIfInBounds_toArray, List.set_cons_succ, List.set_cons_zero])
      exact relist (by kernel_rfl) (hM13 v17 v21 _ (HJ.out.sub (by intro x hx; simp only [List.mem_cons, List.not_mem_nil, or_false] at hx; rcases hx with rfl | rfl <;> first | exact (.head _) | exact (.tail _ (.head _)))))
    · refine HJ.out.mk1 121 (.tmp 24) rfl 23 Try.underlying121 (.nat .u64) c.2.2.2.2.1 _ [Value.int .u64 (c.2.2.2.2.1 : Int)] rfl rfl (fun _ _ => ⟨rfl, hok.exp⟩) u64_size1 u64_zero1 (show 1 ≤ 16777216 by decide) (show 0 < 1 by decide) ?_
      intro v25 W hJ hkb
      have HJ := Lib.hid hJ
      clear hJ
      refine hK _ _ hkb ?_
      clear hK K
      (try simp only [Act.put, List.setIfInBounds_toArray, List.set_cons_succ, List.set_cons_zero])
      exact hM15 v21 v25 _ (HJ.out.sub (by intro x hx; simp only [List.mem_cons, List.not_mem_nil, or_false] at hx; rcases hx with rfl | rfl <;> first | exact (.tail _ (.head _)) | exact (.head _)))
  · intro v25 W hJ
    have HJ := Lib.hid hJ
    clear hJ
    refine anyofM 3 [8, 12, 16] (by kernel_rfl) ⟨oneM rfl rfl (fun K hK => ?_), oneM rfl rfl (fun K hK => ?_), oneM rfl rfl (fun K hK => ?_), oneM rfl rfl (fun K hK => ?_), trivial⟩
    · refine HJ.out.mk1 121 (.tmp 7) rfl 23 Try.underlying121 (.nat .u64) c.1 _ [Value.int .u64 (c.1 : Int)] rfl rfl (fun _ _ => ⟨rfl, hok.id⟩) u64_size1 u64_zero1 (show 1 ≤ 16777216 by decide) (show 0 < 1 by decide) ?_
      intro v8 W hJ hkb
      have HJ := Lib.hid hJ
      clear hJ
      refine hK _ _ hkb ?_
      clear hK K
      (try simp only [Act.put, List.setIfInBounds_toArray, List.set_cons_succ, List.set_cons_zero])
      exact relist (by kernel_rfl) (hM9 v8 v25 _ (HJ.out.sub (by intro x hx; simp only [List.mem_cons, List.not_mem_nil, or_false] at hx; rcases hx with rfl | rfl <;> first | exact (.head _) | exact (.tail _ (.head _)))))
    · refine HJ.out.mk1 35 (.tmp 12) rfl 5 Try.underlying35 .u8 (byteOf c.2.1) _ [Value.int .u8 ((byteOf c.2.1).toNat : Int)] rfl (by rw [byteOf_eq]; rfl) (fun _ _ => rfl) u8_sizeU u8_zeroU (show 1 ≤ 16777216 by decide) (show 0 < 1 by decide) ?_
      intro v13 W hJ hkb
      have HJ := Lib.hid hJ
      clear hJ
      refine hK _ _ hkb ?_
      clear hK K
      (try simp only [Act.put, List.setIfInBounds_toArray, List.set_cons_succ, List.set_cons_zero])
      exact relist (by kernel_rfl) (hM12 v13 v25 _ (HJ.out.sub (by intro x hx; simp only [List.mem_cons, List.not_mem_nil, or_false] at hx; rcases hx with rfl | rfl <;> first | exact (.head _) | exact (.tail _ (.head _)))))
    · refine HJ.out.mk1 121 (.tmp 16) rfl 23 Try.underlying121 (.nat .u64) c.2.2.1 _ [Value.int .u64 (c.2.2.1 : Int)] rfl rfl (fun _ _ => ⟨rfl, hok.am⟩) u64_size1 u64_zero1 (show 1 ≤ 16777216 by decide) (show 0 < 1 by decide) ?_
      intro v17 W hJ hkb
      have HJ := Lib.hid hJ
      clear hJ
      refine hK _ _ hkb ?_
      clear hK K
      (try simp only [Act.put, List.setIfInBounds_toArray, List.set_cons_succ, List.set_cons_zero])
      exact relist (by kernel_rfl) (hM14 v17 v25 _ (HJ.out.sub (by intro x hx; simp only [List.mem_cons, List.not_mem_nil, or_false] at hx; rcases hx with rfl | rfl <;> first | exact (.head _) | exact (.tail _ (.head _)))))
    · refine HJ.out.mk1 68 (.tmp 20) rfl 52 Try.underlying68 (.arr 32 .u8) c.2.2.2.1 _ (bv c.2.2.2.1) rfl rfl (fun _ _ => ⟨hok.hash, AllH.bytes.2 rfl⟩) (szDg (by rw [bv_length]; exact HH.out)) zDg (by rw [bv_length, HH.out]; decide) (by rw [bv_length, HH.out]; decide) ?_
      intro v21 W hJ hkb
      have HJ := Lib.hid hJ
      clear hJ
      refine hK _ _ hkb ?_
      clear hK K
      (try simp only [Act.put, List.setIfInBounds_toArray, List.set_cons_succ, List.set_cons_zero])
      exact relist (by kernel_rfl) (hM15 v21 v25 _ (HJ.out.sub (by intro x hx; simp only [List.mem_cons, List.not_mem_nil, or_false] at hx; rcases hx with rfl | rfl <;> first | exact (.head _) | exact (.tail _ (.head _)))))
  · intro v8 v9 W hJ
    have HJ := Lib.hid hJ
    clear hJ
    refine anyofM 8 [12, 16, 20] (by kernel_rfl) ⟨oneM rfl rfl (fun K hK => ?_), oneM rfl rfl (fun K hK => ?_), oneM rfl rfl (fun K hK => ?_), oneM rfl rfl (fun K hK => ?_), trivial⟩
    · refine HJ.out.mk1 35 (.tmp 12) rfl 5 Try.underlying35 .u8 (byteOf c.2.1) _ [Value.int .u8 ((byteOf c.2.1).toNat : Int)] rfl (by rw [byteOf_eq]; rfl) (fun _ _ => rfl) u8_sizeU u8_zeroU (show 1 ≤ 16777216 by decide) (show 0 < 1 by decide) ?_
      intro v13 W hJ hkb
      have HJ := Lib.hid hJ
      clear hJ
      refine hK _ _ hkb ?_
      clear hK K
      (try simp only [Act.put, List.setIfInBounds_toArray, List.set_cons_succ, List.set_cons_zero])
      exact hM16 v8 v9 v13 _ (HJ.out.sub (by intro x hx; simp only [List.mem_cons, List.not_mem_nil, or_false] at hx; rcases hx with rfl <;> first | exact (.head _)))
    · refine HJ.out.mk1 121 (.tmp 16) rfl 23 Try.underlying121 (.nat .u64) c.2.2.1 _ [Value.int .u64 (c.2.2.1 : Int)] rfl rfl (fun _ _ => ⟨rfl, hok.am⟩) u64_size1 u64_zero1 (show 1 ≤ 16777216 by decide) (show 0 < 1 by decide) ?_
      intro v17 W hJ hkb
      have HJ := Lib.hid hJ
      clear hJ
      refine hK _ _ hkb ?_
      clear hK K
      (try simp only [Act.put, List.setIfInBounds_toArray, List.set_cons_succ, List.set_cons_zero])
      exact hM17 v8 v9 v17 _ (HJ.out.sub (by intro x hx; simp only [List.mem_cons, List.not_mem_nil, or_false] at hx; rcases hx with rfl <;> first | exact (.head _)))
    · refine HJ.out.mk1 68 (.tmp 20) rfl 52 Try.underlying68 (.arr 32 .u8) c.2.2.2.1 _ (bv c.2.2.2.1) rfl rfl (fun _ _ => ⟨hok.hash, AllH.bytes.2 rfl⟩) (szDg (by rw [bv_length]; exact HH.out)) zDg (by rw [bv_length, HH.out]; decide) (by rw [bv_length, HH.out]; decide) ?_
      intro v21 W hJ hkb
      have HJ := Lib.hid hJ
      clear hJ
      refine hK _ _ hkb ?_
      clear hK K
      (try simp only [Act.put, List.setIfInBounds_toArray, List.set_cons_succ, List.set_cons_zero])
      exact hM18 v8 v9 v21 _ (HJ.out.sub (by intro x hx; simp only [List.mem_cons, List.not_mem_nil, or_false] at hx; rcases hx with rfl <;> first | exact (.head _)))
    · refine HJ.out.mk1 121 (.tmp 24) rfl 23 Try.underlying121 (.nat .u64) c.2.2.2.2.1 _ [Value.int .u64 (c.2.2.2.2.1 : Int)] rfl rfl (fun _ _ => ⟨rfl, hok.exp⟩) u64_size1 u64_zero1 (show 1 ≤ 16777216 by decide) (show 0 < 1 by decide) ?_
      intro v25 W hJ hkb
      have HJ := Lib.hid hJ
      clear hJ
      refine hK _ _ hkb ?_
      clear hK K
      (try simp only [Act.put, List.setIfInBounds_toArray, List.set_cons_succ, List.set_cons_zero])
      exact hM19 v8 v9 v25 _ (HJ.out.sub (by intro x hx; simp only [List.mem_cons, List.not_mem_nil, or_false] at hx; rcases hx with rfl <;> first | exact (.head _)))
  · intro v8 v13 W hJ
    have HJ := Lib.hid hJ
    clear hJ
    refine anyofM 4 [12, 16, 20] (by kernel_rfl) ⟨oneM rfl rfl (fun K hK => ?_), oneM rfl rfl (fun K hK => ?_), oneM rfl rfl (fun K hK => ?_), oneM rfl rfl (fun K hK => ?_), trivial⟩
    · go_simp
      refine (HJ.out.eight (.head _) (by simp only [List.length_append, List.length_cons, List.length_nil, List.flatMap_cons, List.flatMap_nil, be_length, HH.out, id]; omega)).mono ?_
      rintro e W ⟨v9, rfl, hJ, hkb⟩
      have HJ := Lib.hid hJ
      clear hJ
      refine hK _ _ hkb ?_
      clear hK K
      exact relist (by kernel_rfl) (hM16 v8 v9 v13 _ (HJ.out.sub (by intro x hx; simp only [List.mem_cons, List.not_mem_nil, or_false] at hx; rcases hx with rfl <;> first | exact (.tail _ (.head _)))))
    · refine HJ.out.mk1 121 (.tmp 16) rfl 23 Try.underlying121 (.nat .u64) c.2.2.1 _ [Value.int .u64 (c.2.2.1 : Int)] rfl rfl (fun _ _ => ⟨rfl, hok.am⟩) u64_size1 u64_zero1 (show 1 ≤ 16777216 by decide) (show 0 < 1 by decide) ?_
      intro v17 W hJ hkb
      have HJ := Lib.hid hJ
      clear hJ
      refine hK _ _ hkb ?_
      clear hK K
      (try simp only [Act.put, List.setIfInBounds_toArray, List.set_cons_succ, List.set_cons_zero])
      exact hM20 v8 v13 v17 _ (HJ.out.sub (by intro x hx; simp only [List.mem_cons, List.not_mem_nil, or_false] at hx; rcases hx with rfl | rfl | rfl <;> first | exact (.tail _ (.head _)) | exact (.tail _ (.tail _ (.head _))) | exact (.head _)))
    · refine HJ.out.mk1 68 (.tmp 20) rfl 52 Try.underlying68 (.arr 32 .u8) c.2.2.2.1 _ (bv c.2.2.2.1) rfl rfl (fun _ _ => ⟨hok.hash, AllH.bytes.2 rfl⟩) (szDg (by rw [bv_length]; exact HH.out)) zDg (by rw [bv_length, HH.out]; decide) (by rw [bv_length, HH.out]; decide) ?_
      intro v21 W hJ hkb
      have HJ := Lib.hid hJ
      clear hJ
      refine hK _ _ hkb ?_
      clear hK K
      (try simp only [Act.put, List.setIfInBounds_toArray, List.set_cons_succ, List.set_cons_zero])
      exact hM21 v8 v13 v21 _ (HJ.out.sub (by intro x hx; simp only [List.mem_cons, List.not_mem_nil, or_false] at hx; rcases hx with rfl | rfl | rfl <;> first | exact (.tail _ (.head _)) | exact (.tail _ (.tail _ (.head _))) | exact (.head _)))
    · refine HJ.out.mk1 121 (.tmp 24) rfl 23 Try.underlying121 (.nat .u64) c.2.2.2.2.1 _ [Value.int .u64 (c.2.2.2.2.1 : Int)] rfl rfl (fun _ _ => ⟨rfl, hok.exp⟩) u64_size1 u64_zero1 (show 1 ≤ 16777216 by decide) (show 0 < 1 by decide) ?_
      intro v25 W hJ hkb
      have HJ := Lib.hid hJ
      clear hJ
      refine hK _ _ hkb ?_
      clear hK K
      (try simp only [Act.put, List.setIfInBounds_toArray, List.set_cons_succ, List.set_cons_zero])
      exact hM22 v8 v13 v25 _ (HJ.out.sub (by intro x hx; simp only [List.mem_cons, List.not_mem_nil, or_false] at hx; rcases hx with rfl | rfl | rfl <;> first | exact (.tail _ (.head _)) | exact (.tail _ (.tail _ (.head _))) | exact (.head _)))
  · intro v8 v17 W hJ
    have HJ := Lib.hid hJ
    clear hJ
    refine anyofM 4 [8, 16, 20] (by kernel_rfl) ⟨oneM rfl rfl (fun K hK => ?_), oneM rfl rfl (fun K hK => ?_), oneM rfl rfl (fun K hK => ?_), oneM rfl rfl (fun K hK => ?_), trivial⟩
    · go_simp
      refine (HJ.out.eight (.head _) (by simp only [List.length_append, List.length_cons, List.length_nil, List.flatMap_cons, List.flatMap_nil, be_length, HH.out, id]; omega)).mono ?_
      rintro e W ⟨v9, rfl, hJ, hkb⟩
      have HJ := Lib.hid hJ
      clear hJ
      refine hK _ _ hkb ?_
      clear hK K
      exact relist (by kernel_rfl) (hM17 v8 v9 v17 _ (HJ.out.sub (by intro x hx; simp only [List.mem_cons, List.not_mem_nil, or_false] at hx; rcases hx with rfl <;> first | exact (.tail _ (.head _)))))
    · refine HJ.out.mk1 35 (.tmp 12) rfl 5 Try.underlying35 .u8 (byteOf c.2.1) _ [Value.int .u8 ((byteOf c.2.1).toNat : Int)] rfl (by rw [byteOf_eq]; rfl) (fun _ _ => rfl) u8_sizeU u8_zeroU (show 1 ≤ 16777216 by decide) (show 0 < 1 by decide) ?_
      intro v13 W hJ hkb
      have HJ := Lib.hid hJ
      clear hJ
      refine hK _ _ hkb ?_
      clear hK K
      (try simp only [Act.put, List.setIfInBounds_toArray, List.set_cons_succ, List.set_cons_zero])
      exact relist (by kernel_rfl) (hM20 v8 v13 v17 _ (HJ.out.sub (by intro x hx; simp only [List.mem_cons, List.not_mem_nil, or_false] at hx; rcases hx with rfl | rfl | rfl <;> first | exact (.tail _ (.head _)) | exact (.head _) | exact (.tail _ (.tail _ (.head _))))))
    · refine HJ.out.mk1 68 (.tmp 20) rfl 52 Try.underlying68 (.arr 32 .u8) c.2.2.2.1 _ (bv c.2.2.2.1) rfl rfl (fun _ _ => ⟨hok.hash, AllH.bytes.2 rfl⟩) (szDg (by rw [bv_length]; exact HH.out)) zDg (by rw [bv_length, HH.out]; decide) (by rw [bv_length, HH.out]; decide) ?_
      intro v21 W hJ hkb
      have HJ := Lib.hid hJ
      clear hJ
      refine hK _ _ hkb ?_
      clear hK K
      (try simp only [Act.put, List.setIfInBounds_toArray, List.set_cons_succ, List.set_cons_zero])
      exact hM23 v8 v17 v21 _ (HJ.out.sub (by intro x hx; simp only [List.mem_cons, List.not_mem_nil, or_false] at hx; rcases hx with rfl | rfl | rfl <;> first | exact (.tail _ (.head _)) | exact (.tail _ (.tail _ (.head _))) | exact (.head _)))
    · refine HJ.out.mk1 121 (.tmp 24) rfl 23 Try.underlying121 (.nat .u64) c.2.2.2.2.1 _ [Value.int .u64 (c.2.2.2.2.1 : Int)] rfl rfl (fun _ _ => ⟨rfl, hok.exp⟩) u64_size1 u64_zero1 (show 1 ≤ 16777216 by decide) (show 0 < 1 by decide) ?_
      intro v25 W hJ hkb
      have HJ := Lib.hid hJ
      clear hJ
      refine hK _ _ hkb ?_
      clear hK K
      (try simp only [Act.put, List.setIfInBounds_toArray, List.set_cons_succ, List.set_cons_zero])
      exact hM24 v8 v17 v25 _ (HJ.out.sub (by intro x hx; simp only [List.mem_cons, List.not_mem_nil, or_false] at hx; rcases hx with rfl | rfl | rfl <;> first | exact (.tail _ (.head _)) | exact (.tail _ (.tail _ (.head _))) | exact (.head _)))
  · intro v8 v21 W hJ
    have HJ := Lib.hid hJ
    clear hJ
    refine anyofM 4 [8, 12, 20] (by kernel_rfl) ⟨oneM rfl rfl (fun K hK => ?_), oneM rfl rfl (fun K hK => ?_), oneM rfl rfl (fun K hK => ?_), oneM rfl rfl (fun K hK => ?_), trivial⟩
    · go_simp
      refine (HJ.out.eight (.head _) (by simp only [List.length_append, List.length_cons, List.length_nil, List.flatMap_cons, List.flatMap_nil, be_length, HH.out, id]; omega)).mono ?_
      rintro e W ⟨v9, rfl, hJ, hkb⟩
      have HJ := Lib.hid hJ
      clear hJ
      refine hK _ _ hkb ?_
      clear hK K
      exact relist (by kernel_rfl) (hM18 v8 v9 v21 _ (HJ.out.sub (by intro x hx; simp only [List.mem_cons, List.not_mem_nil, or_false] at hx; rcases hx with rfl <;> first | exact (.tail _ (.head _)))))
    · refine HJ.out.mk1 35 (.tmp 12) rfl 5 Try.underlying35 .u8 (byteOf c.2.1) _ [Value.int .u8 ((byteOf c.2.1).toNat : Int)] rfl (by rw [byteOf_eq]; rfl) (fun _ _ => rfl) u8_sizeU u8_zeroU (show 1 ≤ 16777216 by decide) (show 0 < 1 by decide) ?_
      intro v13 W hJ hkb
      have HJ := Lib.hid hJ
      clear hJ
      refine hK _ _ hkb ?_
      clear hK K
      (try simp only [Act.put, List.setIfInBounds_toArray, List.set_cons_succ, List.set_cons_zero])
      exact relist (by kernel_rfl) (hM21 v8 v13 v21 _ (HJ.out.sub (by intro x hx; simp only [List.mem_cons, List.not_mem_nil, or_false] at hx; rcases hx with rfl | rfl | rfl <;> first | exact (.tail _ (.head _)) | exact (.head _) | exact (.tail _ (.tail _ (.head _))))))
    · refine HJ.out.mk1 121 (.tmp 16) rfl 23 Try.underlying121 (.nat .u64) c.2.2.1 _ [Value.int .u64 (c.2.2.1 : Int)] rfl rfl (fun _ _ => ⟨rfl, hok.am⟩) u64_size1 u64_zero1 (show 1 ≤ 16777216 by decide) (show 0 < 1 by decide) ?_
      intro v17 W hJ hkb
      have HJ := Lib.hid hJ
      clear hJ
      refine hK _ _ hkb ?_
      clear hK K
      (try simp only [Act.put, List.setIfInBounds_toArray, List.set_cons_succ, List.set_cons_zero])
      exact relist (by kernel_rfl) (hM23 v8 v17 v21 _ (HJ.out.sub (by intro x hx; simp only [List.mem_cons, List.not_mem_nil, or_false] at hx; rcases hx with rfl | rfl | rfl <;> first | exact (.tail _ (.head _)) | exact (.head _) | exact (.tail _ (.tail _ (.head _))))))
    · refine HJ.out.mk1 121 (.tmp 24) rfl 23 Try.underlying121 (.nat .u64) c.2.2.2.2.1 _ [Value.int .u64 (c.2.2.2.2.1 : Int)] rfl rfl (fun _ _ => ⟨rfl, hok.exp⟩) u64_size1 u64_zero1 (show 1 ≤ 16777216 by decide) (show 0 < 1 by decide) ?_
      intro v25 W hJ hkb
      have HJ := Lib.hid hJ
      clear hJ
      refine hK _ _ hkb ?_
      clear hK K
      (try simp only [Act.put, List.setIfInBounds_toArray, List.set_cons_succ, List.set_cons_zero])
      exact hM25 v8 v21 v25 _ (HJ.out.sub (by intro x hx; simp only [List.mem_cons, List.not_mem_nil, or_false] at hx; rcases hx with rfl | rfl | rfl <;> first | exact (.tail _ (.head _)) | exact (.tail _ (.tail _ (.head _))) | exact (.head _)))
  · intro v8 v25 W hJ
    have HJ := Lib.hid hJ
    clear hJ
    refine anyofM 4 [8, 12, 16] (by kernel_rfl) ⟨oneM rfl rfl (fun K hK => ?_), oneM rfl rfl (fun K hK => ?_), oneM rfl rfl (fun K hK => ?_), oneM rfl rfl (fun K hK => ?_), trivial⟩
    · go_simp
      refine (HJ.out.eight (.head _) (by simp only [List.length_append, List.length_cons, List.length_nil, List.flatMap_cons, List.flatMap_nil, be_length, HH.out, id]; omega)).mono ?_
      rintro e W ⟨v9, rfl, hJ, hkb⟩
      have HJ := Lib.hid hJ
      clear hJ
      refine hK _ _ hkb ?_
      clear hK K
      exact relist (by kernel_rfl) (hM19 v8 v9 v25 _ (HJ.out.sub (by intro x hx; simp only [List.mem_cons, List.not_mem_nil, or_false] at hx; rcases hx with rfl <;> first | exact (.tail _ (.head _)))))
    · refine HJ.out.mk1 35 (.tmp 12) rfl 5 Try.underlying35 .u8 (byteOf c.2.1) _ [Value.int .u8 ((byteOf c.2.1).toNat : Int)] rfl (by rw [byteOf_eq]; rfl) (fun _ _ => rfl) u8_sizeU u8_zeroU (show 1 ≤ 16777216 by decide) (show 0 < 1 by decide) ?_
      intro v13 W hJ hkb
      have HJ := Lib.hid hJ
      clear hJ
      refine hK _ _ hkb ?_
      clear hK K
      (try simp only [Act.put, List.setIfInBounds_toArray, List.set_cons_succ, List.set_cons_zero])
      exact relist (by kernel_rfl) (hM22 v8 v13 v25 _ (HJ.out.sub (by intro x hx; simp only [List.mem_cons, List.not_mem_nil, or_false] at hx; rcases hx with rfl | rfl | rfl <;> first | exact (.tail _ (.head _)) | exact (.head _) | exact (.tail _ (.tail _ (.head _))))))
    · refine HJ.out.mk1 121 (.tmp 16) rfl 23 Try.underlying121 (.nat .u64) c.2.2.1 _ [Value.int .u64 (c.2.2.1 : Int)] rfl rfl (fun _ _ => ⟨rfl, hok.am⟩) u64_size1 u64_zero1 (show 1 ≤ 16777216 by decide) (show 0 < 1 by decide) ?_
      intro v17 W hJ hkb
      have HJ := Lib.hid hJ
      clear hJ
      refine hK _ _ hkb ?_
      clear hK K
      (try simp only [Act.put, List.setIfInBounds_toArray, List.set_cons_succ, List.set_cons_zero])
      exact relist (by kernel_rfl) (hM24 v8 v17 v25 _ (HJ.out.sub (by intro x hx; simp only [List.mem_cons, List.not_mem_nil, or_false] at hx; rcases hx with rfl | rfl | rfl <;> first | exact (.tail _ (.head _)) | exact (.head _) | exact (.tail _ (.tail _ (.head _))))))
    · refine HJ.out.mk1 68 (.tmp 20) rfl 52 Try.underlying68 (.arr 32 .u8) c.2.2.2.1 _ (bv c.2.2.2.1) rfl rfl (fun _ _ => ⟨hok.hash, AllH.bytes.2 rfl⟩) (szDg (by rw [bv_length]; exact HH.out)) zDg (by rw [bv_length, HH.out]; decide) (by rw [bv_length, HH.out]; decide) ?_
      intro v21 W hJ hkb
      have HJ := Lib.hid hJ
      clear hJ
      refine hK _ _ hkb ?_
      clear hK K
      (try simp only [Act.put, List.setIfInBounds_toArray, List.set_cons_succ, List.set_cons_zero])
      exact relist (by kernel_rfl) (hM25 v8 v21 v25 _ (HJ.out.sub (by intro x hx; simp only [List.mem_cons, List.not_mem_nil, or_false] at hx; rcases hx with rfl | rfl | rfl <;> first | exact (.tail _ (.head _)) | exact (.head _) | exact (.tail _ (.tail _ (.head _))))))
  · intro v13 v17 W hJ
    have HJ := Lib.hid hJ
    clear hJ
    refine anyofM 3 [16, 20] (by kernel_rfl) ⟨oneM rfl rfl (fun K hK => ?_), oneM rfl rfl (fun K hK => ?_), oneM rfl rfl (fun K hK => ?_), trivial⟩
    · refine HJ.out.mk1 121 (.tmp 7) rfl 23 Try.underlying121 (.nat .u64) c.1 _ [Value.int .u64 (c.1 : Int)] rfl rfl (fun _ _ => ⟨rfl, hok.id⟩) u64_size1 u64_zero1 (show 1 ≤ 16777216 by decide) (show 0 < 1 by decide) ?_
      intro v8 W hJ hkb
      have HJ := Lib.hid hJ
      clear hJ
      refine hK _ _ hkb ?_
      clear hK K
      (try simp only [Act.put, List.setIfInBounds_toArray, List.set_cons_succ, List.set_cons_zero])
      exact relist (by kernel_rfl) (hM20 v8 v13 v17 _ (HJ.out.sub (by intro x hx; simp only [List.mem_cons, List.not_mem_nil, or_false] at hx; rcases hx with rfl | rfl | rfl <;> first | exact (.head _) | exact (.tail _ (.head _)) | exact (.tail _ (.tail _ (.head _))))))
    · refine HJ.out.mk1 68 (.tmp 20) rfl 52 Try.underlying68 (.arr 32 .u8) c.2.2.2.1 _ (bv c.2.2.2.1) rfl rfl (fun _ _ => ⟨hok.hash, AllH.bytes.2 rfl⟩) (szDg (by rw [bv_length]; exact HH.out)) zDg (by rw [bv_length, HH.out]; decide) (by rw [bv_length, HH.out]; decide) ?_
      intro v21 W hJ hkb
      have HJ := Lib.hid hJ
      clear hJ
      refine hK _ _ hkb ?_
      clear hK K
      (try simp only [Act.put, List.setIfInBounds_toArray, List.set_cons_succ, List.set_cons_zero])
      exact hM26 v13 v17 v21 _ (HJ.out.sub (by intro x hx; simp only [List.mem_cons, List.not_mem_nil, or_false] at hx; rcases hx with rfl | rfl | rfl <;> first | exact (.tail _ (.head _)) | exact (.tail _ (.tail _ (.head _))) | exact (.head _)))
    · refine HJ.out.mk1 121 (.tmp 24) rfl 23 Try.underlying121 (.nat .u64) c.2.2.2.2.1 _ [Value.int .u64 (c.2.2.2.2.1 : Int)] rfl rfl (fun _ _ => ⟨rfl, hok.exp⟩) u64_size1 u64_zero1 (show 1 ≤ 16777216 by decide) (show 0 < 1 by decide) ?_
      intro v25 W hJ hkb
      have HJ := Lib.hid hJ
      clear hJ
      refine hK _ _ hkb ?_
      clear hK K
      (try simp only [Act.put, List.setIfInBounds_toArray, List.set_cons_succ, List.set_cons_zero])
      exact hM27 v13 v17 v25 _ (HJ.out.sub (by intro x hx; simp only [List.mem_cons, List.not_mem_nil, or_false] at hx; rcases hx with rfl | rfl | rfl <;> first | exact (.tail _ (.head _)) | exact (.tail _ (.tail _ (.head _))) | exact (.head _)))
  · intro v13 v21 W hJ
    have HJ := Lib.hid hJ
    clear hJ
    refine anyofM 3 [12, 20] (by kernel_rfl) ⟨oneM rfl rfl (fun K hK => ?_), oneM rfl rfl (fun K hK => ?_), oneM rfl rfl (fun K hK => ?_), trivial⟩
    · refine HJ.out.mk1 121 (.tmp 7) rfl 23 Try.underlying121 (.nat .u64) c.1 _ [Value.int .u64 (c.1 : Int)] rfl rfl (fun _ _ => ⟨rfl, hok.id⟩) u64_size1 u64_zero1 (show 1 ≤ 16777216 by decide) (show 0 < 1 by decide) ?_
      intro v8 W hJ hkb
      have HJ := Lib.hid hJ
      clear hJ
      refine hK _ _ hkb ?_
      clear hK K
      (try simp only [Act.put, List.setIfInBounds_toArray, List.set_cons_succ, List.set_cons_zero])
      exact relist (by kernel_rfl) (hM21 v8 v13 v21 _ (HJ.out.sub (by intro x hx; simp only [List.mem_cons, List.not_mem_nil, or_false] at hx; rcases hx with rfl | rfl | rfl <;> first | exact (.head _) | exact (.tail _ (.head _)) | exact (.tail _ (.tail _ (.head _))))))
    · refine HJ.out.mk1 121 (.tmp 16) rfl 23 Try.underlying121 (.nat .u64) c.2.2.1 _ [Value.int .u64 (c.2.2.1 : Int)] rfl rfl (fun _ _ => ⟨rfl, hok.am⟩) u64_size1 u64_zero1 (show 1 ≤ 16777216 by decide) (show 0 < 1 by decide) ?_
      intro v17 W hJ hkb
      have HJ := Lib.hid hJ
      clear hJ
      refine hK _ _ hkb ?_
      clear hK K
      (try simp only [Act.put, List.setIfInBounds_toArray, List.set_cons_succ, List.set_cons_zero])
      exact relist (by kernel_rfl) (hM26 v13 v17 v21 _ (HJ.out.sub (by intro x hx; simp only [List.mem_cons, List.not_mem_nil, or_false] at hx; rcases hx with rfl | rfl | rfl <;> first | exact (.tail _ (.head _)) | exact (.head _) | exact (.tail _ (.tail _ (.head _))))))
    · refine HJ.out.mk1 121 (.tmp 24) rfl 23 Try.underlying121 (.nat .u64) c.2.2.2.2.1 _ [Value.int .u64 (c.2.2.2.2.1 : Int)] rfl rfl (fun _ _ => ⟨rfl, hok.exp⟩) u64_size1 u64_zero1 (show 1 ≤ 16777216 by decide) (show 0 < 1 by decide) ?_
      intro v25 W hJ hkb
      have HJ := Lib.hid hJ
      clear hJ
      refine hK _ _ hkb ?_
      clear hK K
      (try simp only [Act.put, List.setIfInBounds_toArray, List.set_cons_succ, List.set_cons_zero])
      exact hM28 v13 v21 v25 _ (HJ.out.sub (by intro x hx; simp only [List.mem_cons, List.not_mem_nil, or_false] at hx; rcases hx with rfl | rfl | rfl <;> first | exact (.tail _ (.head _)) | exact (.tail _ (.tail _ (.head _))) | exact (.head _)))
  · intro v13 v25 W hJ
    have HJ := Lib.hid hJ
    clear hJ
    refine anyofM 3 [12, 16] (by kernel_rfl) ⟨oneM rfl rfl (fun K hK => ?_), oneM rfl rfl (fun K hK => ?_), oneM rfl rfl (fun K hK => ?_), trivial⟩
    · refine HJ.out.mk1 121 (.tmp 7) rfl 23 Try.underlying121 (.nat .u64) c.1 _ [Value.int .u64 (c.1 : Int)] rfl rfl (fun _ _ => ⟨rfl, hok.id⟩) u64_size1 u64_zero1 (show 1 ≤ 16777216 by decide) (show 0 < 1 by decide) ?_
      intro v8 W hJ hkb
      have HJ := Lib.hid hJ
      clear hJ
      refine hK _ _ hkb ?_
      clear hK K
      (try simp only [Act.put, List.setIfInBounds_toArray, List.set_cons_succ, List.set_cons_zero])
      exact relist (by kernel_rfl) (hM22 v8 v13 v25 _ (HJ.out.sub (by intro x hx; simp only [List.mem_cons, List.not_mem_nil, or_false] at hx; rcases hx with rfl | rfl | rfl <;> first | exact (.head _) | exact (.tail _ (.head _)) | exact (.tail _ (.tail _ (.head _))))))
    · refine HJ.out.mk1 121 (.tmp 16) rfl 23 Try.underlying121 (.nat .u64) c.2.2.1 _ [Value.int .u64 (c.2.2.1 : Int)] rfl rfl (fun _ _ => ⟨rfl, hok.am⟩) u64_size1 u64_zero1 (show 1 ≤ 16777216 by decide) (show 0 < 1 by decide) ?_
      intro v17 W hJ hkb
      have HJ := Lib.hid hJ
      clear hJ
      refine hK _ _ hkb ?_
      clear hK K
      (try simp only [Act.put, List.setIfInBounds_toArray, List.set_cons_succ, List.set_cons_zero])
      exact relist (by kernel_rfl) (hM27 v13 v17 v25 _ (HJ.out.sub (by intro x hx; simp only [List.mem_cons, List.not_mem_nil, or_false] at hx; rcases hx with rfl | rfl | rfl <;> first | exact (.tail _ (.head _)) | exact (.head _) | exact (.tail _ (.tail _ (.head _))))))
    · refine HJ.out.mk1 68 (.tmp 20) rfl 52 Try.underlying68 (.arr 32 .u8) c.2.2.2.1 _ (bv c.2.2.2.1) rfl rfl (fun _ _ => ⟨hok.hash, AllH.bytes.2 rfl⟩) (szDg (by rw [bv_length]; exact HH.out)) zDg (by rw [bv_length, HH.out]; decide) (by rw [bv_length, HH.out]; decide) ?_
      intro v21 W hJ hkb
      have HJ := Lib.hid hJ
      clear hJ
      refine hK _ _ hkb ?_
      clear hK K
      (try simp only [Act.put, List.setIfInBounds_toArray, List.set_cons_succ, List.set_cons_zero])
      exact relist (by kernel_rfl) (hM28 v13 v21 v25 _ (HJ.out.sub (by intro x hx; simp only [List.mem_cons, List.not_mem_nil, or_false] at hx; rcases hx with rfl | rfl | rfl <;> first | exact (.tail _ (.head _)) | exact (.head _) | exact (.tail _ (.tail _ (.head _))))))
  · intro v17 v21 W hJ
    have HJ := Lib.hid hJ
    clear hJ
    refine anyofM 3 [8, 20] (by kernel_rfl) ⟨oneM rfl rfl (fun K hK => ?_), oneM rfl rfl (fun K hK => ?_), oneM rfl rfl (fun K hK => ?_), trivial⟩
    · refine HJ.out.mk1 121 (.tmp 7) rfl 23 Try.underlying121 (.nat .u64) c.1 _ [Value.int .u64 (c.1 : Int)] rfl rfl (fun _ _ => ⟨rfl, hok.id⟩) u64_size1 u64_zero1 (show 1 ≤ 16777216 by decide) (show 0 < 1 by decide) ?_
      intro v8 W hJ hkb
      have HJ := Lib.hid hJ
      clear hJ
      refine hK _ _ hkb ?_
      clear hK K
      (try simp only [Act.put, List.setIfInBounds_toArray, List.set_cons_succ, List.set_cons_zero])
      exact relist (by kernel_rfl) (hM23 v8 v17 v21 _ (HJ.out.sub (by intro x hx; simp only [List.mem_cons, List.not_mem_nil, or_false] at hx; rcases hx with rfl | rfl | rfl <;> first | exact (.head _) | exact (.tail _ (.head _)) | exact (.tail _ (.tail _ (.head _))))))
    · refine HJ.out.mk1 35 (.tmp 12) rfl 5 Try.underlying35 .u8 (byteOf c.2.1) _ [Value.int .u8 ((byteOf c.2.1).toNat : Int)] rfl (by rw [byteOf_eq]; rfl) (fun _ _ => rfl) u8_sizeU u8_zeroU (show 1 ≤ 16777216 by decide) (show 0 < 1 by decide) ?_
      intro v13 W hJ hkb
      have HJ := Lib.hid hJ
      clear hJ
      refine hK _ _ hkb ?_
      clear hK K
      (try simp only [Act.put, List.setIfInBounds_toArray, List.set_cons_succ, List.set_cons_zero])
      exact relist (by kernel_rfl) (hM26 v13 v17 v21 _ (HJ.out.sub (by intro x hx; simp only [List.mem_cons, List.not_mem_nil, or_false] at hx; rcases hx with rfl | rfl | rfl <;> first | exact (.head _) | exact (.tail _ (.head _)) | exact (.tail _ (.tail _ (.head _))))))
    · refine HJ.out.mk1 121 (.tmp 24) rfl 23 Try.underlying121 (.nat .u64) c.2.2.2.2.1 _ [Value.int .u64 (c.2.2.2.2.1 : Int)] rfl rfl (fun _ _ => ⟨rfl, hok.exp⟩) u64_size1 u64_zero1 (show 1 ≤ 16777216 by decide) (show 0 < 1 by decide) ?_
      intro v25 W hJ hkb
      have HJ := Lib.hid hJ
      clear hJ
      refine hK _ _ hkb ?_
      clear hK K
      (try simp only [Act.put, List.setIfInBounds_toArray, List.set_cons_succ, List.set_cons_zero])
      exact hM29 v17 v21 v25 _ (HJ.out.sub (by intro x hx; simp only [List.mem_cons, List.not_mem_nil, or_false] at hx; rcases hx with rfl | rfl | rfl <;> first | exact (.tail _ (.head _)) | exact (.tail _ (.tail _ (.head _))) | exact (.head _)))
  · intro v17 v25 W hJ
    have HJ := Lib.hid hJ
    clear hJ
    refine anyofM 3 [8, 16] (by kernel_rfl) ⟨oneM rfl rfl (fun K hK => ?_), oneM rfl rfl (fun K hK => ?_), oneM rfl rfl (fun K hK => ?_), trivial⟩
    · refine HJ.out.mk1 121 (.tmp 7) rfl 23 Try.underlying121 (.nat .u64) c.1 _ [Value.int .u64 (c.1 : Int)] rfl rfl (fun _ _ => ⟨rfl, hok.id⟩) u64_size1 u64_zero1 (show 1 ≤ 16777216 by decide) (show 0 < 1 by decide) ?_
      intro v8 W hJ hkb
      have HJ := Lib.hid hJ
      clear hJ
      refine hK _ _ hkb ?_
      clear hK K
      (try simp only [Act.put, List.setIfInBounds_toArray, List.set_cons_succ, List.set_cons_zero])
      exact relist (by kernel_rfl) (hM24 v8 v17 v25 _ (HJ.out.sub (by intro x hx; simp only [List.mem_cons, List.not_mem_nil, or_false] at hx; rcases hx with rfl | rfl | rfl <;> first | exact (.head _) | exact (.tail _ (.head _)) | exact (.tail _ (.tail _ (.head _))))))
    · refine HJ.out.mk1 35 (.tmp 12) rfl 5 Try.underlying35 .u8 (byteOf c.2.1) _ [Value.int .u8 ((byteOf c.2.1).toNat : Int)] rfl (by rw [byteOf_eq]; rfl) (fun _ _ => rfl) u8_sizeU u8_zeroU (show 1 ≤ 16777216 by decide) (show 0 < 1 by decide) ?_
      intro v13 W hJ hkb
      have HJ := Lib.hid hJ
      clear hJ
      refine hK _ _ hkb ?_
      clear hK K
      (try simp only [Act.put, List.setIfInBounds_toArray, List.set_cons_succ, List.set_cons_zero])
      exact relist (by kernel_rfl) (hM27 v13 v17 v25 _ (HJ.out.sub (by intro x hx; simp only [List.mem_cons, List.not_mem_nil, or_false] at hx; rcases hx with rfl | rfl | rfl <;> first | exact (.head _) | exact (.tail _ (.head _)) | exact (.tail _ (.tail _ (.head _))))))
    · refine HJ.out.mk1 68 (.tmp 20) rfl 52 Try.underlying68 (.arr 32 .u8) c.2.2.2.1 _ (bv c.2.2.2.1) rfl rfl (fun _ _ => ⟨hok.hash, AllH.bytes.2 rfl⟩) (szDg (by rw [bv_length]; exact HH.out)) zDg (by rw [bv_length, HH.out]; decide) (by rw [bv_length, HH.out]; decide) ?_
      intro v21 W hJ hkb
      have HJ := Lib.hid hJ
      clear hJ
      refine hK _ _ hkb ?_
      clear hK K
      (try simp only [Act.put, List.setIfInBounds_toArray, List.set_cons_succ, List.set_cons_zero])
      exact relist (by kernel_rfl) (hM29 v17 v21 v25 _ (HJ.out.sub (by intro x hx; simp only [List.mem_cons, List.not_mem_nil, or_false] at hx; rcases hx with rfl | rfl | rfl <;> first | exact (.tail _ (.head _)) | exact (.head _) | exact (.tail _ (.tail _ (.head _))))))
  · intro v21 v25 W hJ
    have HJ := Lib.hid hJ
    clear hJ
    refine anyofM 3 [8, 12] (by kernel_rfl) ⟨oneM rfl rfl (fun K hK => ?_), oneM rfl rfl (fun K hK => ?_), oneM rfl rfl (fun K hK => ?_), trivial⟩
    · refine HJ.out.mk1 121 (.tmp 7) rfl 23 Try.underlying121 (.nat .u64) c.1 _ [Value.int .u64 (c.1 : Int)] rfl rfl (fun _ _ => ⟨rfl, hok.id⟩) u64_size1 u64_zero1 (show 1 ≤ 16777216 by decide) (show 0 < 1 by decide) ?_
      intro v8 W hJ hkb
      have HJ := Lib.hid hJ
      clear hJ
      refine hK _ _ hkb ?_
      clear hK K
      (try simp only [Act.put, List.setIfInBounds_toArray, List.set_cons_succ, List.set_cons_zero])
      exact relist (by kernel_rfl) (hM25 v8 v21 v25 _ (HJ.out.sub (by intro x hx; simp only [List.mem_cons, List.not_mem_nil, or_false] at hx; rcases hx with rfl | rfl | rfl <;> first | exact (.head _) | exact (.tail _ (.head _)) | exact (.tail _ (.tail _ (.head _))))))
    · refine HJ.out.mk1 35 (.tmp 12) rfl 5 Try.underlying35 .u8 (byteOf c.2.1) _ [Value.int .u8 ((byteOf c.2.1).toNat : Int)] rfl (by rw [byteOf_eq]; rfl) (fun _ _ => rfl) u8_sizeU u8_zeroU (show 1 ≤ 16777216 by decide) (show 0 < 1 by decide) ?_
      intro v13 W hJ hkb
      have HJ := Lib.hid hJ
      clear hJ
      refine hK _ _ hkb ?_
      clear hK K
      (try simp only [Act.put, List.setIfInBounds_toArray, List.set_cons_succ, List.set_cons_zero])
      exact relist (by kernel_rfl) (hM28 v13 v21 v25 _ (HJ.out.sub (by intro x hx; simp only [List.mem_cons, List.not_mem_nil, or_false] at hx; rcases hx with rfl | rfl | rfl <;> first | exact (.head _) | exact (.tail _ (.head _)) | exact (.tail _ (.tail _ (.head _))))))
    · refine HJ.out.mk1 121 (.tmp 16) rfl 23 Try.underlying121 (.nat .u64) c.2.2.1 _ [Value.int .u64 (c.2.2.1 : Int)] rfl rfl (fun _ _ => ⟨rfl, hok.am⟩) u64_size1 u64_zero1 (show 1 ≤ 16777216 by decide) (show 0 < 1 by decide) ?_
      intro v17 W hJ hkb
      have HJ := Lib.hid hJ
      clear hJ
      refine hK _ _ hkb ?_
      clear hK K
      (try simp only [Act.put, List.setIfInBounds_toArray, List.set_cons_succ, List.set_cons_zero])
      exact relist (by kernel_rfl) (hM29 v17 v21 v25 _ (HJ.out.sub (by intro x hx; simp only [List.mem_cons, List.not_mem_nil, or_false] at hx; rcases hx with rfl | rfl | rfl <;> first | exact (.head _) | exact (.tail _ (.head _)) | exact (.tail _ (.tail _ (.head _))))))
  · intro v8 v9 v13 W hJ
    have HJ := Lib.hid hJ
    clear hJ
    refine anyofM 9 [12, 16, 20] (by kernel_rfl) ⟨oneM rfl rfl (fun K hK => ?_), oneM rfl rfl (fun K hK => ?_), oneM rfl rfl (fun K hK => ?_), oneM rfl rfl (fun K hK => ?_), trivial⟩
    · go_simp
      refine (HJ.out.one (.head _) (by simp only [List.length_append, List.length_cons, List.length_nil, List.flatMap_cons, List.flatMap_nil, be_length, HH.out, id]; omega)).mono ?_
      rintro e W ⟨v14, rfl, hJ, hkb⟩
      have HJ := Lib.hid hJ
      clear hJ
      refine hK _ _ hkb ?_
      clear hK K
      exact hM30 v8 v9 v13 v14 _ (HJ.out.sub (by intro x hx; cases hx))
    · refine HJ.out.mk1 121 (.tmp 16) rfl 23 Try.underlying121 (.nat .u64) c.2.2.1 _ [Value.int .u64 (c.2.2.1 : Int)] rfl rfl (fun _ _ => ⟨rfl, hok.am⟩) u64_size1 u64_zero1 (show 1 ≤ 16777216 by decide) (show 0 < 1 by decide) ?_
      intro v17 W hJ hkb
      have HJ := Lib.hid hJ
      clear hJ
      refine hK _ _ hkb ?_
      clear hK K
      (try simp only [Act.put, List.setIfInBounds_toArray, List.set_cons_succ, List.set_cons_zero])
      exact hM31 v8 v9 v13 v17 _ (HJ.out.sub (by intro x hx; simp only [List.mem_cons, List.not_mem_nil, or_false] at hx; rcases hx with rfl | rfl <;> first | exact (.tail _ (.head _)) | exact (.head _)))
    · refine HJ.out.mk1 68 (.tmp 20) rfl 52 Try.underlying68 (.arr 32 .u8) c.2.2.2.1 _ (bv c.2.2.2.1) rfl rfl (fun _ _ => ⟨hok.hash, AllH.bytes.2 rfl⟩) (szDg (by rw [bv_length]; exact HH.out)) zDg (by rw [bv_length, HH.out]; decide) (by rw [bv_length, HH.out]; decide) ?_
      intro v21 W hJ hkb
      have HJ := Lib.hid hJ
      clear hJ
      refine hK _ _ hkb ?_
      clear hK K
      (try simp only [Act.put, List.setIfInBounds_toArray, List.set_cons_succ, List.set_cons_zero])
      exact hM32 v8 v9 v13 v21 _ (HJ.out.sub (by intro x hx; simp only [List.mem_cons, List.not_mem_nil, or_false] at hx; rcases hx with rfl | rfl <;> first | exact (.tail _ (.head _)) | exact (.head _)))
    · refine HJ.out.mk1 121 (.tmp 24) rfl 23 Try.underlying121 (.nat .u64) c.2.2.2.2.1 _ [Value.int .u64 (c.2.2.2.2.1 : Int)] rfl rfl (fun _ _ => ⟨rfl, hok.exp⟩) u64_size1 u64_zero1 (show 1 ≤ 16777216 by decide) (show 0 < 1 by decide) ?_
      intro v25 W hJ hkb
      have HJ := Lib.hid hJ
      clear hJ
      refine hK _ _ hkb ?_
      clear hK K
      (try simp only [Act.put, List.setIfInBounds_toArray, List.set_cons_succ, List.set_cons_zero])
      exact hM33 v8 v9 v13 v25 _ (HJ.out.sub (by intro x hx; simp only [List.mem_cons, List.not_mem_nil, or_false] at hx; rcases hx with rfl | rfl <;> first | exact (.tail _ (.head _)) | exact (.head _)))
  · intro v8 v9 v17 W hJ
    have HJ := Lib.hid hJ
    clear hJ
    refine anyofM 8 [16, 20] (by kernel_rfl) ⟨oneM rfl rfl (fun K hK => ?_), oneM rfl rfl (fun K hK => ?_), oneM rfl rfl (fun K hK => ?_), trivial⟩
    · refine HJ.out.mk1 35 (.tmp 12) rfl 5 Try.underlying35 .u8 (byteOf c.2.1) _ [Value.int .u8 ((byteOf c.2.1).toNat : Int)] rfl (by rw [byteOf_eq]; rfl) (fun _ _ => rfl) u8_sizeU u8_zeroU (show 1 ≤ 16777216 by decide) (show 0 < 1 by decide) ?_
      intro v13 W hJ hkb
      have HJ := Lib.hid hJ
      clear hJ
      refine hK _ _ hkb ?_
      clear hK K
      (try simp only [Act.put, List.setIfInBounds_toArray, List.set_cons_succ, List.set_cons_zero])
      exact relist (by kernel_rfl) (hM31 v8 v9 v13 v17 _ (HJ.out.sub (by intro x hx; simp only [List.mem_cons, List.not_mem_nil, or_false] at hx; rcases hx with rfl | rfl <;> first | exact (.head _) | exact (.tail _ (.head _)))))
    · refine HJ.out.mk1 68 (.tmp 20) rfl 52 Try.underlying68 (.arr 32 .u8) c.2.2.2.1 _ (bv c.2.2.2.1) rfl rfl (fun _ _ => ⟨hok.hash, AllH.bytes.2 rfl⟩) (szDg (by rw [bv_length]; exact HH.out)) zDg (by rw [bv_length, HH.out]; decide) (by rw [bv_length, HH.out]; decide) ?_
      intro v21 W hJ hkb
      have HJ := Lib.hid hJ
      clear hJ
      refine hK _ _ hkb ?_
      clear hK K
      (try simp only [Act.put, List.setIfInBounds_toArray, List.set_cons_succ, List.set_cons_zero])
      exact hM34 v8 v9 v17 v21 _ (HJ.out.sub (by intro x hx; simp only [List.mem_cons, List.not_mem_nil, or_false] at hx; rcases hx with rfl | rfl <;> first | exact (.tail _ (.head _)) | exact (.head _)))
    · refine HJ.out.mk1 121 (.tmp 24) rfl 23 Try.underlying121 (.nat .u64) c.2.2.2.2.1 _ [Value.int .u64 (c.2.2.2.2.1 : Int)] rfl rfl (fun _ _ => ⟨rfl, hok.exp⟩) u64_size1 u64_zero1 (show 1 ≤ 16777216 by decide) (show 0 < 1 by decide) ?_
      intro v25 W hJ hkb
      have HJ := Lib.hid hJ
      clear hJ
      refine hK _ _ hkb ?_
      clear hK K
      (try simp only [Act.put, List.setIfInBounds_toArray, List.set_cons_succ, List.set_cons_zero])
      exact hM35 v8 v9 v17 v25 _ (HJ.out.sub (by intro x hx; simp only [List.mem_cons, List.not_mem_nil, or_false] at hx; rcases hx with rfl | rfl <;> first | exact (.tail _ (.head _)) | exact (.head _)))
  · intro v8 v9 v21 W hJ
    have HJ := Lib.hid hJ
    clear hJ
    refine anyofM 8 [12, 20] (by kernel_rfl) ⟨oneM rfl rfl (fun K hK => ?_), oneM rfl rfl (fun K hK => ?_), oneM rfl rfl (fun K hK => ?_), trivial⟩
    · refine HJ.out.mk1 35 (.tmp 12) rfl 5 Try.underlying35 .u8 (byteOf c.2.1) _ [Value.int .u8 ((byteOf c.2.1).toNat : Int)] rfl (by rw [byteOf_eq]; rfl) (fun _ _ => rfl) u8_sizeU u8_zeroU (show 1 ≤ 16777216 by decide) (show 0 < 1 by decide) ?_
      intro v13 W hJ hkb
      have HJ := Lib.hid hJ
      clear hJ
      refine hK _ _ hkb ?_
      clear hK K
      (try simp only [Act.put, List.setIfInBounds_toArray, List.set_cons_succ, List.set_cons_zero])
      exact relist (by kernel_rfl) (hM32 v8 v9 v13 v21 _ (HJ.out.sub (by intro x hx; simp only [List.mem_cons, List.not_mem_nil, or_false] at hx; rcases hx with rfl | rfl <;> first | exact (.head _) | exact (.tail _ (.head _)))))
    · refine HJ.out.mk1 121 (.tmp 16) rfl 23 Try.underlying121 (.nat .u64) c.2.2.1 _ [Value.int .u64 (c.2.2.1 : Int)] rfl rfl (fun _ _ => ⟨rfl, hok.am⟩) u64_size1 u64_zero1 (show 1 ≤ 16777216 by decide) (show 0 < 1 by decide) ?_
      intro v17 W hJ hkb
      have HJ := Lib.hid hJ
      clear hJ
      refine hK _ _ hkb ?_
      clear hK K
      (try simp only [Act.put, List.setIfInBounds_toArray, List.set_cons_succ, List.set_cons_zero])
      exact relist (by kernel_rfl) (hM34 v8 v9 v17 v21 _ (HJ.out.sub (by intro x hx; simp only [List.mem_cons, List.not_mem_nil, or_false] at hx; rcases hx with rfl | rfl <;> first | exact (.head _) | exact (.tail _ (.head _)))))
    · refine HJ.out.mk1 121 (.tmp 24) rfl 23 Try.underlying121 (.nat .u64) c.2.2.2.2.1 _ [Value.int .u64 (c.2.2.2.2.1 : Int)] rfl rfl (fun _ _ => ⟨rfl, hok.exp⟩) u64_size1 u64_zero1 (show 1 ≤ 16777216 by decide) (show 0 < 1 by decide) ?_
      intro v25 W hJ hkb
      have HJ := Lib.hid hJ
      clear hJ
      refine hK _ _ hkb ?_
      clear hK K
      (try simp only [Act.put, List.setIfInBounds_toArray, List.set_cons_succ, List.set_cons_zero])
      exact hM36 v8 v9 v21 v25 _ (HJ.out.sub (by intro x hx; simp only [List.mem_cons, List.not_mem_nil, or_false] at hx; rcases hx with rfl | rfl <;> first | exact (.tail _ (.head _)) | exact (.head _)))
  · intro v8 v9 v25 W hJ
    have HJ := Lib.hid hJ
    clear hJ
    refine anyofM 8 [12, 16] (by kernel_rfl) ⟨oneM rfl rfl (fun K hK => ?_), oneM rfl rfl (fun K hK => ?_), oneM rfl rfl (fun K hK => ?_), trivial⟩
    · refine HJ.out.mk1 35 (.tmp 12) rfl 5 Try.underlying35 .u8 (byteOf c.2.1) _ [Value.int .u8 ((byteOf c.2.1).toNat : Int)] rfl (by rw [byteOf_eq]; rfl) (fun _ _ => rfl) u8_sizeU u8_zeroU (show 1 ≤ 16777216 by decide) (show 0 < 1 by decide) ?_
      intro v13 W hJ hkb
      have HJ := Lib.hid hJ
      clear hJ
      refine hK _ _ hkb ?_
      clear hK K
      (try simp only [Act.put, List.setIfInBounds_toArray, List.set_cons_succ, List.set_cons_zero])
      exact relist (by kernel_rfl) (hM33 v8 v9 v13 v25 _ (HJ.out.sub (by intro x hx; simp only [List.mem_cons, List.not_mem_nil, or_false] at hx; rcases hx with rfl | rfl <;> first | exact (.head _) | exact (.tail _ (.head _)))))
    · refine HJ.out.mk1 121 (.tmp 16) rfl 23 Try.underlying121 (.nat .u64) c.2.2.1 _ [Value.int .u64 (c.2.2.1 : Int)] rfl rfl (fun _ _ => ⟨rfl, hok.am⟩) u64_size1 u64_zero1 (show 1 ≤ 16777216 by decide) (show 0 < 1 by decide) ?_
      intro v17 W hJ hkb
      have HJ := Lib.hid hJ
      clear hJ
      refine hK _ _ hkb ?_
      clear hK K
      (try simp only [Act.put, List.setIfInBounds_toArray, List.set_cons_succ, List.set_cons_zero])
      exact relist (by kernel_rfl) (hM35 v8 v9 v17 v25 _ (HJ.out.sub (by intro x hx; simp only [List.mem_cons, List.not_mem_nil, or_false] at hx; rcases hx with rfl | rfl <;> first | exact (.head _) | exact (.tail _ (.head _)))))
    · refine HJ.out.mk1 68 (.tmp 20) rfl 52 Try.underlying68 (.arr 32 .u8) c.2.2.2.1 _ (bv c.2.2.2.1) rfl rfl (fun _ _ => ⟨hok.hash, AllH.bytes.2 rfl⟩) (szDg (by rw [bv_length]; exact HH.out)) zDg (by rw [bv_length, HH.out]; decide) (by rw [bv_length, HH.out]; decide) ?_
      intro v21 W hJ hkb
      have HJ := Lib.hid hJ
      clear hJ
      refine hK _ _ hkb ?_
      clear hK K
      (try simp only [Act.put, List.setIfInBounds_toArray, List.set_cons_succ, List.set_cons_zero])
      exact relist (by kernel_rfl) (hM36 v8 v9 v21 v25 _ (HJ.out.sub (by intro x hx; simp only [List.mem_cons, List.not_mem_nil, or_false] at hx; rcases hx with rfl | rfl <;> first | exact (.head _) | exact (.tail _ (.head _)))))
  · intro v8 v13 v17 W hJ
    have HJ := Lib.hid hJ
    clear hJ
    refine anyofM 4 [16, 20] (by kernel_rfl) ⟨oneM rfl rfl (fun K hK => ?_), oneM rfl rfl (fun K hK => ?_), oneM rfl rfl (fun K hK => ?_), trivial⟩
    · go_simp
      refine (HJ.out.eight (.head _) (by simp only [List.length_append, List.length_cons, List.length_nil, List.flatMap_cons, List.flatMap_nil, be_length, HH.out, id]; omega)).mono ?_
      rintro e W ⟨v9, rfl, hJ, hkb⟩
      have HJ := Lib.hid hJ
      clear hJ
      refine hK _ _ hkb ?_
      clear hK K
      exact relist (by kernel_rfl) (hM31 v8 v9 v13 v17 _ (HJ.out.sub (by intro x hx; simp only [List.mem_cons, List.not_mem_nil, or_false] at hx; rcases hx with rfl | rfl <;> first | exact (.tail _ (.head _)) | exact (.tail _ (.tail _ (.head _))))))
    · refine HJ.out.mk1 68 (.tmp 20) rfl 52 Try.underlying68 (.arr 32 .u8) c.2.2.2.1 _ (bv c.2.2.2.1) rfl rfl (fun _ _ => ⟨hok.hash, AllH.bytes.2 rfl⟩) (szDg (by rw [bv_length]; exact HH.out)) zDg (by rw [bv_length, HH.out]; decide) (by rw [bv_length, HH.out]; decide) ?_
      intro v21 W hJ hkb
      have HJ := Lib.hid hJ
      clear hJ
      refine hK _ _ hkb ?_
      clear hK K
      (try simp only [Act.put, List.setIfInBounds_toArray, List.set_cons_succ, List.set_cons_zero])
      exact hM37 v8 v13 v17 v21 _ (HJ.out.sub (by intro x hx; simp only [List.mem_cons, List.not_mem_nil, or_false] at hx; rcases hx with rfl | rfl | rfl | rfl <;> first | exact (.tail _ (.head _)) | exact (.tail _ (.tail _ (.head _))) | exact (.tail _ (.tail _ (.tail _ (.head _)))) | exact (.head _)))
    · refine HJ.out.mk1 121 (.tmp 24) rfl 23 Try.underlying121 (.nat .u64) c.2.2.2.2.1 _ [Value.int .u64 (c.2.2.2.2.1 : Int)] rfl rfl (fun _ _ => ⟨rfl, hok.exp⟩) u64_size1 u64_zero1 (show 1 ≤ 16777216 by decide) (show 0 < 1 by decide) ?_
      intro v25 W hJ hkb
      have HJ := Lib.hid hJ
      clear hJ
      refine hK _ _ hkb ?_
      clear hK K
      (try simp only [Act.put, List.setIfInBounds_toArray, List.set_cons_succ, List.set_cons_zero])
      exact hM38 v8 v13 v17 v25 _ (HJ.out.sub (by intro x hx; simp only [List.mem_cons, List.not_mem_nil, or_false] at hx; rcases hx with rfl | rfl | rfl | rfl <;> first | exact (.tail _ (.head _)) | exact (.tail _ (.tail _ (.head _))) | exact (.tail _ (.tail _ (.tail _ (.head _)))) | exact (.head _)))
  · intro v8 v13 v21 W hJ
    have HJ := Lib.hid hJ
    clear hJ
    refine anyofM 4 [12, 20] (by kernel_rfl) ⟨oneM rfl rfl (fun K hK => ?_), oneM rfl rfl (fun K hK => ?_), oneM rfl rfl (fun K hK => ?_), trivial⟩
    · go_simp
      refine (HJ.out.eight (.head _) (by simp only [List.length_append, List.length_cons, List.length_nil, List.flatMap_cons, List.flatMap_nil, be_length, HH.out, id]; omega)).mono ?_
      rintro e W ⟨v9, rfl, hJ, hkb⟩
      have HJ := Lib.hid hJ
      clear hJ
      refine hK _ _ hkb ?_
      clear hK K
      exact relist (by kernel_rfl) (hM32 v8 v9 v13 v21 _ (HJ.out.sub (by intro x hx; simp only [List.mem_cons, List.not_mem_nil, or_false] at hx; rcases hx with rfl | rfl <;> first | exact (.tail _ (.head _)) | exact (.tail _ (.tail _ (.head _))))))
    · refine HJ.out.mk1 121 (.tmp 16) rfl 23 Try.underlying121 (.nat .u64) c.2.2.1 _ [Value.int .u64 (c.2.2.1 : Int)] rfl rfl (fun _ _ => ⟨rfl, hok.am⟩) u64_size1 u64_zero1 (show 1 ≤ 16777216 by decide) (show 0 < 1 by decide) ?_
      intro v17 W hJ hkb
      have HJ := Lib.hid hJ
      clear hJ
      refine hK _ _ hkb ?_
      clear hK K
      (try simp only [Act.put, List.setIfInBounds_toArray, List.set_cons_succ, List.set_cons_zero])
      exact relist (by kernel_rfl) (hM37 v8 v13 v17 v21 _ (HJ.out.sub (by intro x hx; simp only [List.mem_cons, List.not_mem_nil, or_false] at hx; rcases hx with rfl | rfl | rfl | rfl <;> first | exact (.tail _ (.head _)) | exact (.tail _ (.tail _ (.head _))) | exact (.head _) | exact (.tail _ (.tail _ (.tail _ (.head _)))))))
    · refine HJ.out.mk1 121 (.tmp 24) rfl 23 Try.underlying121 (.nat .u64) c.2.2.2.2.1 _ [Value.int .u64 (c.2.2.2.2.1 : Int)] rfl rfl (fun _ _ => ⟨rfl, hok.exp⟩) u64_size1 u64_zero1 (show 1 ≤ 16777216 by decide) (show 0 < 1 by decide) ?_
      intro v25 W hJ hkb
      have HJ := Lib.hid hJ
      clear hJ
      refine hK _ _ hkb ?_
      clear hK K
      (try simp only [Act.put, List.setIfInBounds_toArray, List.set_cons_succ, List.set_cons_zero])
      exact hM39 v8 v13 v21 v25 _ (HJ.out.sub (by intro x hx; simp only [List.mem_cons, List.not_mem_nil, or_false] at hx; rcases hx with rfl | rfl | rfl | rfl <;> first | exact (.tail _ (.head _)) | exact (.tail _ (.tail _ (.head _))) | exact (.tail _ (.tail _ (.tail _ (.head _)))) | exact (.head _)))
  · intro v8 v13 v25 W hJ
    have HJ := Lib.hid hJ
    clear hJ
    refine anyofM 4 [12, 16] (by kernel_rfl) ⟨oneM rfl rfl (fun K hK => ?_), oneM rfl rfl (fun K hK => ?_), oneM rfl rfl (fun K hK => ?_), trivial⟩
    · go_simp
      refine (HJ.out.eight (.head _) (by simp only [List.length_append, List.length_cons, List.length_nil, List.flatMap_cons, List.flatMap_nil, be_length, HH.out, id]; omega)).mono ?_
      rintro e W ⟨v9, rfl, hJ, hkb⟩
      have HJ := Lib.hid hJ
      clear hJ
      refine hK _ _ hkb ?_
      clear hK K
      exact relist (by kernel_rfl) (hM33 v8 v9 v13 v25 _ (HJ.out.sub (by intro x hx; simp only [List.mem_cons, List.not_mem_nil, or_false] at hx; rcases hx with rfl | rfl <;> first | exact (.tail _ (.head _)) | exact (.tail _ (.tail _ (.head _))))))
    · refine HJ.out.mk1 121 (.tmp 16) rfl 23 Try.underlying121 (.nat .u64) c.2.2.1 _ [Value.int .u64 (c.2.2.1 : Int)] rfl rfl (fun _ _ => ⟨rfl, hok.am⟩) u64_size1 u64_zero1 (show 1 ≤ 16777216 by decide) (show 0 < 1 by decide) ?_
      intro v17 W hJ hkb
      have HJ := Lib.hid hJ
      clear hJ
      refine hK _ _ hkb ?_
      clear hK K
      (try simp only [Act.put, List.setIfInBounds_toArray, List.set_cons_succ, List.set_cons_zero])
      exact relist (by kernel_rfl) (hM38 v8 v13 v17 v25 _ (HJ.out.sub (by intro x hx; simp only [List.mem_cons, List.not_mem_nil, or_false] at hx; rcases hx with rfl | rfl | rfl | rfl <;> first | exact (.tail _ (.head _)) | exact (.tail _ (.tail _ (.head _))) | exact (.head _) | exact (.tail _ (.tail _ (.tail _ (.head _)))))))
    · refine HJ.out.mk1 68 (.tmp 20) rfl 52 Try.underlying68 (.arr 32 .u8) c.2.2.2.1 _ (bv c.2.2.2.1) rfl rfl (fun _ _ => ⟨hok.hash, AllH.bytes.2 rfl⟩) (szDg (by rw [bv_length]; exact HH.out)) zDg (by rw [bv_length, HH.out]; decide) (by rw [bv_length, HH.out]; decide) ?_
      intro v21 W hJ hkb
      have HJ := Lib.hid hJ
      clear hJ
      refine hK _ _ hkb ?_
      clear hK K
      (try simp only [Act.put, List.setIfInBounds_toArray, List.set_cons_succ, List.set_cons_zero])
      exact relist (by kernel_rfl) (hM39 v8 v13 v21 v25 _ (HJ.out.sub (by intro x hx; simp only [List.mem_cons, List.not_mem_nil, or_false] at hx; rcases hx with rfl | rfl | rfl | rfl <;> first | exact (.tail _ (.head _)) | exact (.tail _ (.tail _ (.head _))) | exact (.head _) | exact (.tail _ (.tail _ (.tail _ (.head _)))))))
  · intro v8 v17 v21 W hJ
    have HJ := Lib.hid hJ
    clear hJ
    refine anyofM 4 [8, 20] (by kernel_rfl) ⟨oneM rfl rfl (fun K hK => ?_), oneM rfl rfl (fun K hK => ?_), oneM rfl rfl (fun K hK => ?_), trivial⟩
    · go_simp
      refine (HJ.out.eight (.head _) (by simp only [List.length_append, List.length_cons, List.length_nil, List.flatMap_cons, List.flatMap_nil, be_length, HH.out, id]; omega)).mono ?_
      rintro e W ⟨v9, rfl, hJ, hkb⟩
      have HJ := Lib.hid hJ
      clear hJ
      refine hK _ _ hkb ?_
      clear hK K
      exact relist (by kernel_rfl) (hM34 v8 v9 v17 v21 _ (HJ.out.sub (by intro x hx; simp only [List.mem_cons, List.not_mem_nil, or_false] at hx; rcases hx with rfl | rfl <;> first | exact (.tail _ (.head _)) | exact (.tail _ (.tail _ (.head _))))))
    · refine HJ.out.mk1 35 (.tmp 12) rfl 5 Try.underlying35 .u8 (byteOf c.2.1) _ [Value.int .u8 ((byteOf c.2.1).toNat : Int)] rfl (by rw [byteOf_eq]; rfl) (fun _ _ => rfl) u8_sizeU u8_zeroU (show 1 ≤ 16777216 by decide) (show 0 < 1 by decide) ?_
      intro v13 W hJ hkb
      have HJ := Lib.hid hJ
      clear hJ
      refine hK _ _ hkb ?_
      clear hK K
      (try simp only [Act.put, List.setIfInBounds_toArray, List.set_cons_succ, List.set_cons_zero])
      exact relist (by kernel_rfl) (hM37 v8 v13 v17 v21 _ (HJ.out.sub (by intro x hx; simp only [List.mem_cons, List.not_mem_nil, or_false] at hx; rcases hx with rfl | rfl | rfl | rfl <;> first | exact (.tail _ (.head _)) | exact (.head _) | exact (.tail _ (.tail _ (.head _))) | exact (.tail _ (.tail _ (.tail _ (.head _)))))))
    · refine HJ.out.mk1 121 (.tmp 24) rfl 23 Try.underlying121 (.nat .u64) c.2.2.2.2.1 _ [Value.int .u64 (c.2.2.2.2.1 : Int)] rfl rfl (fun _ _ => ⟨rfl, hok.exp⟩) u64_size1 u64_zero1 (show 1 ≤ 16777216 by decide) (show 0 < 1 by decide) ?_
      intro v25 W hJ hkb
      have HJ := Lib.hid hJ
      clear hJ
      refine hK _ _ hkb ?_
      clear hK K
      (try simp only [Act.put, List.setIfInBounds_toArray, List.set_cons_succ, List.set_cons_zero])
      exact hM40 v8 v17 v21 v25 _ (HJ.out.sub (by intro x hx; simp only [List.mem_cons, List.not_mem_nil, or_false] at hx; rcases hx with rfl | rfl | rfl | rfl <;> first | exact (.tail _ (.head _)) | exact (.tail _ (.tail _ (.head _))) | exact (.tail _ (.tail _ (.tail _ (.head _)))) | exact (.head _)))
  · intro v8 v17 v25 W hJ
    have HJ := Lib.hid hJ
    clear hJ
    refine anyofM 4 [8, 16] (by kernel_rfl) ⟨oneM rfl rfl (fun K hK => ?_), oneM rfl rfl (fun K hK => ?_), oneM rfl rfl (fun K hK => ?_), trivial⟩
    · go_simp
      refine (HJ.out.eight (.head _) (by simp only [List.length_append, List.length_cons, List.length_nil, List.flatMap_cons, List.flatMap_nil, be_length, HH.out, id]; omega)).mono ?_
      rintro e W ⟨v9, rfl, hJ, hkb⟩
      have HJ := Lib.hid hJ
      clear hJ
      refine hK _ _ hkb ?_
      clear hK K
      exact relist (by kernel_rfl) (hM35 v8 v9 v17 v25 _ (HJ.out.sub (by intro x hx; simp only [List.mem_cons, List.not_mem_nil, or_false] at hx; rcases hx with rfl | rfl <;> first | exact (.tail _ (.head _)) | exact (.tail _ (.tail _ (.head _))))))
    · refine HJ.out.mk1 35 (.tmp 12) rfl 5 Try.underlying35 .u8 (byteOf c.2.1) _ [Value.int .u8 ((byteOf c.2.1).toNat : Int)] rfl (by rw [byteOf_eq]; rfl) (fun _ _ => rfl) u8_sizeU u8_zeroU (show 1 ≤ 16777216 by decide) (show 0 < 1 by decide) ?_
      intro v13 W hJ hkb
      have HJ := Lib.hid hJ
      clear hJ
      refine hK _ _ hkb ?_
      clear hK K
      (try simp only [Act.put, List.setIfInBounds_toArray, List.set_cons_succ, List.set_cons_zero])
      exact relist (by kernel_rfl) (hM38 v8 v13 v17 v25 _ (HJ.out.sub (by intro x hx; simp only [List.mem_cons, List.not_mem_nil, or_false] at hx; rcases hx with rfl | rfl | rfl | rfl <;> first | exact (.tail _ (.head _)) | exact (.head _) | exact (.tail _ (.tail _ (.head _))) | exact (.tail _ (.tail _ (.tail _ (.head _)))))))
    · refine HJ.out.mk1 68 (.tmp 20) rfl 52 Try.underlying68 (.arr 32 .u8) c.2.2.2.1 _ (bv c.2.2.2.1) rfl rfl (fun _ _ => ⟨hok.hash, AllH.bytes.2 rfl⟩) (szDg (by rw [bv_length]; exact HH.out)) zDg (by rw [bv_length, HH.out]; decide) (by rw [bv_length, HH.out]; decide) ?_
      intro v21 W hJ hkb
      have HJ := Lib.hid hJ
      clear hJ
      refine hK _ _ hkb ?_
      clear hK K
      (try simp only [Act.put, List.setIfInBounds_toArray, List.set_cons_succ, List.set_cons_zero])
      exact relist (by kernel_rfl) (hM40 v8 v17 v21 v25 _ (HJ.out.sub (by intro x hx; simp only [List.mem_cons, List.not_mem_nil, or_false] at hx; rcases hx with rfl | rfl | rfl | rfl <;> first | exact (.tail _ (.head _)) | exact (.tail _ (.tail _ (.head _))) | exact (.head _) | exact (.tail _ (.tail _ (.tail _ (.head _)))))))
  · intro v8 v21 v25 W hJ
    have HJ := Lib.hid hJ
    clear hJ
    refine anyofM 4 [8, 12] (by kernel_rfl) ⟨oneM rfl rfl (fun K hK => ?_), oneM rfl rfl (fun K hK => ?_), oneM rfl rfl (fun K hK => ?_), trivial⟩
    · go_simp
      refine (HJ.out.eight (.head _) (by simp only [List.length_append, List.length_cons, List.length_nil, List.flatMap_cons, List.flatMap_nil, be_length, HH.out, id]; omega)).mono ?_
      rintro e W ⟨v9, rfl, hJ, hkb⟩
      have HJ := Lib.hid hJ
      clear hJ
      refine hK _ _ hkb ?_
      clear hK K
      exact relist (by kernel_rfl) (hM36 v8 v9 v21 v25 _ (HJ.out.sub (by intro x hx; simp only [List.mem_cons, List.not_mem_nil, or_false] at hx; rcases hx with rfl | rfl <;> first | exact (.tail _ (.head _)) | exact (.tail _ (.tail _ (.head _))))))
    · refine HJ.out.mk1 35 (.tmp 12) rfl 5 Try.underlying35 .u8 (byteOf c.2.1) _ [Value.int .u8 ((byteOf c.2.1).toNat : Int)] rfl (by rw [byteOf_eq]; rfl) (fun _ _ => rfl) u8_sizeU u8_zeroU (show 1 ≤ 16777216 by decide) (show 0 < 1 by decide) ?_
      intro v13 W hJ hkb
      have HJ := Lib.hid hJ
      clear hJ
      refine hK _ _ hkb ?_
      clear hK K
      (try simp only [Act.put, List.setIfInBounds_toArray, List.set_cons_succ, List.set_cons_zero])
      exact relist (by kernel_rfl) (hM39 v8 v13 v21 v25 _ (HJ.out.sub (by intro x hx; simp only [List.mem_cons, List.not_mem_nil, or_false] at hx; rcases hx with rfl | rfl | rfl | rfl <;> first | exact (.tail _ (.head _)) | exact (.head _) | exact (.tail _ (.tail _ (.head _))) | exact (.tail _ (.tail _ (.tail _ (.head _)))))))
    · refine HJ.out.mk1 121 (.tmp 16) rfl 23 Try.underlying121 (.nat .u64) c.2.2.1 _ [Value.int .u64 (c.2.2.1 : Int)] rfl rfl (fun _ _ => ⟨rfl, hok.am⟩) u64_size1 u64_zero1 (show 1 ≤ 16777216 by decide) (show 0 < 1 by decide) ?_
      intro v17 W hJ hkb
      have HJ := Lib.hid hJ
      clear hJ
      refine hK _ _ hkb ?_
      clear hK K
      (try simp only [Act.put, List.setIfInBounds_toArray, List.set_cons_succ, List.set_cons_zero])
      exact relist (by kernel_rfl) (hM40 v8 v17 v21 v25 _ (HJ.out.sub (by intro x hx; simp only [List.mem_cons, List.not_mem_nil, or_false] at hx; rcases hx with rfl | rfl | rfl | rfl <;> first | exact (.tail _ (.head _)) | exact (.head _) | exact (.tail _ (.tail _ (.head _))) | exact (.tail _ (.tail _ (.tail _ (.head _)))))))
  · intro v13 v17 v21 W hJ
    have HJ := Lib.hid hJ
    clear hJ
    refine anyofM 3 [20] (by kernel_rfl) ⟨oneM rfl rfl (fun K hK => ?_), oneM rfl rfl (fun K hK => ?_), trivial⟩
    · refine HJ.out.mk1 121 (.tmp 7) rfl 23 Try.underlying121 (.nat .u64) c.1 _ [Value.int .u64 (c.1 : Int)] rfl rfl (fun _ _ => ⟨rfl, hok.id⟩) u64_size1 u64_zero1 (show 1 ≤ 16777216 by decide) (show 0 < 1 by decide) ?_
      intro v8 W hJ hkb
      have HJ := Lib.hid hJ
      clear hJ
      refine hK _ _ hkb ?_
      clear hK K
      (try simp only [Act.put, List.setIfInBounds_toArray, List.set_cons_succ, List.set_cons_zero])
      exact relist (by kernel_rfl) (hM37 v8 v13 v17 v21 _ (HJ.out.sub (by intro x hx; simp only [List.mem_cons, List.not_mem_nil, or_false] at hx; rcases hx with rfl | rfl | rfl | rfl <;> first | exact (.head _) | exact (.tail _ (.head _)) | exact (.tail _ (.tail _ (.head _))) | exact (.tail _ (.tail _ (.tail _ (.head _)))))))
    · refine HJ.out.mk1 121 (.tmp 24) rfl 23 Try.underlying121 (.nat .u64) c.2.2.2.2.1 _ [Value.int .u64 (c.2.2.2.2.1 : Int)] rfl rfl (fun _ _ => ⟨rfl, hok.exp⟩) u64_size1 u64_zero1 (show 1 ≤ 16777216 by decide) (show 0 < 1 by decide) ?_
      intro v25 W hJ hkb
      have HJ := Lib.hid hJ
      clear hJ
      refine hK _ _ hkb ?_
      clear hK K
      (try simp only [Act.put, List.setIfInBounds_toArray, List.set_cons_succ, List.set_cons_zero])
      exact hM41 v13 v17 v21 v25 _ (HJ.out.sub (by intro x hx; simp only [List.mem_cons, List.not_mem_nil, or_false] at hx; rcases hx with rfl | rfl | rfl | rfl <;> first | exact (.tail _ (.head _)) | exact (.tail _ (.tail _ (.head _))) | exact (.tail _ (.tail _ (.tail _ (.head _)))) | exact (.head _)))
  · intro v13 v17 v25 W hJ
    have HJ := Lib.hid hJ
    clear hJ
    refine anyofM 3 [16] (by kernel_rfl) ⟨oneM rfl rfl (fun K hK => ?_), oneM rfl rfl (fun K hK => ?_), trivial⟩
    · refine HJ.out.mk1 121 (.tmp 7) rfl 23 Try.underlying121 (.nat .u64) c.1 _ [Value.int .u64 (c.1 : Int)] rfl rfl (fun _ _ => ⟨rfl, hok.id⟩) u64_size1 u64_zero1 (show 1 ≤ 16777216 by decide) (show 0 < 1 by decide) ?_
      intro v8 W hJ hkb
      have HJ := Lib.hid hJ
      clear hJ
      refine hK _ _ hkb ?_
      clear hK K
      (try simp only [Act.put, List.setIfInBounds_toArray, List.set_cons_succ, List.set_cons_zero])
      exact relist (by kernel_rfl) (hM38 v8 v13 v17 v25 _ (HJ.out.sub (by intro x hx; simp only [List.mem_cons, List.not_mem_nil, or_false] at hx; rcases hx with rfl | rfl | rfl | rfl <;> first | exact (.head _) | exact (.tail _ (.head _)) | exact (.tail _ (.tail _ (.head _))) | exact (.tail _ (.tail _ (.tail _ (.head _)))))))
    · refine HJ.out.mk1 68 (.tmp 20) rfl 52 Try.underlying68 (.arr 32 .u8) c.2.2.2.1 _ (bv c.2.2.2.1) rfl rfl (fun _ _ => ⟨hok.hash, AllH.bytes.2 rfl⟩) (szDg (by rw [bv_length]; exact HH.out)) zDg (by rw [bv_length, HH.out]; decide) (by rw [bv_length, HH.out]; decide) ?_
      intro v21 W hJ hkb
      have HJ := Lib.hid hJ
      clear hJ
      refine hK _ _ hkb ?_
      clear hK K
      (try simp only [Act.put, List.setIfInBounds_toArray, List.set_cons_succ, List.set_cons_zero])
      exact relist (by kernel_rfl) (hM41 v13 v17 v21 v25 _ (HJ.out.sub (by intro x hx; simp only [List.mem_cons, List.not_mem_nil, or_false] at hx; rcases hx with rfl | rfl | rfl | rfl <;> first | exact (.tail _ (.head _)) | exact (.tail _ (.tail _ (.head _))) | exact (.head _) | exact (.tail _ (.tail _ (.tail _ (.head _)))))))
  · intro v13 v21 v25 W hJ
    have HJ := Lib.hid hJ
    clear hJ
    refine anyofM 3 [12] (by kernel_rfl) ⟨oneM rfl rfl (fun K hK => ?_), oneM rfl rfl (fun K hK => ?_), trivial⟩
    · refine HJ.out.mk1 121 (.tmp 7) rfl 23 Try.underlying121 (.nat .u64) c.1 _ [Value.int .u64 (c.1 : Int)] rfl rfl (fun _ _ => ⟨rfl, hok.id⟩) u64_size1 u64_zero1 (show 1 ≤ 16777216 by decide) (show 0 < 1 by decide) ?_
      intro v8 W hJ hkb
      have HJ := Lib.hid hJ
      clear hJ
      refine hK _ _ hkb ?_
      clear hK K
      (try simp only [Act.put, List.setIfInBounds_toArray, List.set_cons_succ, List.set_cons_zero])
      exact relist (by kernel_rfl) (hM39 v8 v13 v21 v25 _ (HJ.out.sub (by intro x hx; simp only [List.mem_cons, List.not_mem_nil, or_false] at hx; rcases hx with rfl | rfl | rfl | rfl <;> first | exact (.head _) | exact (.tail _ (.head _)) | exact (.tail _ (.tail _ (.head _))) | exact (.tail _ (.tail _ (.tail _ (.head _)))))))
    · refine HJ.out.mk1 121 (.tmp 16) rfl 23 Try.underlying121 (.nat .u64) c.2.2.1 _ [Value.int .u64 (c.2.2.1 : Int)] rfl rfl (fun _ _ => ⟨rfl, hok.am⟩) u64_size1 u64_zero1 (show 1 ≤ 16777216 by decide) (show 0 < 1 by decide) ?_
      intro v17 W hJ hkb
      have HJ := Lib.hid hJ
      clear hJ
      refine hK _ _ hkb ?_
      clear hK K
      (try simp only [Act.put, List.setIfInBounds_toArray, List.set_cons_succ, List.set_cons_zero])
      exact relist (by kernel_rfl) (hM41 v13 v17 v21 v25 _ (HJ.out.sub (by intro x hx; simp only [List.mem_cons, List.not_mem_nil, or_false] at hx; rcases hx with rfl | rfl | rfl | rfl <;> first | exact (.tail _ (.head _)) | exact (.head _) | exact (.tail _ (.tail _ (.head _))) | exact (.tail _ (.tail _ (.tail _ (.head _)))))))
  · intro v17 v21 v25 W hJ
    have HJ := Lib.hid hJ
    clear hJ
    refine anyofM 3 [8] (by kernel_rfl) ⟨oneM rfl rfl (fun K hK => ?_), oneM rfl rfl (fun K hK => ?_), trivial⟩
    · refine HJ.out.mk1 121 (.tmp 7) rfl 23 Try.underlying121 (.nat .u64) c.1 _ [Value.int .u64 (c.1 : Int)] rfl rfl (fun _ _ => ⟨rfl, hok.id⟩) u64_size1 u64_zero1 (show 1 ≤ 16777216 by decide) (show 0 < 1 by decide) ?_
      intro v8 W hJ hkb
      have HJ := Lib.hid hJ
      clear hJ
      refine hK _ _ hkb ?_
      clear hK K
      (try simp only [Act.put, List.setIfInBounds_toArray, List.set_cons_succ, List.set_cons_zero])
      exact relist (by kernel_rfl) (hM40 v8 v17 v21 v25 _ (HJ.out.sub (by intro x hx; simp only [List.mem_cons, List.not_mem_nil, or_false] at hx; rcases hx with rfl | rfl | rfl | rfl <;> first | exact (.head _) | exact (.tail _ (.head _)) | exact (.tail _ (.tail _ (.head _))) | exact (.tail _ (.tail _ (.tail _ (.head _)))))))
    · refine HJ.out.mk1 35 (.tmp 12) rfl 5 Try.underlying35 .u8 (byteOf c.2.1) _ [Value.int .u8 ((byteOf c.2.1).toNat : Int)] rfl (by rw [byteOf_eq]; rfl) (fun _ _ => rfl) u8_sizeU u8_zeroU (show 1 ≤ 16777216 by decide) (show 0 < 1 by decide) ?_
      intro v13 W hJ hkb
      have HJ := Lib.hid hJ
      clear hJ
      refine hK _ _ hkb ?_
      clear hK K
      (try simp only [Act.put, List.setIfInBounds_toArray, List.set_cons_succ, List.set_cons_zero])
      exact relist (by kernel_rfl) (hM41 v13 v17 v21 v25 _ (HJ.out.sub (by intro x hx; simp only [List.mem_cons, List.not_mem_nil, or_false] at hx; rcases hx with rfl | rfl | rfl | rfl <;> first | exact (.head _) | exact (.tail _ (.head _)) | exact (.tail _ (.tail _ (.head _))) | exact (.tail _ (.tail _ (.tail _ (.head _)))))))
  · intro v8 v9 v13 v14 W hJ
    have HJ := Lib.hid hJ
    clear hJ
    refine anyofM 12 [16, 20] (by kernel_rfl) ⟨oneM rfl rfl (fun K hK => ?_), oneM rfl rfl (fun K hK => ?_), oneM rfl rfl (fun K hK => ?_), trivial⟩
    · refine HJ.out.mk1 121 (.tmp 16) rfl 23 Try.underlying121 (.nat .u64) c.2.2.1 _ [Value.int .u64 (c.2.2.1 : Int)] rfl rfl (fun _ _ => ⟨rfl, hok.am⟩) u64_size1 u64_zero1 (show 1 ≤ 16777216 by decide) (show 0 < 1 by decide) ?_
      intro v17 W hJ hkb
      have HJ := Lib.hid hJ
      clear hJ
      refine hK _ _ hkb ?_
      clear hK K
      (try simp only [Act.put, List.setIfInBounds_toArray, List.set_cons_succ, List.set_cons_zero])
      exact hM42 v8 v9 v13 v14 v17 _ (HJ.out.sub (by intro x hx; simp only [List.mem_cons, List.not_mem_nil, or_false] at hx; rcases hx with rfl <;> first | exact (.head _)))
    · refine HJ.out.mk1 68 (.tmp 20) rfl 52 Try.underlying68 (.arr 32 .u8) c.2.2.2.1 _ (bv c.2.2.2.1) rfl rfl (fun _ _ => ⟨hok.hash, AllH.bytes.2 rfl⟩) (szDg (by rw [bv_length]; exact HH.out)) zDg (by rw [bv_length, HH.out]; decide) (by rw [bv_length, HH.out]; decide) ?_
      intro v21 W hJ hkb
      have HJ := Lib.hid hJ
      clear hJ
      refine hK _ _ hkb ?_
      clear hK K
      (try simp only [Act.put, List.setIfInBounds_toArray, List.set_cons_succ, List.set_cons_zero])
      exact hM43 v8 v9 v13 v14 v21 _ (HJ.out.sub (by intro x hx; simp only [List.mem_cons, List.not_mem_nil, or_false] at hx; rcases hx with rfl <;> first | exact (.head _)))
    · refine HJ.out.mk1 121 (.tmp 24) rfl 23 Try.underlying121 (.nat .u64) c.2.2.2.2.1 _ [Value.int .u64 (c.2.2.2.2.1 : Int)] rfl rfl (fun _ _ => ⟨rfl, hok.exp⟩) u64_size1 u64_zero1 (show 1 ≤ 16777216 by decide) (show 0 < 1 by decide) ?_
      intro v25 W hJ hkb
      have HJ := Lib.hid hJ
      clear hJ
      refine hK _ _ hkb ?_
      clear hK K
      (try simp only [Act.put, List.setIfInBounds_toArray, List.set_cons_succ, List.set_cons_zero])
      exact hM44 v8 v9 v13 v14 v25 _ (HJ.out.sub (by intro x hx; simp only [List.mem_cons, List.not_mem_nil, or_false] at hx; rcases hx with rfl <;> first | exact (.head _)))
  · intro v8 v9 v13 v17 W hJ
    have HJ := Lib.hid hJ
    clear hJ
    refine anyofM 9 [16, 20] (by kernel_rfl) ⟨oneM rfl rfl (fun K hK => ?_), oneM rfl rfl (fun K hK => ?_), oneM rfl rfl (fun K hK => ?_), trivial⟩
    · go_simp
      refine (HJ.out.one (.head _) (by simp only [List.length_append, List.length_cons, List.length_nil, List.flatMap_cons, List.flatMap_nil, be_length, HH.out, id]; omega)).mono ?_
      rintro e W ⟨v14, rfl, hJ, hkb⟩
      have HJ := Lib.hid hJ
      clear hJ
      refine hK _ _ hkb ?_
      clear hK K
      exact relist (by kernel_rfl) (hM42 v8 v9 v13 v14 v17 _ (HJ.out.sub (by intro x hx; simp only [List.mem_cons, List.not_mem_nil, or_false] at hx; rcases hx with rfl <;> first | exact (.tail _ (.head _)))))
    · refine HJ.out.mk1 68 (.tmp 20) rfl 52 Try.underlying68 (.arr 32 .u8) c.2.2.2.1 _ (bv c.2.2.2.1) rfl rfl (fun _ _ => ⟨hok.hash, AllH.bytes.2 rfl⟩) (szDg (by rw [bv_length]; exact HH.out)) zDg (by rw [bv_length, HH.out]; decide) (by rw [bv_length, HH.out]; decide) ?_
      intro v21 W hJ hkb
      have HJ := Lib.hid hJ
      clear hJ
      refine hK _ _ hkb ?_
      clear hK K
      (try simp only [Act.put, List.setIfInBounds_toArray, List.set_cons_succ, List.set_cons_zero])
      exact hM45 v8 v9 v13 v17 v21 _ (HJ.out.sub (by intro x hx; simp only [List.mem_cons, List.not_mem_nil, or_false] at hx; rcases hx with rfl | rfl | rfl <;> first | exact (.tail _ (.head _)) | exact (.tail _ (.tail _ (.head _))) | exact (.head _)))
    · refine HJ.out.mk1 121 (.tmp 24) rfl 23 Try.underlying121 (.nat .u64) c.2.2.2.2.1 _ [Value.int .u64 (c.2.2.2.2.1 : Int)] rfl rfl (fun _ _ => ⟨rfl, hok.exp⟩) u64_size1 u64_zero1 (show 1 ≤ 16777216 by decide) (show 0 < 1 by decide) ?_
      intro v25 W hJ hkb
      have HJ := Lib.hid hJ
      clear hJ
      refine hK _ _ hkb ?_
      clear hK K
      (try simp only [Act.put, List.setIfInBounds_toArray, List.set_cons_succ, List.set_cons_zero])
      exact hM46 v8 v9 v13 v17 v25 _ (HJ.out.sub (by intro x hx; simp only [List.mem_cons, List.not_mem_nil, or_false] at hx; rcases hx with rfl | rfl | rfl <;> first | exact (.tail _ (.head _)) | exact (.tail _ (.tail _ (.head _))) | exact (.head _)))
  · intro v8 v9 v13 v21 W hJ
    have HJ := Lib.hid hJ
    clear hJ
    refine anyofM 9 [12, 20] (by kernel_rfl) ⟨oneM rfl rfl (fun K hK => ?_), oneM rfl rfl (fun K hK => ?_), oneM rfl rfl (fun K hK => ?_), trivial⟩
    · go_simp
      refine (HJ.out.one (.head _) (by simp only [List.length_append, List.length_cons, List.length_nil, List.flatMap_cons, List.flatMap_nil, be_length, HH.out, id]; omega)).mono ?_
      rintro e W ⟨v14, rfl, hJ, hkb⟩
      have HJ := Lib.hid hJ
      clear hJ
      refine hK _ _ hkb ?_
      clear hK K
      exact relist (by kernel_rfl) (hM43 v8 v9 v13 v14 v21 _ (HJ.out.sub (by intro x hx; simp only [List.mem_cons, List.not_mem_nil, or_false] at hx; rcases hx with rfl <;> first | exact (.tail _ (.head _)))))
    · refine HJ.out.mk1 121 (.tmp 16) rfl 23 Try.underlying121 (.nat .u64) c.2.2.1 _ [Value.int .u64 (c.2.2.1 : Int)] rfl rfl (fun _ _ => ⟨rfl, hok.am⟩) u64_size1 u64_zero1 (show 1 ≤ 16777216 by decide) (show 0 < 1 by decide) ?_
      intro v17 W hJ hkb
      have HJ := Lib.hid hJ
      clear hJ
      refine hK _ _ hkb ?_
      clear hK K
      (try simp only [Act.put, List.setIfInBounds_toArray, List.set_cons_succ, List.set_cons_zero])
      exact relist (by kernel_rfl) (hM45 v8 v9 v13 v17 v21 _ (HJ.out.sub (by intro x hx; simp only [List.mem_cons, List.not_mem_nil, or_false] at hx; rcases hx with rfl | rfl | rfl <;> first | exact (.tail _ (.head _)) | exact (.head _) | exact (.tail _ (.tail _ (.head _))))))
    · refine HJ.out.mk1 121 (.tmp 24) rfl 23 Try.underlying121 (.nat .u64) c.2.2.2.2.1 _ [Value.int .u64 (c.2.2.2.2.1 : Int)] rfl rfl (fun _ _ => ⟨rfl, hok.exp⟩) u64_size1 u64_zero1 (show 1 ≤ 16777216 by decide) (show 0 < 1 by decide) ?_
      intro v25 W hJ hkb
      have HJ := Lib.hid hJ
      clear hJ
      refine hK _ _ hkb ?_
      clear hK K
      (try simp only [Act.put, List.setIfInBounds_toArray, List.set_cons_succ, List.set_cons_zero])
      exact hM47 v8 v9 v13 v21 v25 _ (HJ.out.sub (by intro x hx; simp only [List.mem_cons, List.not_mem_nil, or_false] at hx; rcases hx with rfl | rfl | rfl <;> first | exact (.tail _ (.head _)) | exact (.tail _ (.tail _ (.head _))) | exact (.head _)))
  · intro v8 v9 v13 v25 W hJ
    have HJ := Lib.hid hJ
    clear hJ
    refine anyofM 9 [12, 16] (by kernel_rfl) ⟨oneM rfl rfl (fun K hK => ?_), oneM rfl rfl (fun K hK => ?_), oneM rfl rfl (fun K hK => ?_), trivial⟩
    · go_simp
      refine (HJ.out.one (.head _) (by simp only [List.length_append, List.length_cons, List.length_nil, List.flatMap_cons, List.flatMap_nil, be_length, HH.out, id]; omega)).mono ?_
      rintro e W ⟨v14, rfl, hJ, hkb⟩
      have HJ := Lib.hid hJ
      clear hJ
      refine hK _ _ hkb ?_
      clear hK K
      exact relist (by kernel_rfl) (hM44 v8 v9 v13 v14 v25 _ (HJ.out.sub (by intro x hx; simp only [List.mem_cons, List.not_mem_nil, or_false] at hx; rcases hx with rfl <;> first | exact (.tail _ (.head _)))))
    · refine HJ.out.mk1 121 (.tmp 16) rfl 23 Try.underlying121 (.nat .u64) c.2.2.1 _ [Value.int .u64 (c.2.2.1 : Int)] rfl rfl (fun _ _ => ⟨rfl, hok.am⟩) u64_size1 u64_zero1 (show 1 ≤ 16777216 by decide) (show 0 < 1 by decide) ?_
      intro v17 W hJ hkb
      have HJ := Lib.hid hJ
      clear hJ
      refine hK _ _ hkb ?_
      clear hK K
      (try simp only [Act.put, List.setIfInBounds_toArray, List.set_cons_succ, List.set_cons_zero])
      exact relist (by kernel_rfl) (hM46 v8 v9 v13 v17 v25 _ (HJ.out.sub (by intro x hx; simp only [List.mem_cons, List.not_mem_nil, or_false] at hx; rcases hx with rfl | rfl | rfl <;> first | exact (.tail _ (.head _)) | exact (.head _) | exact (.tail _ (.tail _ (.head _))))))
    · refine HJ.out.mk1 68 (.tmp 20) rfl 52 Try.underlying68 (.arr 32 .u8) c.2.2.2.1 _ (bv c.2.2.2.1) rfl rfl (fun _ _ => ⟨hok.hash, AllH.bytes.2 rfl⟩) (szDg (by rw [bv_length]; exact HH.out)) zDg (by rw [bv_length, HH.out]; decide) (by rw [bv_length, HH.out]; decide) ?_
      intro v21 W hJ hkb
      have HJ := Lib.hid hJ
      clear hJ
      refine hK _ _ hkb ?_
      clear hK K
      (try simp only [Act.put, List.setIfInBounds_toArray, List.set_cons_succ, List.set_cons_zero])
      exact relist (by kernel_rfl) (hM47 v8 v9 v13 v21 v25 _ (HJ.out.sub (by intro x hx; simp only [List.mem_cons, List.not_mem_nil, or_false] at hx; rcases hx with rfl | rfl | rfl <;> first | exact (.tail _ (.head _)) | exact (.head _) | exact (.tail _ (.tail _ (.head _))))))
  · intro v8 v9 v17 v21 W hJ
    have HJ := Lib.hid hJ
    clear hJ
    refine anyofM 8 [20] (by kernel_rfl) ⟨oneM rfl rfl (fun K hK => ?_), oneM rfl rfl (fun K hK => ?_), trivial⟩
    · refine HJ.out.mk1 35 (.tmp 12) rfl 5 Try.underlying35 .u8 (byteOf c.2.1) _ [Value.int .u8 ((byteOf c.2.1).toNat : Int)] rfl (by rw [byteOf_eq]; rfl) (fun _ _ => rfl) u8_sizeU u8_zeroU (show 1 ≤ 16777216 by decide) (show 0 < 1 by decide) ?_
      intro v13 W hJ hkb
      have HJ := Lib.hid hJ
      clear hJ
      refine hK _ _ hkb ?_
      clear hK K
      (try simp only [Act.put, List.setIfInBounds_toArray, List.set_cons_succ, List.set_cons_zero])
      exact relist (by kernel_rfl) (hM45 v8 v9 v13 v17 v21 _ (HJ.out.sub (by intro x hx; simp only [List.mem_cons, List.not_mem_nil, or_false] at hx; rcases hx with rfl | rfl | rfl <;> first | exact (.head _) | exact (.tail _ (.head _)) | exact (.tail _ (.tail _ (.head _))))))
    · refine HJ.out.mk1 121 (.tmp 24) rfl 23 Try.underlying121 (.nat .u64) c.2.2.2.2.1 _ [Value.int .u64 (c.2.2.2.2.1 : Int)] rfl rfl (fun _ _ => ⟨rfl, hok.exp⟩) u64_size1 u64_zero1 (show 1 ≤ 16777216 by decide) (show 0 < 1 by decide) ?_
      intro v25 W hJ hkb
      have HJ := Lib.hid hJ
      clear hJ
      refine hK _ _ hkb ?_
      clear hK K
      (try simp only [Act.put, List.setIfInBounds_toArray, List.set_cons_succ, List.set_cons_zero])
      exact hM48 v8 v9 v17 v21 v25 _ (HJ.out.sub (by intro x hx; simp only [List.mem_cons, List.not_mem_nil, or_false] at hx; rcases hx with rfl | rfl | rfl <;> first | exact (.tail _ (.head _)) | exact (.tail _ (.tail _ (.head _))) | exact (.head _)))
  · intro v8 v9 v17 v25 W hJ
    have HJ := Lib.hid hJ
    clear hJ
    refine anyofM 8 [16] (by kernel_rfl) ⟨oneM rfl rfl (fun K hK => ?_), oneM rfl rfl (fun K hK => ?_), trivial⟩
    · refine HJ.out.mk1 35 (.tmp 12) rfl 5 Try.underlying35 .u8 (byteOf c.2.1) _ [Value.int .u8 ((byteOf c.2.1).toNat : Int)] rfl (by rw [byteOf_eq]; rfl) (fun _ _ => rfl) u8_sizeU u8_zeroU (show 1 ≤ 16777216 by decide) (show 0 < 1 by decide) ?_
      intro v13 W hJ hkb
      have HJ := Lib.hid hJ
      clear hJ
      refine hK _ _ hkb ?_
      clear hK K
      (try simp only [Act.put, List.setIfInBounds_toArray, List.set_cons_succ, List.set_cons_zero])
      exact relist (by kernel_rfl) (hM46 v8 v9 v13 v17 v25 _ (HJ.out.sub (by intro x hx; simp only [List.mem_cons, List.not_mem_nil, or_false] at hx; rcases hx with rfl | rfl | rfl <;> first | exact (.head _) | exact (.tail _ (.head _)) | exact (.tail _ (.tail _ (.head _))))))
    · refine HJ.out.mk1 68 (.tmp 20) rfl 52 Try.underlying68 (.arr 32 .u8) c.2.2.2.1 _ (bv c.2.2.2.1) rfl rfl (fun _ _ => ⟨hok.hash, AllH.bytes.2 rfl⟩) (szDg (by rw [bv_length]; exact HH.out)) zDg (by rw [bv_length, HH.out]; decide) (by rw [bv_length, HH.out]; decide) ?_
      intro v21 W hJ hkb
      have HJ := Lib.hid hJ
      clear hJ
      refine hK _ _ hkb ?_
      clear hK K
      (try simp only [Act.put, List.setIfInBounds_toArray, List.set_cons_succ, List.set_cons_zero])
      exact relist (by kernel_rfl) (hM48 v8 v9 v17 v21 v25 _ (HJ.out.sub (by intro x hx; simp only [List.mem_cons, List.not_mem_nil, or_false] at hx; rcases hx with rfl | rfl | rfl <;> first | exact (.tail _ (.head _)) | exact (.head _) | exact (.tail _ (.tail _ (.head _))))))
  · intro v8 v9 v21 v25 W hJ
    have HJ := Lib.hid hJ
    clear hJ
    refine anyofM 8 [12] (by kernel_rfl) ⟨oneM rfl rfl (fun K hK => ?_), oneM rfl rfl (fun K hK => ?_), trivial⟩
    · refine HJ.out.mk1 35 (.tmp 12) rfl 5 Try.underlying35 .u8 (byteOf c.2.1) _ [Value.int .u8 ((byteOf c.2.1).toNat : Int)] rfl (by rw [byteOf_eq]; rfl) (fun _ _ => rfl) u8_sizeU u8_zeroU (show 1 ≤ 16777216 by decide) (show 0 < 1 by decide) ?_
      intro v13 W hJ hkb
      have HJ := Lib.hid hJ
      clear hJ
      refine hK _ _ hkb ?_
      clear hK K
      (try simp only [Act.put, List.setIfInBounds_toArray, List.set_cons_succ, List.set_cons_zero])
      exact relist (by kernel_rfl) (hM47 v8 v9 v13 v21 v25 _ (HJ.out.sub (by intro x hx; simp only [List.mem_cons, List.not_mem_nil, or_false] at hx; rcases hx with rfl | rfl | rfl <;> first | exact (.head _) | exact (.tail _ (.head _)) | exact (.tail _ (.tail _ (.head _))))))
    · refine HJ.out.mk1 121 (.tmp 16) rfl 23 Try.underlying121 (.nat .u64) c.2.2.1 _ [Value.int .u64 (c.2.2.1 : Int)] rfl rfl (fun _ _ => ⟨rfl, hok.am⟩) u64_size1 u64_zero1 (show 1 ≤ 16777216 by decide) (show 0 < 1 by decide) ?_
      intro v17 W hJ hkb
      have HJ := Lib.hid hJ
      clear hJ
      refine hK _ _ hkb ?_
      clear hK K
      (try simp only [Act.put, List.setIfInBounds_toArray, List.set_cons_succ, List.set_cons_zero])
      exact relist (by kernel_rfl) (hM48 v8 v9 v17 v21 v25 _ (HJ.out.sub (by intro x hx; simp only [List.mem_cons, List.not_mem_nil, or_false] at hx; rcases hx with rfl | rfl | rfl <;> first | exact (.head _) | exact (.tail _ (.head _)) | exact (.tail _ (.tail _ (.head _))))))
  · intro v8 v13 v17 v21 W hJ
    have HJ := Lib.hid hJ
    clear hJ
    refine anyofM 4 [20] (by kernel_rfl) ⟨oneM rfl rfl (fun K hK => ?_), oneM rfl rfl (fun K hK => ?_), trivial⟩
    · go_simp
      refine (HJ.out.eight (.head _) (by simp only [List.length_append, List.length_cons, List.length_nil, List.flatMap_cons, List.flatMap_nil, be_length, HH.out, id]; omega)).mono ?_
      rintro e W ⟨v9, rfl, hJ, hkb⟩
      have HJ := Lib.hid hJ
      clear hJ
      refine hK _ _ hkb ?_
      clear hK K
      exact relist (by kernel_rfl) (hM45 v8 v9 v13 v17 v21 _ (HJ.out.sub (by intro x hx; simp only [List.mem_cons, List.not_mem_nil, or_false] at hx; rcases hx with rfl | rfl | rfl <;> first | exact (.tail _ (.head _)) | exact (.tail _ (.tail _ (.head _))) | exact (.tail _ (.tail _ (.tail _ (.head _)))))))
    · refine HJ.out.mk1 121 (.tmp 24) rfl 23 Try.underlying121 (.nat .u64) c.2.2.2.2.1 _ [Value.int .u64 (c.2.2.2.2.1 : Int)] rfl rfl (fun _ _ => ⟨rfl, hok.exp⟩) u64_size1 u64_zero1 (show 1 ≤ 16777216 by decide) (show 0 < 1 by decide) ?_
      intro v25 W hJ hkb
      have HJ := Lib.hid hJ
      clear hJ
      refine hK _ _ hkb ?_
      clear hK K
      (try simp only [Act.put, List.setIfInBounds_toArray, List.set_cons_succ, List.set_cons_zero])
      exact hM49 v8 v13 v17 v21 v25 _ (HJ.out.sub (by intro x hx; simp only [List.mem_cons, List.not_mem_nil, or_false] at hx; rcases hx with rfl | rfl | rfl | rfl | rfl <;> first | exact (.tail _ (.head _)) | exact (.tail _ (.tail _ (.head _))) | exact (.tail _ (.tail _ (.tail _ (.head _)))) | exact (.tail _ (.tail _ (.tail _ (.tail _ (.head _))))) | exact (.head _)))
  · intro v8 v13 v17 v25 W hJ
    have HJ := Lib.hid hJ
    clear hJ
    refine anyofM 4 [16] (by kernel_rfl) ⟨oneM rfl rfl (fun K hK => ?_), oneM rfl rfl (fun K hK => ?_), trivial⟩
    · go_simp
      refine (HJ.out.eight (.head _) (by simp only [List.length_append, List.length_cons, List.length_nil, List.flatMap_cons, List.flatMap_nil, be_length, HH.out, id]; omega)).mono ?_
      rintro e W ⟨v9, rfl, hJ, hkb⟩
      have HJ := Lib.hid hJ
      clear hJ
      refine hK _ _ hkb ?_
      clear hK K
      exact relist (by kernel_rfl) (hM46 v8 v9 v13 v17 v25 _ (HJ.out.sub (by intro x hx; simp only [List.mem_cons, List.not_mem_nil, or_false] at hx; rcases hx with rfl | rfl | rfl <;> first | exact (.tail _ (.head _)) | exact (.tail _ (.tail _ (.head _))) | exact (.tail _ (.tail _ (.tail _ (.head _)))))))
    · refine HJ.out.mk1 68 (.tmp 20) rfl 52 Try.underlying68 (.arr 32 .u8) c.2.2.2.1 _ (bv c.2.2.2.1) rfl rfl (fun _ _ => ⟨hok.hash, AllH.bytes.2 rfl⟩) (szDg (by rw [bv_length]; exact HH.out)) zDg (by rw [bv_length, HH.out]; decide) (by rw [bv_length, HH.out]; decide) ?_
      intro v21 W hJ hkb
      have HJ := Lib.hid hJ
      clear hJ
      refine hK _ _ hkb ?_
      clear hK K
      (try simp only [Act.put, List.setIfInBounds_toArray, List.set_cons_succ, List.set_cons_zero])
      exact relist (by kernel_rfl) (hM49 v8 v13 v17 v21 v25 _ (HJ.out.sub (by intro x hx; simp only [List.mem_cons, List.not_mem_nil, or_false] at hx; rcases hx with rfl | rfl | rfl | rfl | rfl <;> first | exact (.tail _ (.head _)) | exact (.tail _ (.tail _ (.head _))) | exact (.tail _ (.tail _ (.tail _ (.head _)))) | exact (.head _) | exact (.tail _ (.tail _ (.tail _ (.tail _ (.head _))))))))
  · intro v8 v13 v21 v25 W hJ
    have HJ := Lib.hid hJ
    clear hJ
    refine anyofM 4 [12] (by kernel_rfl) ⟨oneM rfl rfl (fun K hK => ?_), oneM rfl rfl (fun K hK => ?_), trivial⟩
    · go_simp
      refine (HJ.out.eight (.head _) (by simp only [List.length_append, List.length_cons, List.length_nil, List.flatMap_cons, List.flatMap_nil, be_length, HH.out, id]; omega)).mono ?_
      rintro e W ⟨v9, rfl, hJ, hkb⟩
      have HJ := Lib.hid hJ
      clear hJ
      refine hK _ _ hkb ?_
      clear hK K
      exact relist (by kernel_rfl) (hM47 v8 v9 v13 v21 v25 _ (HJ.out.sub (by intro x hx; simp only [List.mem_cons, List.not_mem_nil, or_false] at hx; rcases hx with rfl | rfl | rfl <;> first | exact (.tail _ (.head _)) | exact (.tail _ (.tail _ (.head _))) | exact (.tail _ (.tail _ (.tail _ (.head _)))))))
    · refine HJ.out.mk1 121 (.tmp 16) rfl 23 Try.underlying121 (.nat .u64) c.2.2.1 _ [Value.int .u64 (c.2.2.1 : Int)] rfl rfl (fun _ _ => ⟨rfl, hok.am⟩) u64_size1 u64_zero1 (show 1 ≤ 16777216 by decide) (show 0 < 1 by decide) ?_
      intro v17 W hJ hkb
      have HJ := Lib.hid hJ
      clear hJ
      refine hK _ _ hkb ?_
      clear hK K
      (try simp only [Act.put, List.setIfInBounds_toArray, List.set_cons_succ, List.set_cons_zero])
      exact relist (by kernel_rfl) (hM49 v8 v13 v17 v21 v25 _ (HJ.out.sub (by intro x hx; simp only [List.mem_cons, List.not_mem_nil, or_false] at hx; rcases hx with rfl | rfl | rfl | rfl | rfl <;> first | exact (.tail _ (.head _)) | exact (.tail _ (.tail _ (.head _))) | exact (.head _) | exact (.tail _ (.tail _ (.tail _ (.head _)))) | exact (.tail _ (.tail _ (.tail _ (.tail _ (.head _))))))))
  · intro v8 v17 v21 v25 W hJ
    have HJ := Lib.hid hJ
    clear hJ
    refine anyofM 4 [8] (by kernel_rfl) ⟨oneM rfl rfl (fun K hK => ?_), oneM rfl rfl (fun K hK => ?_), trivial⟩
    · go_simp
      refine (HJ.out.eight (.head _) (by simp only [List.length_append, List.length_cons, List.length_nil, List.flatMap_cons, List.flatMap_nil, be_length, HH.out, id]; omega)).mono ?_
      rintro e W ⟨v9, rfl, hJ, hkb⟩
      have HJ := Lib.hid hJ
      clear hJ
      refine hK _ _ hkb ?_
      clear hK K
      exact relist (by kernel_rfl) (hM48 v8 v9 v17 v21 v25 _ (HJ.out.sub (by intro x hx; simp only [List.mem_cons, List.not_mem_nil, or_false] at hx; rcases hx with rfl | rfl | rfl <;> first | exact (.tail _ (.head _)) | exact (.tail _ (.tail _ (.head _))) | exact (.tail _ (.tail _ (.tail _ (.head _)))))))
    · refine HJ.out.mk1 35 (.tmp 12) rfl 5 Try.underlying35 .u8 (byteOf c.2.1) _ [Value.int .u8 ((byteOf c.2.1).toNat : Int)] rfl (by rw [byteOf_eq]; rfl) (fun _ _ => rfl) u8_sizeU u8_zeroU (show 1 ≤ 16777216 by decide) (show 0 < 1 by decide) ?_
      intro v13 W hJ hkb
      have HJ := Lib.hid hJ
      clear hJ
      refine hK _ _ hkb ?_
      clear hK K
      (try simp only [Act.put, List.setIfInBounds_toArray, List.set_cons_succ, List.set_cons_zero])
      exact relist (by kernel_rfl) (hM49 v8 v13 v17 v21 v25 _ (HJ.out.sub (by intro x hx; simp only [List.mem_cons, List.not_mem_nil, or_false] at hx; rcases hx with rfl | rfl | rfl | rfl | rfl <;> first | exact (.tail _ (.head _)) | exact (.head _) | exact (.tail _ (.tail _ (.head _))) | exact (.tail _ (.tail _ (.tail _ (.head _)))) | exact (.tail _ (.tail _ (.tail _ (.tail _ (.head _))))))))
  · intro v13 v17 v21 v25 W hJ
    have HJ := Lib.hid hJ
    clear hJ
    refine stepM 3 rfl (by kernel_rfl) rfl (fun K hK => ?_)
    refine HJ.out.mk1 121 (.tmp 7) rfl 23 Try.underlying121 (.nat .u64) c.1 _ [Value.int .u64 (c.1 : Int)] rfl rfl (fun _ _ => ⟨rfl, hok.id⟩) u64_size1 u64_zero1 (show 1 ≤ 16777216 by decide) (show 0 < 1 by decide) ?_
    intro v8 W hJ hkb
    have HJ := Lib.hid hJ
    clear hJ
    refine hK _ _ hkb ?_
    clear hK K
    (try simp only [Act.put, List.setIfInBounds_toArray, List.set_cons_succ, List.set_cons_zero])
    exact relist (by kernel_rfl) (hM49 v8 v13 v17 v21 v25 _ (HJ.out.sub (by intro x hx; simp only [List.mem_cons, List.not_mem_nil, or_false] at hx; rcases hx with rfl | rfl | rfl | rfl | rfl <;> first | exact (.head _) | exact (.tail _ (.head _)) | exact (.tail _ (.tail _ (.head _))) | exact (.tail _ (.tail _ (.tail _ (.head _)))) | exact (.tail _ (.tail _ (.tail _ (.tail _ (.head _))))))))
  · intro v8 v9 v13 v14 v17 W hJ
    have HJ := Lib.hid hJ
    clear hJ
    refine anyofM 13 [16, 20] (by kernel_rfl) ⟨oneM rfl rfl (fun K hK => ?_), oneM rfl rfl (fun K hK => ?_), oneM rfl rfl (fun K hK => ?_), trivial⟩
    · go_simp
      refine (HJ.out.eight (.head _) (by simp only [List.length_append, List.length_cons, List.length_nil, List.flatMap_cons, List.flatMap_nil, be_length, HH.out, id]; omega)).mono ?_
      rintro e W ⟨v18, rfl, hJ, hkb⟩
      have HJ := Lib.hid hJ
      clear hJ
      refine hK _ _ hkb ?_
      clear hK K
      exact hM50 v8 v9 v13 v14 v17 v18 _ (HJ.out.sub (by intro x hx; cases hx))
    · refine HJ.out.mk1 68 (.tmp 20) rfl 52 Try.underlying68 (.arr 32 .u8) c.2.2.2.1 _ (bv c.2.2.2.1) rfl rfl (fun _ _ => ⟨hok.hash, AllH.bytes.2 rfl⟩) (szDg (by rw [bv_length]; exact HH.out)) zDg (by rw [bv_length, HH.out]; decide) (by rw [bv_length, HH.out]; decide) ?_
      intro v21 W hJ hkb
      have HJ := Lib.hid hJ
      clear hJ
      refine hK _ _ hkb ?_
      clear hK K
      (try simp only [Act.put, List.setIfInBounds_toArray, List.set_cons_succ, List.set_cons_zero])
      exact hM51 v8 v9 v13 v14 v17 v21 _ (HJ.out.sub (by intro x hx; simp only [List.mem_cons, List.not_mem_nil, or_false] at hx; rcases hx with rfl | rfl <;> first | exact (.tail _ (.head _)) | exact (.head _)))
    · refine HJ.out.mk1 121 (.tmp 24) rfl 23 Try.underlying121 (.nat .u64) c.2.2.2.2.1 _ [Value.int .u64 (c.2.2.2.2.1 : Int)] rfl rfl (fun _ _ => ⟨rfl, hok.exp⟩) u64_size1 u64_zero1 (show 1 ≤ 16777216 by decide) (show 0 < 1 by decide) ?_
      intro v25 W hJ hkb
      have HJ := Lib.hid hJ
      clear hJ
      refine hK _ _ hkb ?_
      clear hK K
      (try simp only [Act.put, List.setIfInBounds_toArray, List.set_cons_succ, List.set_cons_zero])
      exact hM52 v8 v9 v13 v14 v17 v25 _ (HJ.out.sub (by intro x hx; simp only [List.mem_cons, List.not_mem_nil, or_false] at hx; rcases hx with rfl | rfl <;> first | exact (.tail _ (.head _)) | exact (.head _)))
  · intro v8 v9 v13 v14 v21 W hJ
    have HJ := Lib.hid hJ
    clear hJ
    refine anyofM 12 [20] (by kernel_rfl) ⟨oneM rfl rfl (fun K hK => ?_), oneM rfl rfl (fun K hK => ?_), trivial⟩
    · refine HJ.out.mk1 121 (.tmp 16) rfl 23 Try.underlying121 (.nat .u64) c.2.2.1 _ [Value.int .u64 (c.2.2.1 : Int)] rfl rfl (fun _ _ => ⟨rfl, hok.am⟩) u64_size1 u64_zero1 (show 1 ≤ 16777216 by decide) (show 0 < 1 by decide) ?_
      intro v17 W hJ hkb
      have HJ := Lib.hid hJ
      clear hJ
      refine hK _ _ hkb ?_
      clear hK K
      (try simp only [Act.put, List.setIfInBounds_toArray, List.set_cons_succ, List.set_cons_zero])
      exact relist (by kernel_rfl) (hM51 v8 v9 v13 v14 v17 v21 _ (HJ.out.sub (by intro x hx; simp only [List.mem_cons, List.not_mem_nil, or_false] at hx; rcases hx with rfl | rfl <;> first | exact (.head _) | exact (.tail _ (.head _)))))
    · refine HJ.out.mk1 121 (.tmp 24) rfl 23 Try.underlying121 (.nat .u64) c.2.2.2.2.1 _ [Value.int .u64 (c.2.2.2.2.1 : Int)] rfl rfl (fun _ _ => ⟨rfl, hok.exp⟩) u64_size1 u64_zero1 (show 1 ≤ 16777216 by decide) (show 0 < 1 by decide) ?_
      intro v25 W hJ hkb
      have HJ := Lib.hid hJ
      clear hJ
      refine hK _ _ hkb ?_
      clear hK K
      (try simp only [Act.put, List.setIfInBounds_toArray, List.set_cons_succ, List.set_cons_zero])
      exact hM53 v8 v9 v13 v14 v21 v25 _ (HJ.out.sub (by intro x hx; simp only [List.mem_cons, List.not_mem_nil, or_false] at hx; rcases hx with rfl | rfl <;> first | exact (.tail _ (.head _)) | exact (.head _)))
  · intro v8 v9 v13 v14 v25 W hJ
    have HJ := Lib.hid hJ
    clear hJ
    refine anyofM 12 [16] (by kernel_rfl) ⟨oneM rfl rfl (fun K hK => ?_), oneM rfl rfl (fun K hK => ?_), trivial⟩
    · refine HJ.out.mk1 121 (.tmp 16) rfl 23 Try.underlying121 (.nat .u64) c.2.2.1 _ [Value.int .u64 (c.2.2.1 : Int)] rfl rfl (fun _ _ => ⟨rfl, hok.am⟩) u64_size1 u64_zero1 (show 1 ≤ 16777216 by decide) (show 0 < 1 by decide) ?_
      intro v17 W hJ hkb
      have HJ := Lib.hid hJ
      clear hJ
      refine hK _ _ hkb ?_
      clear hK K
      (try simp only [Act.put, List.setIfInBounds_toArray, List.set_cons_succ, List.set_cons_zero])
      exact relist (by kernel_rfl) (hM52 v8 v9 v13 v14 v17 v25 _ (HJ.out.sub (by intro x hx; simp only [List.mem_cons, List.not_mem_nil, or_false] at hx; rcases hx with rfl | rfl <;> first | exact (.head _) | exact (.tail _ (.head _)))))
    · refine HJ.out.mk1 68 (.tmp 20) rfl 52 Try.underlying68 (.arr 32 .u8) c.2.2.2.1 _ (bv c.2.2.2.1) rfl rfl (fun _ _ => ⟨hok.hash, AllH.bytes.2 rfl⟩) (szDg (by rw [bv_length]; exact HH.out)) zDg (by rw [bv_length, HH.out]; decide) (by rw [bv_length, HH.out]; decide) ?_
      intro v21 W hJ hkb
      have HJ := Lib.hid hJ
      clear hJ
      refine hK _ _ hkb ?_
      clear hK K
      (try simp only [Act.put, List.setIfInBounds_toArray, List.set_cons_succ, List.set_cons_zero])
      exact relist (by kernel_rfl) (hM53 v8 v9 v13 v14 v21 v25 _ (HJ.out.sub (by intro x hx; simp only [List.mem_cons, List.not_mem_nil, or_false] at hx; rcases hx with rfl | rfl <;> first | exact (.head _) | exact (.tail _ (.head _)))))
  · intro v8 v9 v13 v17 v21 W hJ
    have HJ := Lib.hid hJ
    clear hJ
    refine anyofM 9 [20] (by kernel_rfl) ⟨oneM rfl rfl (fun K hK => ?_), oneM rfl rfl (fun K hK => ?_), trivial⟩
    · go_simp
      refine (HJ.out.one (.head _) (by simp only [List.length_append, List.length_cons, List.length_nil, List.flatMap_cons, List.flatMap_nil, be_length, HH.out, id]; omega)).mono ?_
      rintro e W ⟨v14, rfl, hJ, hkb⟩
      have HJ := Lib.hid hJ
      clear hJ
      refine hK _ _ hkb ?_
      clear hK K
      exact relist (by kernel_rfl) (hM51 v8 v9 v13 v14 v17 v21 _ (HJ.out.sub (by intro x hx; simp only [List.mem_cons, List.not_mem_nil, or_false] at hx; rcases hx with rfl | rfl <;> first | exact (.tail _ (.head _)) | exact (.tail _ (.tail _ (.head _))))))
    · refine HJ.out.mk1 121 (.tmp 24) rfl 23 Try.underlying121 (.nat .u64) c.2.2.2.2.1 _ [Value.int .u64 (c.2.2.2.2.1 : Int)] rfl rfl (fun _ _ => ⟨rfl, hok.exp⟩) u64_size1 u64_zero1 (show 1 ≤ 16777216 by decide) (show 0 < 1 by decide) ?_
      intro v25 W hJ hkb
      have HJ := Lib.hid hJ
      clear hJ
      refine hK _ _ hkb ?_
      clear hK K
      (try simp only [Act.put, List.setIfInBounds_toArray, List.set_cons_succ, List.set_cons_zero])
      exact hM54 v8 v9 v13 v17 v21 v25 _ (HJ.out.sub (by intro x hx; simp only [List.mem_cons, List.not_mem_nil, or_false] at hx; rcases hx with rfl | rfl | rfl | rfl <;> first | exact (.tail _ (.head _)) | exact (.tail _ (.tail _ (.head _))) | exact (.tail _ (.tail _ (.tail _ (.head _)))) | exact (.head _)))
  · intro v8 v9 v13 v17 v25 W hJ
    have HJ := Lib.hid hJ
    clear hJ
    refine anyofM 9 [16] (by kernel_rfl) ⟨oneM rfl rfl (fun K hK => ?_), oneM rfl rfl (fun K hK => ?_), trivial⟩
    · go_simp
      refine (HJ.out.one (.head _) (by simp only [List.length_append, List.length_cons, List.length_nil, List.flatMap_cons, List.flatMap_nil, be_length, HH.out, id]; omega)).mono ?_
      rintro e W ⟨v14, rfl, hJ, hkb⟩
      have HJ := Lib.hid hJ
      clear hJ
      refine hK _ _ hkb ?_
      clear hK K
      exact relist (by kernel_rfl) (hM52 v8 v9 v13 v14 v17 v25 _ (HJ.out.sub (by intro x hx; simp only [List.mem_cons, List.not_mem_nil, or_false] at hx; rcases hx with rfl | rfl <;> first | exact (.tail _ (.head _)) | exact (.tail _ (.tail _ (.head _))))))
    · refine HJ.out.mk1 68 (.tmp 20) rfl 52 Try.underlying68 (.arr 32 .u8) c.2.2.2.1 _ (bv c.2.2.2.1) rfl rfl (fun _ _ => ⟨hok.hash, AllH.bytes.2 rfl⟩) (szDg (by rw [bv_length]; exact HH.out)) zDg (by rw [bv_length, HH.out]; decide) (by rw [bv_length, HH.out]; decide) ?_
      intro v21 W hJ hkb
      have HJ := Lib.hid hJ
      clear hJ
      refine hK _ _ hkb ?_
      clear hK K
      (try simp only [Act.put, List.setIfInBounds_toArray, List.set_cons_succ, List.set_cons_zero])
      exact relist (by kernel_rfl) (hM54 v8 v9 v13 v17 v21 v25 _ (HJ.out.sub (by intro x hx; simp only [List.mem_cons, List.not_mem_nil, or_false] at hx; rcases hx with rfl | rfl | rfl | rfl <;> first | exact (.tail _ (.head _)) | exact (.tail _ (.tail _ (.head _))) | exact (.head _) | exact (.tail _ (.tail _ (.tail _ (.head _)))))))
  · intro v8 v9 v13 v21 v25 W hJ
    have HJ := Lib.hid hJ
    clear hJ
    refine anyofM 9 [12] (by kernel_rfl) ⟨oneM rfl rfl (fun K hK => ?_), oneM rfl rfl (fun K hK => ?_), trivial⟩
    · go_simp
      refine (HJ.out.one (.head _) (by simp only [List.length_append, List.length_cons, List.length_nil, List.flatMap_cons, List.flatMap_nil, be_length, HH.out, id]; omega)).mono ?_
      rintro e W ⟨v14, rfl, hJ, hkb⟩
      have HJ := Lib.hid hJ
      clear hJ
      refine hK _ _ hkb ?_
      clear hK K
      exact relist (by kernel_rfl) (hM53 v8 v9 v13 v14 v21 v25 _ (HJ.out.sub (by intro x hx; simp only [List.mem_cons, List.not_mem_nil, or_false] at hx; rcases hx with rfl | rfl <;> first | exact (.tail _ (.head _)) | exact (.tail _ (.tail _ (.head _))))))
    · refine HJ.out.mk1 121 (.tmp 16) rfl 23 Try.underlying121 (.nat .u64) c.2.2.1 _ [Value.int .u64 (c.2.2.1 : Int)] rfl rfl (fun _ _ => ⟨rfl, hok.am⟩) u64_size1 u64_zero1 (show 1 ≤ 16777216 by decide) (show 0 < 1 by decide) ?_
      intro v17 W hJ hkb
      have HJ := Lib.hid hJ
      clear hJ
      refine hK _ _ hkb ?_
      clear hK K
      (try simp only [Act.put, List.setIfInBounds_toArray, List.set_cons_succ, List.set_cons_zero])
      exact relist (by kernel_rfl) (hM54 v8 v9 v13 v17 v21 v25 _ (HJ.out.sub (by intro x hx; simp only [List.mem_cons, List.not_mem_nil, or_false] at hx; rcases hx with rfl | rfl | rfl | rfl <;> first | exact (.tail _ (.head _)) | exact (.head _) | exact (.tail _ (.tail _ (.head _))) | exact (.tail _ (.tail _ (.tail _ (.head _)))))))
  · intro v8 v9 v17 v21 v25 W hJ
    have HJ := Lib.hid hJ
    clear hJ
    refine stepM 8 rfl (by kernel_rfl) rfl (fun K hK => ?_)
    refine HJ.out.mk1 35 (.tmp 12) rfl 5 Try.underlying35 .u8 (byteOf c.2.1) _ [Value.int .u8 ((byteOf c.2.1).toNat : Int)] rfl (by rw [byteOf_eq]; rfl) (fun _ _ => rfl) u8_sizeU u8_zeroU (show 1 ≤ 16777216 by decide) (show 0 < 1 by decide) ?_
    intro v13 W hJ hkb
    have HJ := Lib.hid hJ
    clear hJ
    refine hK _ _ hkb ?_
    clear hK K
    (try simp only [Act.put, List.setIfInBounds_toArray, List.set_cons_succ, List.set_cons_zero])
    exact relist (by kernel_rfl) (hM54 v8 v9 v13 v17 v21 v25 _ (HJ.out.sub (by intro x hx; simp only [List.mem_cons, List.not_mem_nil, or_false] at hx; rcases hx with rfl | rfl | rfl | rfl <;> first | exact (.head _) | exact (.tail _ (.head _)) | exact (.tail _ (.tail _ (.head _))) | exact (.tail _ (.tail _ (.tail _ (.head _)))))))
  · intro v8 v13 v17 v21 v25 W hJ
    have HJ := Lib.hid hJ
    clear hJ
    refine stepM 4 rfl (by kernel_rfl) rfl (fun K hK => ?_)
    go_simp
    refine (HJ.out.eight (.head _) (by simp only [List.length_append, List.length_cons, List.length_nil, List.flatMap_cons, List.flatMap_nil, be_length, HH.out, id]; omega)).mono ?_
    rintro e W ⟨v9, rfl, hJ, hkb⟩
    have HJ := Lib.hid hJ
    clear hJ
    refine hK _ _ hkb ?_
    clear hK K
    exact relist (by kernel_rfl) (hM54 v8 v9 v13 v17 v21 v25 _ (HJ.out.sub (by intro x hx; simp only [List.mem_cons, List.not_mem_nil, or_false] at hx; rcases hx with rfl | rfl | rfl | rfl <;> first | exact (.tail _ (.head _)) | exact (.tail _ (.tail _ (.head _))) | exact (.tail _ (.tail _ (.tail _ (.head _)))) | exact (.tail _ (.tail _ (.tail _ (.tail _ (.head _))))))))
  · intro v8 v9 v13 v14 v17 v18 W hJ
    have HJ := Lib.hid hJ
    clear hJ
    refine anyofM 16 [20] (by kernel_rfl) ⟨oneM rfl rfl (fun K hK => ?_), oneM rfl rfl (fun K hK => ?_), trivial⟩
    · refine HJ.out.mk1 68 (.tmp 20) rfl 52 Try.underlying68 (.arr 32 .u8) c.2.2.2.1 _ (bv c.2.2.2.1) rfl rfl (fun _ _ => ⟨hok.hash, AllH.bytes.2 rfl⟩) (szDg (by rw [bv_length]; exact HH.out)) zDg (by rw [bv_length, HH.out]; decide) (by rw [bv_length, HH.out]; decide) ?_
      intro v21 W hJ hkb
      have HJ := Lib.hid hJ
      clear hJ
      refine hK _ _ hkb ?_
      clear hK K
      (try simp only [Act.put, List.setIfInBounds_toArray, List.set_cons_succ, List.set_cons_zero])
      exact hM55 v8 v9 v13 v14 v17 v18 v21 _ (HJ.out.sub (by intro x hx; simp only [List.mem_cons, List.not_mem_nil, or_false] at hx; rcases hx with rfl <;> first | exact (.head _)))
    · refine HJ.out.mk1 121 (.tmp 24) rfl 23 Try.underlying121 (.nat .u64) c.2.2.2.2.1 _ [Value.int .u64 (c.2.2.2.2.1 : Int)] rfl rfl (fun _ _ => ⟨rfl, hok.exp⟩) u64_size1 u64_zero1 (show 1 ≤ 16777216 by decide) (show 0 < 1 by decide) ?_
      intro v25 W hJ hkb
      have HJ := Lib.hid hJ
      clear hJ
      refine hK _ _ hkb ?_
      clear hK K
      (try simp only [Act.put, List.setIfInBounds_toArray, List.set_cons_succ, List.set_cons_zero])
      exact hM56 v8 v9 v13 v14 v17 v18 v25 _ (HJ.out.sub (by intro x hx; simp only [List.mem_cons, List.not_mem_nil, or_false] at hx; rcases hx with rfl <;> first | exact (.head _)))
  · intro v8 v9 v13 v14 v17 v21 W hJ
    have HJ := Lib.hid hJ
    clear hJ
    refine anyofM 13 [20] (by kernel_rfl) ⟨oneM rfl rfl (fun K hK => ?_), oneM rfl rfl (fun K hK => ?_), trivial⟩
    · go_simp
      refine (HJ.out.eight (.head _) (by simp only [List.length_append, List.length_cons, List.length_nil, List.flatMap_cons, List.flatMap_nil, be_length, HH.out, id]; omega)).mono ?_
      rintro e W ⟨v18, rfl, hJ, hkb⟩
      have HJ := Lib.hid hJ
      clear hJ
      refine hK _ _ hkb ?_
      clear hK K
      exact relist (by kernel_rfl) (hM55 v8 v9 v13 v14 v17 v18 v21 _ (HJ.out.sub (by intro x hx; simp only [List.mem_cons, List.not_mem_nil, or_false] at hx; rcases hx with rfl <;> first | exact (.tail _ (.head _)))))
    · refine HJ.out.mk1 121 (.tmp 24) rfl 23 Try.underlying121 (.nat .u64) c.2.2.2.2.1 _ [Value.int .u64 (c.2.2.2.2.1 : Int)] rfl rfl (fun _ _ => ⟨rfl, hok.exp⟩) u64_size1 u64_zero1 (show 1 ≤ 16777216 by decide) (show 0 < 1 by decide) ?_
      intro v25 W hJ hkb
      have HJ := Lib.hid hJ
      clear hJ
      refine hK _ _ hkb ?_
      clear hK K
      (try simp only [Act.put, List.setIfInBounds_toArray, List.set_cons_succ, List.set_cons_zero])
      exact hM57 v8 v9 v13 v14 v17 v21 v25 _ (HJ.out.sub (by intro x hx; simp only [List.mem_cons, List.not_mem_nil, or_false] at hx; rcases hx with rfl | rfl | rfl <;> first | exact (.tail _ (.head _)) | exact (.tail _ (.tail _ (.head _))) | exact (.head _)))
  · intro v8 v9 v13 v14 v17 v25 W hJ
    have HJ := Lib.hid hJ
    clear hJ
    refine anyofM 13 [16] (by kernel_rfl) ⟨oneM rfl rfl (fun K hK => ?_), oneM rfl rfl (fun K hK => ?_), trivial⟩
    · go_simp
      refine (HJ.out.eight (.head _) (by simp only [List.length_append, List.length_cons, List.length_nil, List.flatMap_cons, List.flatMap_nil, be_length, HH.out, id]; omega)).mono ?_
      rintro e W ⟨v18, rfl, hJ, hkb⟩
      have HJ := Lib.hid hJ
      clear hJ
      refine hK _ _ hkb ?_
      clear hK K
      exact relist (by kernel_rfl) (hM56 v8 v9 v13 v14 v17 v18 v25 _ (HJ.out.sub (by intro x hx; simp only [List.mem_cons, List.not_mem_nil, or_false] at hx; rcases hx with rfl <;> first | exact (.tail _ (.head _)))))
    · refine HJ.out.mk1 68 (.tmp 20) rfl 52 Try.underlying68 (.arr 32 .u8) c.2.2.2.1 _ (bv c.2.2.2.1) rfl rfl (fun _ _ => ⟨hok.hash, AllH.bytes.2 rfl⟩) (szDg (by rw [bv_length]; exact HH.out)) zDg (by rw [bv_length, HH.out]; decide) (by rw [bv_length, HH.out]; decide) ?_
      intro v21 W hJ hkb
      have HJ := Lib.hid hJ
      clear hJ
      refine hK _ _ hkb ?_
      clear hK K
      (try simp only [Act.put, List.setIfInBounds_toArray, List.set_cons_succ, List.set_cons_zero])
      exact relist (by kernel_rfl) (hM57 v8 v9 v13 v14 v17 v21 v25 _ (HJ.out.sub (by intro x hx; simp only [List.mem_cons, List.not_mem_nil, or_false] at hx; rcases hx with rfl | rfl | rfl <;> first | exact (.tail _ (.head _)) | exact (.head _) | exact (.tail _ (.tail _ (.head _))))))
  · intro v8 v9 v13 v14 v21 v25 W hJ
    have HJ := Lib.hid hJ
    clear hJ
    refine stepM 12 rfl (by kernel_rfl) rfl (fun K hK => ?_)
    refine HJ.out.mk1 121 (.tmp 16) rfl 23 Try.underlying121 (.nat .u64) c.2.2.1 _ [Value.int .u64 (c.2.2.1 : Int)] rfl rfl (fun _ _ => ⟨rfl, hok.am⟩) u64_size1 u64_zero1 (show 1 ≤ 16777216 by decide) (show 0 < 1 by decide) ?_
    intro v17 W hJ hkb
    have HJ := Lib.hid hJ
    clear hJ
    refine hK _ _ hkb ?_
    clear hK K
    (try simp only [Act.put, List.setIfInBounds_toArray, List.set_cons_succ, List.set_cons_zero])
    exact relist (by kernel_rfl) (hM57 v8 v9 v13 v14 v17 v21 v25 _ (HJ.out.sub (by intro x hx; simp only [List.mem_cons, List.not_mem_nil, or_false] at hx; rcases hx with rfl | rfl | rfl <;> first | exact (.head _) | exact (.tail _ (.head _)) | exact (.tail _ (.tail _ (.head _))))))
  · intro v8 v9 v13 v17 v21 v25 W hJ
    have HJ := Lib.hid hJ
    clear hJ
    refine stepM 9 rfl (by kernel_rfl) rfl (fun K hK => ?_)
    go_simp
    refine (HJ.out.one (.head _) (by simp only [List.length_append, List.length_cons, List.length_nil, List.flatMap_cons, List.flatMap_nil, be_length, HH.out, id]; omega)).mono ?_
    rintro e W ⟨v14, rfl, hJ, hkb⟩
    have HJ := Lib.hid hJ
    clear hJ
    refine hK _ _ hkb ?_
    clear hK K
    exact relist (by kernel_rfl) (hM57 v8 v9 v13 v14 v17 v21 v25 _ (HJ.out.sub (by intro x hx; simp only [List.mem_cons, List.not_mem_nil, or_false] at hx; rcases hx with rfl | rfl | rfl <;> first | exact (.tail _ (.head _)) | exact (.tail _ (.tail _ (.head _))) | exact (.tail _ (.tail _ (.tail _ (.head _)))))))
  · intro v8 v9 v13 v14 v17 v18 v21 W hJ
    have HJ := Lib.hid hJ
    clear hJ
    refine anyofM 17 [20] (by kernel_rfl) ⟨oneM rfl rfl (fun K hK => ?_), oneM rfl rfl (fun K hK => ?_), trivial⟩
    · go_simp
      refine (HJ.out.sum (.head _) (by simp only [List.length_append, List.length_cons, List.length_nil, List.flatMap_cons, List.flatMap_nil, be_length, HH.out, id]; omega)).mono ?_
      rintro e W ⟨v22, rfl, hJ, hkb⟩
      have HJ := Lib.hid hJ
      clear hJ
      refine hK _ _ hkb ?_
      clear hK K
      exact hM58 v8 v9 v13 v14 v17 v18 v21 v22 _ (HJ.out.sub (by intro x hx; cases hx))
    · refine HJ.out.mk1 121 (.tmp 24) rfl 23 Try.underlying121 (.nat .u64) c.2.2.2.2.1 _ [Value.int .u64 (c.2.2.2.2.1 : Int)] rfl rfl (fun _ _ => ⟨rfl, hok.exp⟩) u64_size1 u64_zero1 (show 1 ≤ 16777216 by decide) (show 0 < 1 by decide) ?_
      intro v25 W hJ hkb
      have HJ := Lib.hid hJ
      clear hJ
      refine hK _ _ hkb ?_
      clear hK K
      (try simp only [Act.put, List.setIfInBounds_toArray, List.set_cons_succ, List.set_cons_zero])
      exact hM59 v8 v9 v13 v14 v17 v18 v21 v25 _ (HJ.out.sub (by intro x hx; simp only [List.mem_cons, List.not_mem_nil, or_false] at hx; rcases hx with rfl | rfl <;> first | exact (.tail _ (.head _)) | exact (.head _)))
  · intro v8 v9 v13 v14 v17 v18 v25 W hJ
    have HJ := Lib.hid hJ
    clear hJ
    refine stepM 16 rfl (by kernel_rfl) rfl (fun K hK => ?_)
    refine HJ.out.mk1 68 (.tmp 20) rfl 52 Try.underlying68 (.arr 32 .u8) c.2.2.2.1 _ (bv c.2.2.2.1) rfl rfl (fun _ _ => ⟨hok.hash, AllH.bytes.2 rfl⟩) (szDg (by rw [bv_length]; exact HH.out)) zDg (by rw [bv_length, HH.out]; decide) (by rw [bv_length, HH.out]; decide) ?_
    intro v21 W hJ hkb
    have HJ := Lib.hid hJ
    clear hJ
    refine hK _ _ hkb ?_
    clear hK K
    (try simp only [Act.put, List.setIfInBounds_toArray, List.set_cons_succ, List.set_cons_zero])
    exact relist (by kernel_rfl) (hM59 v8 v9 v13 v14 v17 v18 v21 v25 _ (HJ.out.sub (by intro x hx; simp only [List.mem_cons, List.not_mem_nil, or_false] at hx; rcases hx with rfl | rfl <;> first | exact (.head _) | exact (.tail _ (.head _)))))
  · intro v8 v9 v13 v14 v17 v21 v25 W hJ
    have HJ := Lib.hid hJ
    clear hJ
    refine stepM 13 rfl (by kernel_rfl) rfl (fun K hK => ?_)
    go_simp
    refine (HJ.out.eight (.head _) (by simp only [List.length_append, List.length_cons, List.length_nil, List.flatMap_cons, List.flatMap_nil, be_length, HH.out, id]; omega)).mono ?_
    rintro e W ⟨v18, rfl, hJ, hkb⟩
    have HJ := Lib.hid hJ
    clear hJ
    refine hK _ _ hkb ?_
    clear hK K
    exact relist (by kernel_rfl) (hM59 v8 v9 v13 v14 v17 v18 v21 v25 _ (HJ.out.sub (by intro x hx; simp only [List.mem_cons, List.not_mem_nil, or_false] at hx; rcases hx with rfl | rfl <;> first | exact (.tail _ (.head _)) | exact (.tail _ (.tail _ (.head _))))))
  · intro v8 v9 v13 v14 v17 v18 v21 v22 W hJ
    have HJ := Lib.hid hJ
    clear hJ
    refine stepM 20 rfl (by kernel_rfl) rfl (fun K hK => ?_)
    refine HJ.out.mk1 121 (.tmp 24) rfl 23 Try.underlying121 (.nat .u64) c.2.2.2.2.1 _ [Value.int .u64 (c.2.2.2.2.1 : Int)] rfl rfl (fun _ _ => ⟨rfl, hok.exp⟩) u64_size1 u64_zero1 (show 1 ≤ 16777216 by decide) (show 0 < 1 by decide) ?_
    intro v25 W hJ hkb
    have HJ := Lib.hid hJ
    clear hJ
    refine hK _ _ hkb ?_
    clear hK K
    (try simp only [Act.put, List.setIfInBounds_toArray, List.set_cons_succ, List.set_cons_zero])
    exact hM60 v8 v9 v13 v14 v17 v18 v21 v22 v25 _ (HJ.out.sub (by intro x hx; simp only [List.mem_cons, List.not_mem_nil, or_false] at hx; rcases hx with rfl <;> first | exact (.head _)))
  · intro v8 v9 v13 v14 v17 v18 v21 v25 W hJ
    have HJ := Lib.hid hJ
    clear hJ
    refine stepM 17 rfl (by kernel_rfl) rfl (fun K hK => ?_)
    go_simp
    refine (HJ.out.sum (.head _) (by simp only [List.length_append, List.length_cons, List.length_nil, List.flatMap_cons, List.flatMap_nil, be_length, HH.out, id]; omega)).mono ?_
    rintro e W ⟨v22, rfl, hJ, hkb⟩
    have HJ := Lib.hid hJ
    clear hJ
    refine hK _ _ hkb ?_
    clear hK K
    exact relist (by kernel_rfl) (hM60 v8 v9 v13 v14 v17 v18 v21 v22 v25 _ (HJ.out.sub (by intro x hx; simp only [List.mem_cons, List.not_mem_nil, or_false] at hx; rcases hx with rfl <;> first | exact (.tail _ (.head _)))))
  intro v8 v9 v13 v14 v17 v18 v21 v22 v25 W hJ
  have HJ := Lib.hid hJ
  clear hJ
  refine stepM 21 rfl (by kernel_rfl) rfl (fun K hK => ?_)
  go_simp
  refine (HJ.out.eight (.head _) (by simp only [List.length_append, List.length_cons, List.length_nil, List.flatMap_cons, List.flatMap_nil, be_length, HH.out, id]; omega)).mono ?_
  rintro e W ⟨v26, rfl, hJ, hkb⟩
  have HJ := Lib.hid hJ
  clear hJ
  refine hK _ _ hkb ?_
  clear hK K
  refine takeK 22 rfl (by kernel_rfl) (by kernel_rfl) (by kernel_rfl) rfl (fun _ _ _ _ h => h) rfl (fun K hK => ?_)
  go_big_quiet_op
  first | refine hK _ ?_ | refine ⟨_, fun _ _ => rfl, hK _ ?_⟩
  clear hK K
  refine doneM (by kernel_rfl) ?_ _
  have ho9 := HJ.out.own
  have hm9 := Moved.pre HX.out HJ.out.mv
  clear HJ
  go_wp2
  go_ret
  exact ⟨_, rfl, by simpa [condB] using ho9, hm9⟩
end
end Go.Proofs.Ytmicjaiiinaipaa

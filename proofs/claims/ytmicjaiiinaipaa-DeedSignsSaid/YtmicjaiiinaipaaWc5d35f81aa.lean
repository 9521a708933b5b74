/- Walks and plain laws, put together in build order. Conditions: what each of them names. -/
import Derived.Test.YtmicjaiiinaipaaWcdecd2457c
set_option linter.unusedVariables false
set_option linter.unusedSimpArgs false
set_option linter.unnecessarySimpa false
namespace Go.Proofs.Ytmicjaiiinaipaa
section
open Go.RowKit

set_option maxRecDepth 100000 in
set_option maxHeartbeats 8000000 in
theorem DLayF (s : St) (hw : StWf s) (u : Value) (F : Fp) (b : Addr) (x : UInt8) (w : World) (hc : Conds w F u s.cs) (hF : ∀ b, F b → b < w.heap.size) (ho : OwnB w (.slice (some b) 1 1) [x]) (hlen : List.length (α := Cd) s.cs ≤ 1099511627776) :
    Calls Try.prog 7 #[.slice (some b) 1 1, stv s u] w fun e w' => ∃ v', e = .returned v' ∧ OwnB w' v' ([x] ++ stateB s) ∧ Fresh w w' v' := by
  have hoks := conds_ok hc
  obtain ⟨A, c, xs, rfl, hlc, hcm, hA, hcell, hall⟩ := conds_open hc
  unfold maxLen at hcm
  clear hc
  obtain ⟨SC, hSC⟩ : ∃ SC, SC = stc s (.slice A (List.length (α := Cd) s.cs) c) := ⟨_, rfl⟩
  have hst : stv s (.slice A (List.length (α := Cd) s.cs) c) = .agg SC.toArray := by rw [hSC]; rfl
  rw [hst]
  have s0 : SC[0]? = some (.int .u32 (s.chan : Int)) := by rw [hSC]; rfl
  have s1 : SC[1]? = some (.int .u64 (s.round : Int)) := by rw [hSC]; rfl
  have s2 : SC[2]? = some (.int .u64 (s.m0 : Int)) := by rw [hSC]; rfl
  have s3 : SC[3]? = some (.int .u64 (s.m1 : Int)) := by rw [hSC]; rfl
  have s4 : SC[4]? = some (.int .u64 (s.t0 : Int)) := by rw [hSC]; rfl
  have s5 : SC[5]? = some (.int .u64 (s.t1 : Int)) := by rw [hSC]; rfl
  have s6 : SC[6]? = some (.slice A (List.length (α := Cd) s.cs) c) := by rw [hSC]; rfl
  obtain ⟨cs, hcs⟩ : ∃ cs, cs = s.cs := ⟨_, rfl⟩
  have hb0 : Blk (w.alloc (.cells SC.toArray 40)) w.heap.size 40 SC := Blk.new _ _ _
  have hx0 : Ext w (w.alloc (.cells SC.toArray 40)) := (Ext.refl w).alloc _
  have HW0 := Lib.hid hw.chan
  have HW1 := Lib.hid hw.round
  have HW2 := Lib.hid hw.m0
  have HW3 := Lib.hid hw.m1
  have HW4 := Lib.hid hw.t0
  have HW5 := Lib.hid hw.t1
  have HB0 := Lib.hid hb0
  have HX0 := Lib.hid hx0
  have HO := Lib.hid ho
  have HFW := Lib.hid hF
  have HALL := Lib.hid hall
  have HCELL := Lib.hid hcell
  have HOKS := Lib.hid hoks
  have HS6 := Lib.hid s6
  clear hb0 hx0 ho hw hF hall hcell hst hSC hoks hcs
  go_enter Try.func7, Try.ntmps7
  go_wp2
  have hb0 : Blk (w.alloc (.cells SC.toArray 40)).drew w.heap.size 40 SC := HB0.out
  have hx : Ext w (w.alloc (.cells SC.toArray 40)).drew := HX0.out.drew
  refine startM (KeepB fun b => b = w.heap.size) (by kernel_rfl) ?_
  (try simp only [Act.put, List.setIfInBounds_toArray, List.set_cons_succ, List.set_cons_zero])
  generalize (w.alloc (.cells SC.toArray 40)).drew = w0 at *
  have HK0 := Lib.hid ((hb0.cell 0).trans s0)
  have HK1 := Lib.hid ((hb0.cell 1).trans s1)
  have HK2 := Lib.hid ((hb0.cell 2).trans s2)
  have HK3 := Lib.hid ((hb0.cell 3).trans s3)
  have HK4 := Lib.hid ((hb0.cell 4).trans s4)
  have HK5 := Lib.hid ((hb0.cell 5).trans s5)
  have HK6 := Lib.hid ((hb0.cell 6).trans s6)
  have hJ0 : CJ w.heap.size w0 (Value.slice none 0 0) (Value.slice none 0 0) [] [] w0 := CJ.start hb0.lt (Own.nil _ _ _) (by simp [Value.ownBlock])
  have HOB := Lib.hid (HO.out.ext hx)
  have HX := Lib.hid hx
  have HBB := Lib.hid hb0
  clear hb0 hx s0 s1 s2 s3 s4 s5 s6 HB0 HX0
  refine takeK 0 rfl (by kernel_rfl) (by kernel_rfl) (by kernel_rfl) rfl (fun _ _ _ _ h => h) rfl (fun K hK => ?_)
  go_big_quiet_op
  first | refine hK _ ?_ | refine ⟨_, fun _ _ => rfl, hK _ ?_⟩
  clear hK K
  refine takeK 1 rfl (by kernel_rfl) (by kernel_rfl) (by kernel_rfl) rfl (fun _ _ _ _ h => h) rfl (fun K hK => ?_)
  go_big_quiet_op
  first | refine hK _ ?_ | refine ⟨_, fun _ _ => rfl, hK _ ?_⟩
  clear hK K
  refine takeK 2 rfl (by kernel_rfl) (by kernel_rfl) (by kernel_rfl) rfl (fun _ _ _ _ h => h) rfl (fun K hK => ?_)
  refine quiet_cell _ _ rfl _ rfl _ _ Try.underlying22 rfl (fun W' h => KeepB.cell h HK0.out rfl) ?_
  refine hK _ ?_
  simp only [Act.put, List.setIfInBounds_toArray, List.set_cons_succ, List.set_cons_zero]
  clear hK K
  refine takeK 5 rfl (by kernel_rfl) (by kernel_rfl) (by kernel_rfl) rfl (fun _ _ _ _ h => h) rfl (fun K hK => ?_)
  go_big_quiet_op
  first | refine hK _ ?_ | refine ⟨_, fun _ _ => rfl, hK _ ?_⟩
  clear hK K
  refine takeK 6 rfl (by kernel_rfl) (by kernel_rfl) (by kernel_rfl) rfl (fun _ _ _ _ h => h) rfl (fun K hK => ?_)
  refine quiet_cell _ _ rfl _ rfl _ _ Try.underlying23 rfl (fun W' h => KeepB.cell h HK1.out rfl) ?_
  refine hK _ ?_
  simp only [Act.put, List.setIfInBounds_toArray, List.set_cons_succ, List.set_cons_zero]
  clear hK K
  refine takeK 7 rfl (by kernel_rfl) (by kernel_rfl) (by kernel_rfl) rfl (fun _ _ _ _ h => h) rfl (fun K hK => ?_)
  go_big_quiet_op
  first | refine hK _ ?_ | refine ⟨_, fun _ _ => rfl, hK _ ?_⟩
  clear hK K
  refine takeK 8 rfl (by kernel_rfl) (by kernel_rfl) (by kernel_rfl) rfl (fun _ _ _ _ h => h) rfl (fun K hK => ?_)
  go_big_quiet_op
  first | refine hK _ ?_ | refine ⟨_, fun _ _ => rfl, hK _ ?_⟩
  clear hK K
  refine takeK 9 rfl (by kernel_rfl) (by kernel_rfl) (by kernel_rfl) rfl (fun _ _ _ _ h => h) rfl (fun K hK => ?_)
  refine quiet_cell _ _ rfl _ rfl _ _ Try.underlying23 rfl (fun W' h => KeepB.cell h HK2.out rfl) ?_
  refine hK _ ?_
  simp only [Act.put, List.setIfInBounds_toArray, List.set_cons_succ, List.set_cons_zero]
  clear hK K
  refine takeK 10 rfl (by kernel_rfl) (by kernel_rfl) (by kernel_rfl) rfl (fun _ _ _ _ h => h) rfl (fun K hK => ?_)
  go_big_quiet_op
  first | refine hK _ ?_ | refine ⟨_, fun _ _ => rfl, hK _ ?_⟩
  clear hK K
  refine takeK 11 rfl (by kernel_rfl) (by kernel_rfl) (by kernel_rfl) rfl (fun _ _ _ _ h => h) rfl (fun K hK => ?_)
  go_big_quiet_op
  first | refine hK _ ?_ | refine ⟨_, fun _ _ => rfl, hK _ ?_⟩
  clear hK K
  refine takeK 12 rfl (by kernel_rfl) (by kernel_rfl) (by kernel_rfl) rfl (fun _ _ _ _ h => h) rfl (fun K hK => ?_)
  refine quiet_cell _ _ rfl _ rfl _ _ Try.underlying23 rfl (fun W' h => KeepB.cell h HK3.out rfl) ?_
  refine hK _ ?_
  simp only [Act.put, List.setIfInBounds_toArray, List.set_cons_succ, List.set_cons_zero]
  clear hK K
  refine takeK 13 rfl (by kernel_rfl) (by kernel_rfl) (by kernel_rfl) rfl (fun _ _ _ _ h => h) rfl (fun K hK => ?_)
  go_big_quiet_op
  first | refine hK _ ?_ | refine ⟨_, fun _ _ => rfl, hK _ ?_⟩
  clear hK K
  refine takeK 14 rfl (by kernel_rfl) (by kernel_rfl) (by kernel_rfl) rfl (fun _ _ _ _ h => h) rfl (fun K hK => ?_)
  go_big_quiet_op
  first | refine hK _ ?_ | refine ⟨_, fun _ _ => rfl, hK _ ?_⟩
  clear hK K
  refine takeK 15 rfl (by kernel_rfl) (by kernel_rfl) (by kernel_rfl) rfl (fun _ _ _ _ h => h) rfl (fun K hK => ?_)
  refine quiet_cell _ _ rfl _ rfl _ _ Try.underlying23 rfl (fun W' h => KeepB.cell h HK4.out rfl) ?_
  refine hK _ ?_
  simp only [Act.put, List.setIfInBounds_toArray, List.set_cons_succ, List.set_cons_zero]
  clear hK K
  refine takeK 16 rfl (by kernel_rfl) (by kernel_rfl) (by kernel_rfl) rfl (fun _ _ _ _ h => h) rfl (fun K hK => ?_)
  go_big_quiet_op
  first | refine hK _ ?_ | refine ⟨_, fun _ _ => rfl, hK _ ?_⟩
  clear hK K
  refine takeK 17 rfl (by kernel_rfl) (by kernel_rfl) (by kernel_rfl) rfl (fun _ _ _ _ h => h) rfl (fun K hK => ?_)
  go_big_quiet_op
  first | refine hK _ ?_ | refine ⟨_, fun _ _ => rfl, hK _ ?_⟩
  clear hK K
  refine takeK 18 rfl (by kernel_rfl) (by kernel_rfl) (by kernel_rfl) rfl (fun _ _ _ _ h => h) rfl (fun K hK => ?_)
  refine quiet_cell _ _ rfl _ rfl _ _ Try.underlying23 rfl (fun W' h => KeepB.cell h HK5.out rfl) ?_
  refine hK _ ?_
  simp only [Act.put, List.setIfInBounds_toArray, List.set_cons_succ, List.set_cons_zero]
  clear hK K
  refine takeK 21 rfl (by kernel_rfl) (by kernel_rfl) (by kernel_rfl) rfl (fun _ _ _ _ h => h) rfl (fun K hK => ?_)
  go_big_quiet_op
  first | refine hK _ ?_ | refine ⟨_, fun _ _ => rfl, hK _ ?_⟩
  clear hK K
  refine takeK 22 rfl (by kernel_rfl) (by kernel_rfl) (by kernel_rfl) rfl (fun _ _ _ _ h => h) rfl (fun K hK => ?_)
  refine quiet_cell _ _ rfl _ rfl _ _ Try.underlying38 rfl (fun W' h => KeepB.cell h HK6.out rfl) ?_
  refine hK _ ?_
  simp only [Act.put, List.setIfInBounds_toArray, List.set_cons_succ, List.set_cons_zero]
  clear hK K
  refine takeK 23 rfl (by kernel_rfl) (by kernel_rfl) (by kernel_rfl) rfl (fun _ _ _ _ h => h) rfl (fun K hK => ?_)
  go_big_quiet_op
  first | refine hK _ ?_ | refine ⟨_, fun _ _ => rfl, hK _ ?_⟩
  clear hK K
  refine takeK 24 rfl (by kernel_rfl) (by kernel_rfl) (by kernel_rfl) rfl (fun _ _ _ _ h => h) rfl (fun K hK => ?_)
  go_big_quiet_op
  first | refine hK _ ?_ | refine ⟨_, fun _ _ => rfl, hK _ ?_⟩
  clear hK K
  apply lat5 (fun v10 v11 v26 v27 v32 W => CJ w.heap.size w0 (Value.slice none 0 0) v27 (([x] ++ be 4 s.chan) ++ [s.round, s.m0, s.m1, s.t0, s.t1].flatMap (be 8)) [⟨.u8, [byteOf ((List.length (α := Cd) s.cs : Nat) : Int)], v32⟩] W)
  intro hM12
  apply lat4 (fun v10 v11 v26 v32 W => CJ w.heap.size w0 (Value.slice none 0 0) v11 ([x] ++ be 4 s.chan) [⟨.nat .u64, [s.round, s.m0, s.m1, s.t0, s.t1], v26⟩, ⟨.u8, [byteOf ((List.length (α := Cd) s.cs : Nat) : Int)], v32⟩] W)
  intro hM11
  apply lat4 (fun v10 v11 v26 v27 W => CJ w.heap.size w0 (Value.slice none 0 0) v27 (([x] ++ be 4 s.chan) ++ [s.round, s.m0, s.m1, s.t0, s.t1].flatMap (be 8)) [] W)
  intro hM10
  apply lat3 (fun v10 v26 v32 W => CJ w.heap.size w0 (Value.slice none 0 0) (Value.slice none 0 0) [] [⟨.nat .u32, [s.chan], v10⟩, ⟨.nat .u64, [s.round, s.m0, s.m1, s.t0, s.t1], v26⟩, ⟨.u8, [byteOf ((List.length (α := Cd) s.cs : Nat) : Int)], v32⟩] W)
  intro hM9
  apply lat3 (fun v10 v11 v32 W => CJ w.heap.size w0 (Value.slice none 0 0) v11 ([x] ++ be 4 s.chan) [⟨.u8, [byteOf ((List.length (α := Cd) s.cs : Nat) : Int)], v32⟩] W)
  intro hM8
  apply lat3 (fun v10 v11 v26 W => CJ w.heap.size w0 (Value.slice none 0 0) v11 ([x] ++ be 4 s.chan) [⟨.nat .u64, [s.round, s.m0, s.m1, s.t0, s.t1], v26⟩] W)
  intro hM7
  apply lat2 (fun v26 v32 W => CJ w.heap.size w0 (Value.slice none 0 0) (Value.slice none 0 0) [] [⟨.nat .u64, [s.round, s.m0, s.m1, s.t0, s.t1], v26⟩, ⟨.u8, [byteOf ((List.length (α := Cd) s.cs : Nat) : Int)], v32⟩] W)
  intro hM6
  apply lat2 (fun v10 v32 W => CJ w.heap.size w0 (Value.slice none 0 0) (Value.slice none 0 0) [] [⟨.nat .u32, [s.chan], v10⟩, ⟨.u8, [byteOf ((List.length (α := Cd) s.cs : Nat) : Int)], v32⟩] W)
  intro hM5
  apply lat2 (fun v10 v26 W => CJ w.heap.size w0 (Value.slice none 0 0) (Value.slice none 0 0) [] [⟨.nat .u32, [s.chan], v10⟩, ⟨.nat .u64, [s.round, s.m0, s.m1, s.t0, s.t1], v26⟩] W)
  intro hM4
  apply lat2 (fun v10 v11 W => CJ w.heap.size w0 (Value.slice none 0 0) v11 ([x] ++ be 4 s.chan) [] W)
  intro hM3
  apply lat1 (fun v32 W => CJ w.heap.size w0 (Value.slice none 0 0) (Value.slice none 0 0) [] [⟨.u8, [byteOf ((List.length (α := Cd) s.cs : Nat) : Int)], v32⟩] W)
  intro hM2
  apply lat1 (fun v26 W => CJ w.heap.size w0 (Value.slice none 0 0) (Value.slice none 0 0) [] [⟨.nat .u64, [s.round, s.m0, s.m1, s.t0, s.t1], v26⟩] W)
  intro hM1
  apply lat1 (fun v10 W => CJ w.heap.size w0 (Value.slice none 0 0) (Value.slice none 0 0) [] [⟨.nat .u32, [s.chan], v10⟩] W)
  intro hM0
  · have HJ := Lib.hid hJ0
    refine anyofM 3 [19, 25] (by kernel_rfl) ⟨oneM rfl rfl (fun K hK => ?_), oneM rfl rfl (fun K hK => ?_), oneM rfl rfl (fun K hK => ?_), trivial⟩
    · refine HJ.out.mk1 119 (.tmp 9) rfl 22 Try.underlying119 (.nat .u32) s.chan _ [Value.int .u32 (s.chan : Int)] rfl rfl (fun _ _ => ⟨rfl, HW0.out⟩) u32_sizeD u32_zeroD (show 1 ≤ 16777216 by decide) (show 0 < 1 by decide) ?_
      intro v10 W hJ hkb
      have HJ := Lib.hid hJ
      clear hJ
      refine hK _ _ hkb ?_
      clear hK K
      (try simp only [Act.put, List.setIfInBounds_toArray, List.set_cons_succ, List.set_cons_zero])
      exact hM0 v10 _ (HJ.out.sub (by intro x hx; simp only [List.mem_cons, List.not_mem_nil, or_false] at hx; rcases hx with rfl <;> first | exact (.head _)))
    · refine HJ.out.mk5 121 (.tmp 13) (.tmp 16) (.tmp 19) (.tmp 22) (.tmp 25) rfl Try.underlying121 s.round s.m0 s.m1 s.t0 s.t1 rfl rfl rfl rfl rfl HW1.out HW2.out HW3.out HW4.out HW5.out u64_size1 u64_zero1 ?_
      intro v26 W hJ hkb
      have HJ := Lib.hid hJ
      clear hJ
      refine hK _ _ hkb ?_
      clear hK K
      (try simp only [Act.put, List.setIfInBounds_toArray, List.set_cons_succ, List.set_cons_zero])
      exact hM1 v26 _ (HJ.out.sub (by intro x hx; simp only [List.mem_cons, List.not_mem_nil, or_false] at hx; rcases hx with rfl <;> first | exact (.head _)))
    · refine HJ.out.mk1 35 (.tmp 31) rfl 5 Try.underlying35 .u8 (byteOf ((List.length (α := Cd) s.cs : Nat) : Int)) _ [Value.int .u8 ((byteOf ((List.length (α := Cd) s.cs : Nat) : Int)).toNat : Int)] rfl (by rw [byteOf_eq]; rfl) (fun _ _ => rfl) u8_sizeU u8_zeroU (show 1 ≤ 16777216 by decide) (show 0 < 1 by decide) ?_
      intro v32 W hJ hkb
      have HJ := Lib.hid hJ
      clear hJ
      refine hK _ _ hkb ?_
      clear hK K
      (try simp only [Act.put, List.setIfInBounds_toArray, List.set_cons_succ, List.set_cons_zero])
      exact hM2 v32 _ (HJ.out.sub (by intro x hx; simp only [List.mem_cons, List.not_mem_nil, or_false] at hx; rcases hx with rfl <;> first | exact (.head _)))
  · intro v10 W hJ
    have HJ := Lib.hid hJ
    clear hJ
    refine anyofM 4 [19, 25] (by kernel_rfl) ⟨oneM rfl rfl (fun K hK => ?_), oneM rfl rfl (fun K hK => ?_), oneM rfl rfl (fun K hK => ?_), trivial⟩
    · go_simp
      refine (HJ.out.four1 b x HOB.out (.head _)).mono ?_
      rintro e W ⟨v11, rfl, hJ, hkb⟩
      have HJ := Lib.hid hJ
      clear hJ
      refine hK _ _ hkb ?_
      clear hK K
      exact hM3 v10 v11 _ (HJ.out.sub (by intro x hx; cases hx))
    · refine HJ.out.mk5 121 (.tmp 13) (.tmp 16) (.tmp 19) (.tmp 22) (.tmp 25) rfl Try.underlying121 s.round s.m0 s.m1 s.t0 s.t1 rfl rfl rfl rfl rfl HW1.out HW2.out HW3.out HW4.out HW5.out u64_size1 u64_zero1 ?_
      intro v26 W hJ hkb
      have HJ := Lib.hid hJ
      clear hJ
      refine hK _ _ hkb ?_
      clear hK K
      (try simp only [Act.put, List.setIfInBounds_toArray, List.set_cons_succ, List.set_cons_zero])
      exact hM4 v10 v26 _ (HJ.out.sub (by intro x hx; simp only [List.mem_cons, List.not_mem_nil, or_false] at hx; rcases hx with rfl | rfl <;> first | exact (.tail _ (.head _)) | exact (.head _)))
    · refine HJ.out.mk1 35 (.tmp 31) rfl 5 Try.underlying35 .u8 (byteOf ((List.length (α := Cd) s.cs : Nat) : Int)) _ [Value.int .u8 ((byteOf ((List.length (α := Cd) s.cs : Nat) : Int)).toNat : Int)] rfl (by rw [byteOf_eq]; rfl) (fun _ _ => rfl) u8_sizeU u8_zeroU (show 1 ≤ 16777216 by decide) (show 0 < 1 by decide) ?_
      intro v32 W hJ hkb
      have HJ := Lib.hid hJ
      clear hJ
      refine hK _ _ hkb ?_
      clear hK K
      (try simp only [Act.put, List.setIfInBounds_toArray, List.set_cons_succ, List.set_cons_zero])
      exact hM5 v10 v32 _ (HJ.out.sub (by intro x hx; simp only [List.mem_cons, List.not_mem_nil, or_false] at hx; rcases hx with rfl | rfl <;> first | exact (.tail _ (.head _)) | exact (.head _)))
  · intro v26 W hJ
    have HJ := Lib.hid hJ
    clear hJ
    refine anyofM 3 [25] (by kernel_rfl) ⟨oneM rfl rfl (fun K hK => ?_), oneM rfl rfl (fun K hK => ?_), trivial⟩
    · refine HJ.out.mk1 119 (.tmp 9) rfl 22 Try.underlying119 (.nat .u32) s.chan _ [Value.int .u32 (s.chan : Int)] rfl rfl (fun _ _ => ⟨rfl, HW0.out⟩) u32_sizeD u32_zeroD (show 1 ≤ 16777216 by decide) (show 0 < 1 by decide) ?_
      intro v10 W hJ hkb
      have HJ := Lib.hid hJ
      clear hJ
      refine hK _ _ hkb ?_
      clear hK K
      (try simp only [Act.put, List.setIfInBounds_toArray, List.set_cons_succ, List.set_cons_zero])
      exact relist (by kernel_rfl) (hM4 v10 v26 _ (HJ.out.sub (by intro x hx; simp only [List.mem_cons, List.not_mem_nil, or_false] at hx; rcases hx with rfl | rfl <;> first | exact (.head _) | exact (.tail _ (.head _)))))
    · refine HJ.out.mk1 35 (.tmp 31) rfl 5 Try.underlying35 .u8 (byteOf ((List.length (α := Cd) s.cs : Nat) : Int)) _ [Value.int .u8 ((byteOf ((List.length (α := Cd) s.cs : Nat) : Int)).toNat : Int)] rfl (by rw [byteOf_eq]; rfl) (fun _ _ => rfl) u8_sizeU u8_zeroU (show 1 ≤ 16777216 by decide) (show 0 < 1 by decide) ?_
      intro v32 W hJ hkb
      have HJ := Lib.hid hJ
      clear hJ
      refine hK _ _ hkb ?_
      clear hK K
      (try simp only [Act.put, List.setIfInBounds_toArray, List.set_cons_succ, List.set_cons_zero])
      exact hM6 v26 v32 _ (HJ.out.sub (by intro x hx; simp only [List.mem_cons, List.not_mem_nil, or_false] at hx; rcases hx with rfl | rfl <;> first | exact (.tail _ (.head _)) | exact (.head _)))
  · intro v32 W hJ
    have HJ := Lib.hid hJ
    clear hJ
    refine anyofM 3 [19] (by kernel_rfl) ⟨oneM rfl rfl (fun K hK => ?_), oneM rfl rfl (fun K hK => ?_), trivial⟩
    · refine HJ.out.mk1 119 (.tmp 9) rfl 22 Try.underlying119 (.nat .u32) s.chan _ [Value.int .u32 (s.chan : Int)] rfl rfl (fun _ _ => ⟨rfl, HW0.out⟩) u32_sizeD u32_zeroD (show 1 ≤ 16777216 by decide) (show 0 < 1 by decide) ?_
      intro v10 W hJ hkb
      have HJ := Lib.hid hJ
      clear hJ
      refine hK _ _ hkb ?_
      clear hK K
      (try simp only [Act.put, List.setIfInBounds_toArray, List.set_cons_succ, List.set_cons_zero])
      exact relist (by kernel_rfl) (hM5 v10 v32 _ (HJ.out.sub (by intro x hx; simp only [List.mem_cons, List.not_mem_nil, or_false] at hx; rcases hx with rfl | rfl <;> first | exact (.head _) | exact (.tail _ (.head _)))))
    · refine HJ.out.mk5 121 (.tmp 13) (.tmp 16) (.tmp 19) (.tmp 22) (.tmp 25) rfl Try.underlying121 s.round s.m0 s.m1 s.t0 s.t1 rfl rfl rfl rfl rfl HW1.out HW2.out HW3.out HW4.out HW5.out u64_size1 u64_zero1 ?_
      intro v26 W hJ hkb
      have HJ := Lib.hid hJ
      clear hJ
      refine hK _ _ hkb ?_
      clear hK K
      (try simp only [Act.put, List.setIfInBounds_toArray, List.set_cons_succ, List.set_cons_zero])
      exact relist (by kernel_rfl) (hM6 v26 v32 _ (HJ.out.sub (by intro x hx; simp only [List.mem_cons, List.not_mem_nil, or_false] at hx; rcases hx with rfl | rfl <;> first | exact (.head _) | exact (.tail _ (.head _)))))
  · intro v10 v11 W hJ
    have HJ := Lib.hid hJ
    clear hJ
    refine anyofM 19 [25] (by kernel_rfl) ⟨oneM rfl rfl (fun K hK => ?_), oneM rfl rfl (fun K hK => ?_), trivial⟩
    · refine HJ.out.mk5 121 (.tmp 13) (.tmp 16) (.tmp 19) (.tmp 22) (.tmp 25) rfl Try.underlying121 s.round s.m0 s.m1 s.t0 s.t1 rfl rfl rfl rfl rfl HW1.out HW2.out HW3.out HW4.out HW5.out u64_size1 u64_zero1 ?_
      intro v26 W hJ hkb
      have HJ := Lib.hid hJ
      clear hJ
      refine hK _ _ hkb ?_
      clear hK K
      (try simp only [Act.put, List.setIfInBounds_toArray, List.set_cons_succ, List.set_cons_zero])
      exact hM7 v10 v11 v26 _ (HJ.out.sub (by intro x hx; simp only [List.mem_cons, List.not_mem_nil, or_false] at hx; rcases hx with rfl <;> first | exact (.head _)))
    · refine HJ.out.mk1 35 (.tmp 31) rfl 5 Try.underlying35 .u8 (byteOf ((List.length (α := Cd) s.cs : Nat) : Int)) _ [Value.int .u8 ((byteOf ((List.length (α := Cd) s.cs : Nat) : Int)).toNat : Int)] rfl (by rw [byteOf_eq]; rfl) (fun _ _ => rfl) u8_sizeU u8_zeroU (show 1 ≤ 16777216 by decide) (show 0 < 1 by decide) ?_
      intro v32 W hJ hkb
      have HJ := Lib.hid hJ
      clear hJ
      refine hK _ _ hkb ?_
      clear hK K
      (try simp only [Act.put, List.setIfInBounds_toArray, List.set_cons_succ, List.set_cons_zero])
      exact hM8 v10 v11 v32 _ (HJ.out.sub (by intro x hx; simp only [List.mem_cons, List.not_mem_nil, or_false] at hx; rcases hx with rfl <;> first | exact (.head _)))
  · intro v10 v26 W hJ
    have HJ := Lib.hid hJ
    clear hJ
    refine anyofM 4 [25] (by kernel_rfl) ⟨oneM rfl rfl (fun K hK => ?_), oneM rfl rfl (fun K hK => ?_), trivial⟩
    · go_simp
      refine (HJ.out.four1 b x HOB.out (.head _)).mono ?_
      rintro e W ⟨v11, rfl, hJ, hkb⟩
      have HJ := Lib.hid hJ
      clear hJ
      refine hK _ _ hkb ?_
      clear hK K
      exact relist (by kernel_rfl) (hM7 v10 v11 v26 _ (HJ.out.sub (by intro x hx; simp only [List.mem_cons, List.not_mem_nil, or_false] at hx; rcases hx with rfl <;> first | exact (.tail _ (.head _)))))
    · refine HJ.out.mk1 35 (.tmp 31) rfl 5 Try.underlying35 .u8 (byteOf ((List.length (α := Cd) s.cs : Nat) : Int)) _ [Value.int .u8 ((byteOf ((List.length (α := Cd) s.cs : Nat) : Int)).toNat : Int)] rfl (by rw [byteOf_eq]; rfl) (fun _ _ => rfl) u8_sizeU u8_zeroU (show 1 ≤ 16777216 by decide) (show 0 < 1 by decide) ?_
      intro v32 W hJ hkb
      have HJ := Lib.hid hJ
      clear hJ
      refine hK _ _ hkb ?_
      clear hK K
      (try simp only [Act.put, List.setIfInBounds_toArray, List.set_cons_succ, List.set_cons_zero])
      exact hM9 v10 v26 v32 _ (HJ.out.sub (by intro x hx; simp only [List.mem_cons, List.not_mem_nil, or_false] at hx; rcases hx with rfl | rfl | rfl <;> first | exact (.tail _ (.head _)) | exact (.tail _ (.tail _ (.head _))) | exact (.head _)))
  · intro v10 v32 W hJ
    have HJ := Lib.hid hJ
    clear hJ
    refine anyofM 4 [19] (by kernel_rfl) ⟨oneM rfl rfl (fun K hK => ?_), oneM rfl rfl (fun K hK => ?_), trivial⟩
    · go_simp
      refine (HJ.out.four1 b x HOB.out (.head _)).mono ?_
      rintro e W ⟨v11, rfl, hJ, hkb⟩
      have HJ := Lib.hid hJ
      clear hJ
      refine hK _ _ hkb ?_
      clear hK K
      exact relist (by kernel_rfl) (hM8 v10 v11 v32 _ (HJ.out.sub (by intro x hx; simp only [List.mem_cons, List.not_mem_nil, or_false] at hx; rcases hx with rfl <;> first | exact (.tail _ (.head _)))))
    · refine HJ.out.mk5 121 (.tmp 13) (.tmp 16) (.tmp 19) (.tmp 22) (.tmp 25) rfl Try.underlying121 s.round s.m0 s.m1 s.t0 s.t1 rfl rfl rfl rfl rfl HW1.out HW2.out HW3.out HW4.out HW5.out u64_size1 u64_zero1 ?_
      intro v26 W hJ hkb
      have HJ := Lib.hid hJ
      clear hJ
      refine hK _ _ hkb ?_
      clear hK K
      (try simp only [Act.put, List.setIfInBounds_toArray, List.set_cons_succ, List.set_cons_zero])
      exact relist (by kernel_rfl) (hM9 v10 v26 v32 _ (HJ.out.sub (by intro x hx; simp only [List.mem_cons, List.not_mem_nil, or_false] at hx; rcases hx with rfl | rfl | rfl <;> first | exact (.tail _ (.head _)) | exact (.head _) | exact (.tail _ (.tail _ (.head _))))))
  · intro v26 v32 W hJ
    have HJ := Lib.hid hJ
    clear hJ
    refine stepM 3 rfl (by kernel_rfl) rfl (fun K hK => ?_)
    refine HJ.out.mk1 119 (.tmp 9) rfl 22 Try.underlying119 (.nat .u32) s.chan _ [Value.int .u32 (s.chan : Int)] rfl rfl (fun _ _ => ⟨rfl, HW0.out⟩) u32_sizeD u32_zeroD (show 1 ≤ 16777216 by decide) (show 0 < 1 by decide) ?_
    intro v10 W hJ hkb
    have HJ := Lib.hid hJ
    clear hJ
    refine hK _ _ hkb ?_
    clear hK K
    (try simp only [Act.put, List.setIfInBounds_toArray, List.set_cons_succ, List.set_cons_zero])
    exact relist (by kernel_rfl) (hM9 v10 v26 v32 _ (HJ.out.sub (by intro x hx; simp only [List.mem_cons, List.not_mem_nil, or_false] at hx; rcases hx with rfl | rfl | rfl <;> first | exact (.head _) | exact (.tail _ (.head _)) | exact (.tail _ (.tail _ (.head _))))))
  · intro v10 v11 v26 W hJ
    have HJ := Lib.hid hJ
    clear hJ
    refine anyofM 20 [25] (by kernel_rfl) ⟨oneM rfl rfl (fun K hK => ?_), oneM rfl rfl (fun K hK => ?_), trivial⟩
    · go_simp
      refine (HJ.out.eight (.head _) (by simp only [List.length_append, List.length_cons, List.length_nil, List.flatMap_cons, List.flatMap_nil, be_length]; omega)).mono ?_
      rintro e W ⟨v27, rfl, hJ, hkb⟩
      have HJ := Lib.hid hJ
      clear hJ
      refine hK _ _ hkb ?_
      clear hK K
      exact hM10 v10 v11 v26 v27 _ (HJ.out.sub (by intro x hx; cases hx))
    · refine HJ.out.mk1 35 (.tmp 31) rfl 5 Try.underlying35 .u8 (byteOf ((List.length (α := Cd) s.cs : Nat) : Int)) _ [Value.int .u8 ((byteOf ((List.length (α := Cd) s.cs : Nat) : Int)).toNat : Int)] rfl (by rw [byteOf_eq]; rfl) (fun _ _ => rfl) u8_sizeU u8_zeroU (show 1 ≤ 16777216 by decide) (show 0 < 1 by decide) ?_
      intro v32 W hJ hkb
      have HJ := Lib.hid hJ
      clear hJ
      refine hK _ _ hkb ?_
      clear hK K
      (try simp only [Act.put, List.setIfInBounds_toArray, List.set_cons_succ, List.set_cons_zero])
      exact hM11 v10 v11 v26 v32 _ (HJ.out.sub (by intro x hx; simp only [List.mem_cons, List.not_mem_nil, or_false] at hx; rcases hx with rfl | rfl <;> first | exact (.tail _ (.head _)) | exact (.head _)))
  · intro v10 v11 v32 W hJ
    have HJ := Lib.hid hJ
    clear hJ
    refine stepM 19 rfl (by kernel_rfl) rfl (fun K hK => ?_)
    refine HJ.out.mk5 121 (.tmp 13) (.tmp 16) (.tmp 19) (.tmp 22) (.tmp 25) rfl Try.underlying121 s.round s.m0 s.m1 s.t0 s.t1 rfl rfl rfl rfl rfl HW1.out HW2.out HW3.out HW4.out HW5.out u64_size1 u64_zero1 ?_
    intro v26 W hJ hkb
    have HJ := Lib.hid hJ
    clear hJ
    refine hK _ _ hkb ?_
    clear hK K
    (try simp only [Act.put, List.setIfInBounds_toArray, List.set_cons_succ, List.set_cons_zero])
    exact relist (by kernel_rfl) (hM11 v10 v11 v26 v32 _ (HJ.out.sub (by intro x hx; simp only [List.mem_cons, List.not_mem_nil, or_false] at hx; rcases hx with rfl | rfl <;> first | exact (.head _) | exact (.tail _ (.head _)))))
  · intro v10 v26 v32 W hJ
    have HJ := Lib.hid hJ
    clear hJ
    refine stepM 4 rfl (by kernel_rfl) rfl (fun K hK => ?_)
    go_simp
    refine (HJ.out.four1 b x HOB.out (.head _)).mono ?_
    rintro e W ⟨v11, rfl, hJ, hkb⟩
    have HJ := Lib.hid hJ
    clear hJ
    refine hK _ _ hkb ?_
    clear hK K
    exact relist (by kernel_rfl) (hM11 v10 v11 v26 v32 _ (HJ.out.sub (by intro x hx; simp only [List.mem_cons, List.not_mem_nil, or_false] at hx; rcases hx with rfl | rfl <;> first | exact (.tail _ (.head _)) | exact (.tail _ (.tail _ (.head _))))))
  · intro v10 v11 v26 v27 W hJ
    have HJ := Lib.hid hJ
    clear hJ
    refine stepM 25 rfl (by kernel_rfl) rfl (fun K hK => ?_)
    refine HJ.out.mk1 35 (.tmp 31) rfl 5 Try.underlying35 .u8 (byteOf ((List.length (α := Cd) s.cs : Nat) : Int)) _ [Value.int .u8 ((byteOf ((List.length (α := Cd) s.cs : Nat) : Int)).toNat : Int)] rfl (by rw [byteOf_eq]; rfl) (fun _ _ => rfl) u8_sizeU u8_zeroU (show 1 ≤ 16777216 by decide) (show 0 < 1 by decide) ?_
    intro v32 W hJ hkb
    have HJ := Lib.hid hJ
    clear hJ
    refine hK _ _ hkb ?_
    clear hK K
    (try simp only [Act.put, List.setIfInBounds_toArray, List.set_cons_succ, List.set_cons_zero])
    exact hM12 v10 v11 v26 v27 v32 _ (HJ.out.sub (by intro x hx; simp only [List.mem_cons, List.not_mem_nil, or_false] at hx; rcases hx with rfl <;> first | exact (.head _)))
  · intro v10 v11 v26 v32 W hJ
    have HJ := Lib.hid hJ
    clear hJ
    refine stepM 20 rfl (by kernel_rfl) rfl (fun K hK => ?_)
    go_simp
    refine (HJ.out.eight (.head _) (by simp only [List.length_append, List.length_cons, List.length_nil, List.flatMap_cons, List.flatMap_nil, be_length]; omega)).mono ?_
    rintro e W ⟨v27, rfl, hJ, hkb⟩
    have HJ := Lib.hid hJ
    clear hJ
    refine hK _ _ hkb ?_
    clear hK K
    exact relist (by kernel_rfl) (hM12 v10 v11 v26 v27 v32 _ (HJ.out.sub (by intro x hx; simp only [List.mem_cons, List.not_mem_nil, or_false] at hx; rcases hx with rfl <;> first | exact (.tail _ (.head _)))))
  intro v10 v11 v26 v27 v32 W hJ
  have HJ := Lib.hid hJ
  clear hJ
  refine stepM 26 rfl (by kernel_rfl) rfl (fun K hK => ?_)
  go_simp
  refine (HJ.out.one (.head _) (by simp only [List.length_append, List.length_cons, List.length_nil, List.flatMap_cons, List.flatMap_nil, be_length]; omega)).mono ?_
  rintro e W ⟨v33, rfl, hJ, hkb⟩
  have HJ := Lib.hid hJ
  clear hJ
  refine hK _ _ hkb ?_
  clear hK K
  refine takeK 27 rfl (by kernel_rfl) (by kernel_rfl) (by kernel_rfl) rfl (fun _ _ _ _ h => h) rfl (fun K hK => ?_)
  go_big_quiet_op
  first | refine hK _ ?_ | refine ⟨_, fun _ _ => rfl, hK _ ?_⟩
  clear hK K
  refine doneM (by kernel_rfl) ?_ _
  have ho33 := HJ.out.own
  have hm33 := Moved.pre HX.out HJ.out.mv
  have hb33 : Blk W w.heap.size 40 SC := (HJ.out.mv.grown.block _ HJ.out.lt (by simp [Value.ownBlock])).trans HBB.out
  have hn33 := HJ.out.ne
  have e33 : ((([x] ++ be 4 s.chan) ++ List.flatMap (be 8) [s.round, s.m0, s.m1, s.t0, s.t1]) ++ [byteOf ((List.length (α := Cd) s.cs : Nat) : Int)]) = [x] ++ headB s := by simp [headB]
  rw [e33] at ho33
  have c6 := (hb33.cell 6).trans HS6.out
  have HOV := Lib.hid ho33
  have HMV := Lib.hid hm33
  have HB33 := Lib.hid hb33
  have HN33 := Lib.hid hn33
  clear HJ ho33 hm33 hb33 hn33 e33 HK0 HK1 HK2 HK3 HK4 HK5 HK6 HX HBB
  have hzc := cond_zero
  have hzcl : (condCells (0, 0, 0, List.replicate 32 0, 0, ())).length = 36 := rfl
  generalize condCells (0, 0, 0, List.replicate 32 0, 0, ()) = ZC at hzc hzcl
  have HZCL := Lib.hid hzcl
  clear hzcl
  obtain ⟨nc, hnc⟩ : ∃ nc, nc = List.length (α := Cd) s.cs := ⟨_, rfl⟩
  rw [← hnc] at c6 hlen hlc HCELL
  have HNC := Lib.hid hnc
  clear hnc
  go_wp2
  go_loopw [0, 37] (fun cur i wr => ∃ k : Nat, k ≤ nc ∧ i = .int .i64 k ∧ OwnB wr cur ([x] ++ headB s ++ (s.cs.take k).flatMap condB) ∧ Moved w wr (Value.slice none 0 0) cur ∧ ∀ b, cur.ownBlock = some b → b ≠ w.heap.size) (fun _ i _ => nc - (intOf i).toNat)
  case atStart => exact ⟨0, by omega, rfl, by simpa using HOV.out, HMV.out, HN33.out⟩
  case round =>
    clear HOV HMV HB33 HN33
    obtain ⟨k, hk, rfl, hov, hmv, hnn⟩ := hrel
    by_cases hlt : k < nc
    · obtain ⟨ad, rfl, hf, hcells⟩ := HCELL.out (by omega)
      have hlt2 : k < List.length (α := Cd) s.cs := by rw [← HNC.out]; exact hlt
      have hfar : ∀ b, F b → wr.heap[b]? = w.heap[b]? := fun b hb => hmv.grown.block b (HFW.out b hb) (by simp [Value.ownBlock])
      obtain ⟨hcc, hok⟩ := conds_at HALL.out (hcells.keep (hfar _ hf)) hlt2
      have htk : s.cs.take (k + 1) = s.cs.take k ++ [s.cs[k]] := List.take_succ_eq_append_getElem hlt2
      have hfl := conds_flat (s.cs.take k) (fun x hx => HOKS.out x (List.mem_of_mem_take hx))
      have hltk : List.length (α := Cd) (s.cs.take k) = k := by simp; omega
      rw [hltk] at hfl
      generalize s.cs[k] = ck at *
      have hcl := condCells_len hok
      have hone := condCells_one ck
      have hbl : ([x] ++ headB s ++ (s.cs.take k).flatMap condB).length ≤ 140737488354304 := by rw [List.length_append, List.length_append, hfl, headB_len]; simp; omega
      have hxa : Ext wr (wr.alloc (.cells (condCells ck).toArray 47)) := (Ext.refl wr).alloc _
      have hlay := LayCond ck u0 _ (wr.alloc (.cells (condCells ck).toArray 47)) hok (hov.ext hxa) hbl
      have hb6 : Blk (wr.alloc (.cells (condCells ck).toArray 47)) wr.heap.size 47 (condCells ck) := Blk.new _ _ _
      obtain ⟨CC, hCC⟩ : ∃ CC, CC = condCells ck := ⟨_, rfl⟩
      rw [← hCC] at hcc hcl hone hlay hb6 hxa
      have HTK := Lib.hid htk
      have HCL := Lib.hid hcl
      have HLAY := Lib.hid hlay
      have HB6 := Lib.hid hb6
      have HXA := Lib.hid hxa
      have HMV := Lib.hid hmv
      have HNN := Lib.hid hnn
      have HCC := Lib.hid hcc
      clear htk hcl hlay hb6 hxa hmv hnn hov hok hfl hltk hbl hfar hcells hCC hcc
      go_wp2_with (first
        | ((with_reducible refine wpList_load_agg _ rfl 47 (.tmp 39) rfl _ rfl CC _ Try.underlying47 rfl (cond_size HCL.out) (by exact HCC.out) ?_))
        | (refine wpList_load_agg _ rfl 47 (.tmp 39) rfl _ rfl CC _ Try.underlying47 rfl (cond_size HCL.out) (by exact HCC.out) ?_)
        | (refine wpList_alloc _ rfl 47 rfl _ hzc ?_)
        | (refine wpList_store_new _ rfl 47 (.tmp 6) (.tmp 40) rfl rfl ZC CC _ rfl (cond_size HCL.out) (by rw [HCL.out, HZCL.out]) hone ?_)
        | (refine wpList_load_agg _ rfl 47 (.tmp 6) rfl _ rfl CC _ Try.underlying47 rfl (cond_size HCL.out) (by exact HB6.out.cells) ?_)
        | fail)
      refine HLAY.out.mono ?_
      rintro e w' ⟨v', rfl, ho', hm'⟩
      have ho9 : OwnB w' v' ([x] ++ headB s ++ (s.cs.take (k + 1)).flatMap condB) := by rw [HTK.out, List.flatMap_append, ← List.append_assoc]; simpa using ho'
      have hm9 : Moved w w' (Value.slice none 0 0) v' := HMV.out.trans (Moved.pre HXA.out hm')
      have hn9 : ∀ b, v'.ownBlock = some b → b ≠ w.heap.size := fun b hb => by
        rcases hm'.at_ with e | hn
        · exact HNN.out b (e.symm.trans hb)
        · have h1 := hn b hb
          have h2 := HMV.out.grown.size
          simp at h1
          omega
      have HO9 := Lib.hid ho9
      have HM9 := Lib.hid hm9
      have HN9 := Lib.hid hn9
      clear ho9 hm9 hn9 ho' hm'
      go_wp2_with fail
      go_roundw
      case rel => exact ⟨k + 1, by omega, by go_num, HO9.out, HM9.out, HN9.out⟩
      case measure => simp [intOf]; omega
    · obtain rfl : k = nc := by omega
      have htk : s.cs.take k = s.cs := List.take_of_length_le (by rw [HNC.out]; exact Nat.le_refl _)
      rw [htk] at hov
      have HO9 := Lib.hid hov
      have HM9 := Lib.hid hmv
      clear hov hmv htk
      go_wp2_with fail
      go_ret
      exact ⟨_, rfl, by have h := HO9.out; simp only [List.append_assoc] at h; simpa [stateB] using h, HM9.out⟩
set_option maxRecDepth 100000 in
set_option maxHeartbeats 8000000 in
theorem LayOpF (o : Wish) (b : Addr) (x : UInt8) (w : World) (hok : CondOk o.c) (ham : (Lit.int .u64 (o.am : Int)).wf = true) (hid : (Lit.int .u64 (o.id : Int)).wf = true) (ho : OwnB w (.slice (some b) 1 1) [x]) :
    Calls Try.prog 10 #[.slice (some b) 1 1, .agg (wishCells o).toArray] w fun e w' => ∃ v', e = .returned v' ∧ OwnB w' v' ([x] ++ opB o) ∧ Fresh w w' v' := by
  have hb0 : Blk (w.alloc (.cells (wishCells o).toArray 49)) w.heap.size 49 (wishCells o) := Blk.new _ _ _
  have hx0 : Ext w (w.alloc (.cells (wishCells o).toArray 49)) := (Ext.refl w).alloc _
  have c38 := wish_38 hok
  have cc : ((wishCells o).drop 2).take 36 = condCells o.c := List.take_left' (condCells_len hok)
  have c0 : (wishCells o)[0]? = some (.int .i64 o.kind) := rfl
  have c1 : (wishCells o)[1]? = some (.int .u64 (o.am : Int)) := rfl
  have hco := fun (g : Nat) (w0 w : World) (v0 cur : Value) (bs : List UInt8) (xs : List Item) (h : CJ g w0 v0 cur bs xs w) hb => CJ.cond o.c hok h hb
  have hcl := condCells_len hok
  generalize condCells o.c = CC at *
  generalize wishCells o = OC at *
  have HCO := Lib.hid hco
  have HCL := Lib.hid hcl
  have HB0 := Lib.hid hb0
  have HX0 := Lib.hid hx0
  have HO := Lib.hid ho
  clear hb0 hx0 ho hco hcl
  go_enter Try.func10, Try.ntmps10
  go_wp2
  have hb0 : Blk (w.alloc (.cells OC.toArray 49)).drew w.heap.size 49 OC := HB0.out
  have hx : Ext w (w.alloc (.cells OC.toArray 49)).drew := HX0.out.drew
  refine startM (KeepB fun b => b = w.heap.size) (by kernel_rfl) ?_
  (try simp only [Act.put, List.setIfInBounds_toArray, List.set_cons_succ, List.set_cons_zero])
  generalize (w.alloc (.cells OC.toArray 49)).drew = w0 at *
  have HK0 := Lib.hid ((hb0.cell 0).trans c0)
  have HK1 := Lib.hid ((hb0.cell 1).trans c1)
  have HK38 := Lib.hid ((hb0.cell 38).trans c38)
  have hkc : Cells w0 ⟨w.heap.size, 2, none⟩ CC := by have h := (hb0.cells.drop 2).take 36; rw [cc, addr_at] at h; exact h
  have HKC := Lib.hid hkc
  have hJ0 : CJ w.heap.size w0 (Value.slice none 0 0) (Value.slice none 0 0) [] [] w0 := CJ.start hb0.lt (Own.nil _ _ _) (by simp [Value.ownBlock])
  have HOB := Lib.hid (HO.out.ext hx)
  have HX := Lib.hid hx
  clear hb0 hx hkc c0 c1 c38 cc
  refine takeK 0 rfl (by kernel_rfl) (by kernel_rfl) (by kernel_rfl) rfl (fun _ _ _ _ h => h) rfl (fun K hK => ?_)
  go_big_quiet_op
  first | refine hK _ ?_ | refine ⟨_, fun _ _ => rfl, hK _ ?_⟩
  clear hK K
  refine takeK 1 rfl (by kernel_rfl) (by kernel_rfl) (by kernel_rfl) rfl (fun _ _ _ _ h => h) rfl (fun K hK => ?_)
  go_big_quiet_op
  first | refine hK _ ?_ | refine ⟨_, fun _ _ => rfl, hK _ ?_⟩
  clear hK K
  refine takeK 2 rfl (by kernel_rfl) (by kernel_rfl) (by kernel_rfl) rfl (fun _ _ _ _ h => h) rfl (fun K hK => ?_)
  refine quiet_cell _ _ rfl _ rfl _ _ Try.underlying3 rfl (fun W' h => KeepB.cell h HK0.out rfl) ?_
  refine hK _ ?_
  simp only [Act.put, List.setIfInBounds_toArray, List.set_cons_succ, List.set_cons_zero]
  clear hK K
  refine takeK 3 rfl (by kernel_rfl) (by kernel_rfl) (by kernel_rfl) rfl (fun _ _ _ _ h => h) rfl (fun K hK => ?_)
  go_big_quiet_op
  first | refine hK _ ?_ | refine ⟨_, fun _ _ => rfl, hK _ ?_⟩
  clear hK K
  refine takeK 6 rfl (by kernel_rfl) (by kernel_rfl) (by kernel_rfl) rfl (fun _ _ _ _ h => h) rfl (fun K hK => ?_)
  go_big_quiet_op
  first | refine hK _ ?_ | refine ⟨_, fun _ _ => rfl, hK _ ?_⟩
  clear hK K
  refine takeK 7 rfl (by kernel_rfl) (by kernel_rfl) (by kernel_rfl) rfl (fun _ _ _ _ h => h) rfl (fun K hK => ?_)
  refine quiet_cell _ _ rfl _ rfl _ _ Try.underlying23 rfl (fun W' h => KeepB.cell h HK1.out rfl) ?_
  refine hK _ ?_
  simp only [Act.put, List.setIfInBounds_toArray, List.set_cons_succ, List.set_cons_zero]
  clear hK K
  refine takeK 8 rfl (by kernel_rfl) (by kernel_rfl) (by kernel_rfl) rfl (fun _ _ _ _ h => h) rfl (fun K hK => ?_)
  go_big_quiet_op
  first | refine hK _ ?_ | refine ⟨_, fun _ _ => rfl, hK _ ?_⟩
  clear hK K
  refine takeK 9 rfl (by kernel_rfl) (by kernel_rfl) (by kernel_rfl) rfl (fun _ _ _ _ h => h) rfl (fun K hK => ?_)
  refine quiet_cell _ _ rfl _ rfl _ _ Try.underlying23 rfl (fun W' h => KeepB.cell h HK38.out rfl) ?_
  refine hK _ ?_
  simp only [Act.put, List.setIfInBounds_toArray, List.set_cons_succ, List.set_cons_zero]
  clear hK K
  refine takeK 12 rfl (by kernel_rfl) (by kernel_rfl) (by kernel_rfl) rfl (fun _ _ _ _ h => h) rfl (fun K hK => ?_)
  go_big_quiet_op
  first | refine hK _ ?_ | refine ⟨_, fun _ _ => rfl, hK _ ?_⟩
  clear hK K
  refine takeK 13 rfl (by kernel_rfl) (by kernel_rfl) (by kernel_rfl) rfl (fun _ _ _ _ h => h) rfl (fun K hK => ?_)
  refine quiet_agg 47 (.tmp 17) rfl _ rfl CC _ Try.underlying47 rfl (cond_size HCL.out) (fun W' h => KeepB.cells h HKC.out rfl) ?_
  refine hK _ ?_
  simp only [Act.put, List.setIfInBounds_toArray, List.set_cons_succ, List.set_cons_zero]
  clear hK K
  apply lat4 (fun v9 v10 v15 v16 W => CJ w.heap.size w0 (Value.slice none 0 0) v16 (([x] ++ [byteOf o.kind]) ++ [o.am, o.id].flatMap (be 8)) [] W)
  intro hM5
  apply lat3 (fun v9 v10 v15 W => CJ w.heap.size w0 (Value.slice none 0 0) v10 ([x] ++ [byteOf o.kind]) [⟨.nat .u64, [o.am, o.id], v15⟩] W)
  intro hM4
  apply lat2 (fun v9 v15 W => CJ w.heap.size w0 (Value.slice none 0 0) (Value.slice none 0 0) [] [⟨.u8, [byteOf o.kind], v9⟩, ⟨.nat .u64, [o.am, o.id], v15⟩] W)
  intro hM3
  apply lat2 (fun v9 v10 W => CJ w.heap.size w0 (Value.slice none 0 0) v10 ([x] ++ [byteOf o.kind]) [] W)
  intro hM2
  apply lat1 (fun v15 W => CJ w.heap.size w0 (Value.slice none 0 0) (Value.slice none 0 0) [] [⟨.nat .u64, [o.am, o.id], v15⟩] W)
  intro hM1
  apply lat1 (fun v9 W => CJ w.heap.size w0 (Value.slice none 0 0) (Value.slice none 0 0) [] [⟨.u8, [byteOf o.kind], v9⟩] W)
  intro hM0
  · have HJ := Lib.hid hJ0
    refine anyofM 4 [10] (by kernel_rfl) ⟨oneM rfl rfl (fun K hK => ?_), oneM rfl rfl (fun K hK => ?_), trivial⟩
    · refine HJ.out.mk1 35 (.tmp 8) rfl 5 Try.underlying35 .u8 (byteOf o.kind) _ [Value.int .u8 ((byteOf o.kind).toNat : Int)] rfl (by rw [byteOf_eq]; rfl) (fun _ _ => rfl) u8_sizeU u8_zeroU (show 1 ≤ 16777216 by decide) (show 0 < 1 by decide) ?_
      intro v9 W hJ hkb
      have HJ := Lib.hid hJ
      clear hJ
      refine hK _ _ hkb ?_
      clear hK K
      (try simp only [Act.put, List.setIfInBounds_toArray, List.set_cons_succ, List.set_cons_zero])
      exact hM0 v9 _ (HJ.out.sub (by intro x hx; simp only [List.mem_cons, List.not_mem_nil, or_false] at hx; rcases hx with rfl <;> first | exact (.head _)))
    · refine HJ.out.mk2 121 (.tmp 12) (.tmp 14) rfl Try.underlying121 o.am o.id rfl rfl ham hid u64_size1 u64_zero1 ?_
      intro v15 W hJ hkb
      have HJ := Lib.hid hJ
      clear hJ
      refine hK _ _ hkb ?_
      clear hK K
      (try simp only [Act.put, List.setIfInBounds_toArray, List.set_cons_succ, List.set_cons_zero])
      exact hM1 v15 _ (HJ.out.sub (by intro x hx; simp only [List.mem_cons, List.not_mem_nil, or_false] at hx; rcases hx with rfl <;> first | exact (.head _)))
  · intro v9 W hJ
    have HJ := Lib.hid hJ
    clear hJ
    refine anyofM 5 [10] (by kernel_rfl) ⟨oneM rfl rfl (fun K hK => ?_), oneM rfl rfl (fun K hK => ?_), trivial⟩
    · go_simp
      refine (HJ.out.one1 b x (byteOf o.kind) HOB.out (.head _)).mono ?_
      rintro e W ⟨v10, rfl, hJ, hkb⟩
      have HJ := Lib.hid hJ
      clear hJ
      refine hK _ _ hkb ?_
      clear hK K
      exact hM2 v9 v10 _ (HJ.out.sub (by intro x hx; cases hx))
    · refine HJ.out.mk2 121 (.tmp 12) (.tmp 14) rfl Try.underlying121 o.am o.id rfl rfl ham hid u64_size1 u64_zero1 ?_
      intro v15 W hJ hkb
      have HJ := Lib.hid hJ
      clear hJ
      refine hK _ _ hkb ?_
      clear hK K
      (try simp only [Act.put, List.setIfInBounds_toArray, List.set_cons_succ, List.set_cons_zero])
      exact hM3 v9 v15 _ (HJ.out.sub (by intro x hx; simp only [List.mem_cons, List.not_mem_nil, or_false] at hx; rcases hx with rfl | rfl <;> first | exact (.tail _ (.head _)) | exact (.head _)))
  · intro v15 W hJ
    have HJ := Lib.hid hJ
    clear hJ
    refine stepM 4 rfl (by kernel_rfl) rfl (fun K hK => ?_)
    refine HJ.out.mk1 35 (.tmp 8) rfl 5 Try.underlying35 .u8 (byteOf o.kind) _ [Value.int .u8 ((byteOf o.kind).toNat : Int)] rfl (by rw [byteOf_eq]; rfl) (fun _ _ => rfl) u8_sizeU u8_zeroU (show 1 ≤ 16777216 by decide) (show 0 < 1 by decide) ?_
    intro v9 W hJ hkb
    have HJ := Lib.hid hJ
    clear hJ
    refine hK _ _ hkb ?_
    clear hK K
    (try simp only [Act.put, List.setIfInBounds_toArray, List.set_cons_succ, List.set_cons_zero])
    exact relist (by kernel_rfl) (hM3 v9 v15 _ (HJ.out.sub (by intro x hx; simp only [List.mem_cons, List.not_mem_nil, or_false] at hx; rcases hx with rfl | rfl <;> first | exact (.head _) | exact (.tail _ (.head _)))))
  · intro v9 v10 W hJ
    have HJ := Lib.hid hJ
    clear hJ
    refine stepM 10 rfl (by kernel_rfl) rfl (fun K hK => ?_)
    refine HJ.out.mk2 121 (.tmp 12) (.tmp 14) rfl Try.underlying121 o.am o.id rfl rfl ham hid u64_size1 u64_zero1 ?_
    intro v15 W hJ hkb
    have HJ := Lib.hid hJ
    clear hJ
    refine hK _ _ hkb ?_
    clear hK K
    (try simp only [Act.put, List.setIfInBounds_toArray, List.set_cons_succ, List.set_cons_zero])
    exact hM4 v9 v10 v15 _ (HJ.out.sub (by intro x hx; simp only [List.mem_cons, List.not_mem_nil, or_false] at hx; rcases hx with rfl <;> first | exact (.head _)))
  · intro v9 v15 W hJ
    have HJ := Lib.hid hJ
    clear hJ
    refine stepM 5 rfl (by kernel_rfl) rfl (fun K hK => ?_)
    go_simp
    refine (HJ.out.one1 b x (byteOf o.kind) HOB.out (.head _)).mono ?_
    rintro e W ⟨v10, rfl, hJ, hkb⟩
    have HJ := Lib.hid hJ
    clear hJ
    refine hK _ _ hkb ?_
    clear hK K
    exact relist (by kernel_rfl) (hM4 v9 v10 v15 _ (HJ.out.sub (by intro x hx; simp only [List.mem_cons, List.not_mem_nil, or_false] at hx; rcases hx with rfl <;> first | exact (.tail _ (.head _)))))
  · intro v9 v10 v15 W hJ
    have HJ := Lib.hid hJ
    clear hJ
    refine stepM 11 rfl (by kernel_rfl) rfl (fun K hK => ?_)
    go_simp
    refine (HJ.out.eight (.head _) (by simp only [List.length_append, List.length_cons, List.length_nil, List.flatMap_cons, List.flatMap_nil, be_length, id]; omega)).mono ?_
    rintro e W ⟨v16, rfl, hJ, hkb⟩
    have HJ := Lib.hid hJ
    clear hJ
    refine hK _ _ hkb ?_
    clear hK K
    exact hM5 v9 v10 v15 v16 _ (HJ.out.sub (by intro x hx; cases hx))
  intro v9 v10 v15 v16 W hJ
  have HJ := Lib.hid hJ
  clear hJ
  refine stepM 14 rfl (by kernel_rfl) rfl (fun K hK => ?_)
  go_simp
  refine (HCO.out _ _ _ _ _ _ _ HJ.out (by simp only [List.length_append, List.length_cons, List.length_nil, List.flatMap_cons, List.flatMap_nil, be_length, id]; omega)).mono ?_
  rintro e W ⟨v19, rfl, hJ, hkb⟩
  have HJ := Lib.hid hJ
  clear hJ
  refine hK _ _ hkb ?_
  clear hK K
  refine takeK 15 rfl (by kernel_rfl) (by kernel_rfl) (by kernel_rfl) rfl (fun _ _ _ _ h => h) rfl (fun K hK => ?_)
  go_big_quiet_op
  first | refine hK _ ?_ | refine ⟨_, fun _ _ => rfl, hK _ ?_⟩
  clear hK K
  refine doneM (by kernel_rfl) ?_ _
  have ho9 := HJ.out.own
  have hm9 := Moved.pre HX.out HJ.out.mv
  clear HJ
  go_wp2
  go_ret
  exact ⟨_, rfl, by simpa [opB] using ho9, hm9⟩
end
section
open Go.RowKit

theorem own_oneD {w : World} (b : UInt8) : OwnB (w.alloc (.cells #[.int .u8 (b.toNat : Int)] 5)) (.slice (some ⟨w.heap.size, 0, none⟩) 1 1) [b] :=
  ⟨rfl, .inr ⟨w.heap.size, 1, #[.int .u8 (b.toNat : Int)], rfl, Nat.zero_le _, heap_alloc_new w _, Nat.le_refl _, by simp [maxLen], rfl, rfl⟩⟩
theorem OwnTo.holds {w : World} {v : Value} {cs : List Cd} (h : OwnTo w v cs) : Conds w (fun b => v.ownBlock = some b) v cs := by
  obtain ⟨hok, h⟩ := h
  rcases h.2 with ⟨rfl, h0⟩ | ⟨g, cap, cur, rfl, _, hg, hnc, hcm, _, _⟩
  · obtain rfl : cs = [] := List.eq_nil_of_length_eq_zero h0
    exact ⟨none, 0, [], rfl, Nat.le_refl 0, by simp [maxLen], fun _ => rfl, fun h => absurd rfl h, rfl⟩
  · exact ⟨_, cap, _, rfl, hnc, hcm, by simp, fun _ => ⟨_, rfl, rfl, World.ownsRow.cells h rfl⟩, conds_iff.2 ⟨rfl, hok⟩⟩
theorem OwnTo.lt {w : World} {v : Value} {cs : List Cd} (h : OwnTo w v cs) : ∀ b, v.ownBlock = some b → b < w.heap.size := Own.lt'To h.2
theorem szROpD {n : Nat} (h : n = 39) : (Try.prog.info? 32).map (·.size) = some n := by subst h; kernel_rfl
theorem wp_strD {P : Program} {w : World} {o : Oper} {a : Act} {K : Act → World → Prop} {Q : Exit → Act → World → Prop} (src dst : TypeId) (x : Operand) (ho : o.op = .convert src dst x)
    (e : TypeId) (hs : P.underlying src = some (.slice e)) (he : P.underlying e = some (.int .u8)) (hd : P.underlying dst = some .string)
    (A : Option Addr) (c : Nat) (bs : List UInt8) (hx : a.eval x = .slice A bs.length c) (hsrc : Src w A bs.length (bv bs))
    (h : K (a.put o.dst (.string (strOf bs))) w) : o.wp P a w K Q := by
  unfold Oper.wp execOp
  simp only [ho, hx, Sem.run_bind, run_str w src dst e hs he hd A c bs hsrc, Result.andThen_ok, Sem.run_pure]
  exact h
theorem wp_bin2D {P : Program} {w : World} {o : Oper} {a : Act} {K : Act → World → Prop} {Q : Exit → Act → World → Prop} (op : BinOp) (t : TypeId) {t' : TypeId} (x y : Operand) (ho : o.op = .binOp op t x y t') (u v : Value) {r : Value} (hx : a.eval x = u) (hy : a.eval y = v)
    (hg : (eqGuard op t x y u v).run P w = .ok () w) (hb : (binOp op t u v).run P w = .ok r w) (h : K (a.put o.dst r) w) : o.wp P a w K Q := by
  unfold Oper.wp execOp
  simp only [ho, hx, hy, Sem.run_bind, hg, hb, Result.andThen_ok, Sem.run_pure]
  exact h
theorem eqD_selfD (D : List UInt8) (hD : D.length = 32) : (∀ (x y : Operand) (w : World), (eqGuard .eql 52 x y (.agg (bv D).toArray) (.agg (bv D).toArray)).run Try.prog w = .ok () w) ∧ ∀ w, (binOp .eql 52 (.agg (bv D).toArray) (.agg (bv D).toArray)).run Try.prog w = .ok (.bool true) w :=
  ⟨fun x y w => run_eqGuard w .eql 52 x y _ _ (.inl rfl) (by kernel_rfl), fun w => by
    have h := run_eqD w 52 5 32 Try.underlying52 Try.underlying5 (by kernel_rfl) D D hD hD
    rw [h]; simp⟩
set_option maxHeartbeats 1000000 in
theorem DLight (s : St) (A : Option Addr) (n c : Nat) (w : World) (hn : n ≤ 9223372036854775807) : Calls Try.prog 5 #[stv s (.slice A n c)] w fun e w' => e = .returned (.bool (decide (n ≤ 30))) ∧ Ext w w' := by
  have hx0 : Ext w (w.alloc (.cells (stc s (.slice A n c)).toArray 27)) := (Ext.refl w).alloc _
  have hb0 : Blk (w.alloc (.cells (stc s (.slice A n c)).toArray 27)) w.heap.size 27 (stc s (.slice A n c)) := Blk.new _ _ _
  have c6 : (w.alloc (.cells (stc s (.slice A n c)).toArray 27)).cell? ⟨w.heap.size, 6, none⟩ = some (.slice A n c) := hb0.cell 6
  obtain ⟨SC, hSC⟩ : ∃ SC, SC = stc s (.slice A n c) := ⟨_, rfl⟩
  have hst : stv s (.slice A n c) = .agg SC.toArray := by rw [hSC]; rfl
  rw [hst]
  rw [← hSC] at c6 hx0
  have HX0 := Lib.hid hx0
  have HE : Hid (decide ((n : Int) ≤ 30) = decide (n ≤ 30)) := Lib.hid (by rw [decide_eq_decide]; omega)
  clear hx0 hb0 hSC hst
  go_enter Try.func5, Try.ntmps5
  go_wp2
  go_ret
  exact ⟨by rw [← HE.out]; rfl, HX0.out⟩
set_option maxRecDepth 100000 in
set_option maxHeartbeats 8000000 in
theorem DeedBytesLaw (s0 : St) (hw : StWf s0) (u : Value) (o0 : Wish) (hok : CondOk o0.c) (ham : (Lit.int .u64 (o0.am : Int)).wf = true) (hid : (Lit.int .u64 (o0.id : Int)).wf = true) (F : Fp) (w : World) (hc : Conds w F u s0.cs) (hF : ∀ b, F b → b < w.heap.size) :
    Calls Try.prog 3 #[stv s0 u, .agg (wishCells o0).toArray] w fun e w' => e = .returned (.bool true) ∧ Ext w w' := by
  obtain ⟨A, c, xs, rfl, hlc, hcm, -⟩ := conds_open hc
  unfold maxLen at hcm
  have hlight := fun W => DLight s0 A (List.length (α := Cd) s0.cs) c W (by omega)
  have hocl := wishCells_len hok
  have hto := fun (hl : List.length (α := Cd) s0.cs ≤ 1099511627776) W (hx : Ext w W) => To12 s0 _ W F (hx.holds hF hc) (fun b hb => Nat.lt_of_lt_of_le (hF b hb) hx.size) hl
  have hrst := fun (hl : List.length (α := Cd) s0.cs ≤ 1099511627776) W (hx : Ext w W) (vb : Value) (ho : OwnB W vb [5]) => DRState s0 hw _ (fun b => F b ∨ vb.ownBlock = some b) vb [5] W (Ty.keep (t := .sl CondT) (fun _ _ => rfl) (fun _ h => .inl h) (hx.holds hF hc)) (Ty.keep (t := .sl .u8) (fun _ _ => rfl) (fun _ h => .inr h) ho.holds) (fun b hb => hb.elim (fun h => Nat.lt_of_lt_of_le (hF b h) hx.size) (OwnB.lt ho b)) hl (by simp)
  have hrs := fun (hl : List.length (α := Cd) s0.cs ≤ 1000) W (hx : Ext w W) => DRSum s0 hw _ F W (hx.holds hF hc) (fun b hb => Nat.lt_of_lt_of_le (hF b hb) hx.size) hl
  have hop := fun W => Op12 o0 W hok
  have hlo := fun b W ho => LayOpF o0 b 5 W hok ham hid ho
  have hro := fun W vb (ho : OwnB W vb [5]) => ROp o0 vb [5] W _ hok (wf_lt ham) (wf_lt hid) ho.holds ho.lt (by simp)
  have hmk := fun W => Ref_Make W
  have htb : (#[Value.string tabFirst, Value.string tabRounds] : Array Value) = [Value.string tabFirst, Value.string tabRounds].toArray := rfl
  rw [htb] at hmk
  generalize [Value.string tabFirst, Value.string tabRounds] = TB at *
  obtain ⟨SC, hSC⟩ : ∃ SC, SC = stc s0 (.slice A (List.length (α := Cd) s0.cs) c) := ⟨_, rfl⟩
  have hst : stv s0 (.slice A (List.length (α := Cd) s0.cs) c) = .agg SC.toArray := by rw [hSC]; rfl
  have hscl : SC.length = 7 := by rw [hSC]; rfl
  rw [hst] at hlight hrst hrs ⊢
  rw [← hSC] at hto
  generalize wishCells o0 = OC at *
  have hx0 : Ext w ((w.alloc (.cells SC.toArray 27)).alloc (.cells OC.toArray 32)).drew := (((Ext.refl w).alloc _).alloc _).drew
  have hx1 : Ext w ((w.alloc (.cells SC.toArray 27)).alloc (.cells OC.toArray 32)) := ((Ext.refl w).alloc _).alloc _
  have hb2 : Blk ((w.alloc (.cells SC.toArray 27)).alloc (.cells OC.toArray 32)) w.heap.size 27 SC := (Blk.new _ _ _).keep ((Ext.refl _).alloc _) (by simp)
  have hb3 : Blk ((w.alloc (.cells SC.toArray 27)).alloc (.cells OC.toArray 32)) (w.heap.size + 1) 32 OC := Blk.new_at (by simp) _ _
  by_cases hl : List.length (α := Cd) s0.cs ≤ 30
  · rw [decide_eq_true hl] at hlight
    have hto := hto (by omega)
    have hrst := hrst (by omega)
    have hrs := hrs (by omega)
    have hsl : (sumD s0).length = 32 := sha_length _
    have heq := eqD_selfD (sumD s0) hsl
    obtain ⟨SUM, hSUM⟩ : ∃ SUM, SUM = bv (sumD s0) := ⟨_, rfl⟩
    rw [← hSUM] at heq hrs
    obtain ⟨STS, hSTS⟩ : ∃ STS, STS = strOf ([5] ++ stateB s0) := ⟨_, rfl⟩
    obtain ⟨STO, hSTO⟩ : ∃ STO, STO = strOf ([5] ++ opB o0) := ⟨_, rfl⟩
    have HLIGHT := Lib.hid hlight
    have HX0 := Lib.hid hx0
    have HW := Lib.hid hw
    have HLEN := Lib.hid hl
    have HTO := Lib.hid (fun W (hx : Ext ((w.alloc (.cells SC.toArray 27)).alloc (.cells OC.toArray 32)) W) => hto W (hx1.trans hx))
    have HRST := Lib.hid (fun W (hx : Ext ((w.alloc (.cells SC.toArray 27)).alloc (.cells OC.toArray 32)) W) vb ho => (hrst W (hx1.trans hx) vb ho).mono fun e w' ⟨v', h1, h2, h3⟩ => (⟨v', h1, h2, Fresh.ext h3⟩ : ∃ v', e = Ending.returned v' ∧ OwnB w' v' ([5] ++ stateB s0) ∧ Ext W w'))
    have HRS := Lib.hid (fun W (hx : Ext ((w.alloc (.cells SC.toArray 27)).alloc (.cells OC.toArray 32)) W) => hrs W (hx1.trans hx))
    have HOP := Lib.hid hop
    have HLO := Lib.hid hlo
    have HRO := Lib.hid hro
    have HMK := Lib.hid hmk
    have HEQ := Lib.hid heq
    have HSUM := Lib.hid hSUM
    have HSTS := Lib.hid hSTS
    have HSTO := Lib.hid hSTO
    have HSCL := Lib.hid hscl
    have HOCL := Lib.hid hocl
    have HB2 := Lib.hid hb2
    have HB3 := Lib.hid hb3
    clear hlight hx0 hw hl hto hrst hrs hop hlo hro hmk heq hSUM hSTS hSTO hscl hocl hb2 hb3 hsl hc hF hSC hst htb ham hid hok hx1
    go_enter Try.func3, Try.ntmps3
    go_wp2_with (first
      | ((with_reducible refine wpDst 5 rfl ?_); refine wpList_load_agg _ rfl 27 (.tmp 2) rfl _ rfl SC _ Try.underlying27 rfl (szRState HSCL.out) (by exact HB2.out.cells) ?_)
      | fail)
    refine (HLIGHT.out _).mono ?_
    rintro e w1 ⟨rfl, hx1⟩
    go_wp2_with fail
    have HXA := Lib.hid hx1
    have hxd : Ext ((w.alloc (.cells SC.toArray 27)).alloc (.cells OC.toArray 32)) w1.drew := hx1.drew
    have HX2 : Hid (Ext w w1.drew) := Lib.hid ((((Ext.refl w).alloc _).alloc _).trans hxd)
    have HTO2 := Lib.hid (fun W (hx : Ext w1.drew W) => HTO.out W (hxd.trans hx))
    have HRST2 := Lib.hid (fun W (hx : Ext w1.drew W) => HRST.out W (hxd.trans hx))
    have HRS2 := Lib.hid (fun W (hx : Ext w1.drew W) => HRS.out W (hxd.trans hx))
    have HB2b := Lib.hid (HB2.out.keep hxd (by simp))
    have HB3b := Lib.hid (HB3.out.keep hxd (by simp))
    clear hxd hx1 HXA HTO HRST HRS HB2 HB3 HX0 HLIGHT
    (try simp only [World.size_alloc])
    refine stab_plain Ext ext_refl ext_trans [[0], [0, 1], [0, 1, 2], [0, 1, 3], [0, 1, 3, 4], [0, 1, 2, 3, 4, 5], [0, 1, 2, 3, 4, 5, 6], [0, 1, 7], [0, 1, 8], [0, 1, 2, 3, 4, 5, 7, 8, 9], [0, 1, 2, 3, 4, 5, 7, 8, 9, 10], [0, 1, 2, 3, 4, 5, 6, 7, 8, 9, 10, 11], [0, 1, 2, 3, 4, 5, 6, 7, 8, 9, 10, 11, 12], [0, 1, 2, 3, 4, 5, 6, 7, 8, 9, 10, 11, 12, 13], [0, 1, 2, 3, 4, 5, 6, 7, 8, 9, 10, 11, 12, 13, 14], [0, 1, 2, 3, 4, 5, 6, 7, 8, 9, 10, 11, 12, 13, 15], [0, 1, 2, 3, 4, 5, 6, 7, 8, 9, 10, 11, 12, 13, 15, 16], [0, 1, 2, 3, 4, 5, 6, 7, 8, 9, 10, 11, 12, 13, 14, 15, 16, 17], [0, 1, 2, 3, 4, 5, 6, 7, 8, 9, 10, 11, 12, 13, 14, 15, 16, 17, 18], [0, 1, 2, 3, 4, 5, 6, 7, 8, 9, 10, 11, 12, 13, 19], [0, 1, 2, 3, 4, 5, 6, 7, 8, 9, 10, 11, 12, 13, 20], [0, 1, 2, 3, 4, 5, 6, 7, 8, 9, 10, 11, 12, 13, 14, 15, 16, 17, 19, 20, 21], [0, 1, 2, 3, 4, 5, 6, 7, 8, 9, 10, 11, 12, 13, 14, 15, 16, 17, 19, 20, 21, 22], [0, 1, 2, 3, 4, 5, 6, 7, 8, 9, 10, 11, 12, 13, 14, 15, 16, 17, 18, 19, 20, 21, 22, 23], [0, 1, 2, 3, 4, 5, 6, 7, 8, 9, 10, 11, 12, 13, 14, 15, 16, 17, 18, 19, 20, 21, 22, 23, 24], [0, 1, 2, 3, 4, 5, 6, 7, 8, 9, 10, 11, 12, 13, 14, 15, 16, 17, 18, 19, 20, 21, 22, 23, 24, 25], [0, 1, 2, 3, 4, 5, 6, 7, 8, 9, 10, 11, 12, 13, 14, 15, 16, 17, 18, 19, 20, 21, 22, 23, 24, 25, 26], [0, 1, 2, 3, 4, 5, 6, 7, 8, 9, 10, 11, 12, 13, 14, 15, 16, 17, 18, 19, 20, 21, 22, 23, 24, 25, 26, 27], [0, 1, 2, 3, 4, 5, 6, 7, 8, 9, 10, 11, 12, 13, 14, 15, 16, 17, 18, 19, 20, 21, 22, 23, 24, 25, 26, 27, 28], [0, 1, 2, 3, 4, 5, 6, 7, 8, 9, 10, 11, 12, 13, 14, 15, 16, 17, 18, 19, 20, 21, 22, 23, 24, 25, 26, 27, 28, 29], [0, 1, 2, 3, 4, 5, 6, 7, 8, 9, 10, 11, 12, 13, 14, 15, 16, 17, 18, 19, 20, 21, 22, 23, 24, 25, 30], [0, 1, 2, 3, 4, 5, 6, 7, 8, 9, 10, 11, 12, 13, 14, 15, 16, 17, 18, 19, 20, 21, 22, 23, 24, 25, 26, 27, 28, 29, 30, 31], [0, 1, 2, 3, 4, 5, 6, 7, 8, 9, 10, 11, 12, 13, 14, 15, 16, 17, 18, 19, 20, 21, 22, 23, 24, 25, 26, 27, 28, 29, 30, 31, 32], [0, 1, 2, 3, 4, 5, 6, 7, 8, 9, 10, 11, 12, 13, 14, 15, 16, 17, 18, 19, 20, 21, 22, 23, 24, 25, 26, 27, 28, 29, 30, 31, 32, 33], [0, 1, 2, 3, 4, 5, 6, 7, 8, 9, 10, 11, 12, 13, 14, 15, 16, 17, 18, 19, 20, 21, 22, 23, 24, 25, 26, 27, 28, 29, 30, 31, 32, 33, 34]] (fun i v wv => match i with | 0 => v = .bool true | 1 => v = .bool true | 2 => ∃ b, v = .slice (some b) 1 1 ∧ OwnB wv (.slice (some b) 1 1) [5] | 3 => v = .agg SC.toArray | 4 => ∃ u', v = stv s0 u' ∧ OwnTo wv u' s0.cs | 5 => OwnB wv v ([5] ++ stateB s0) | 6 => v = .string STS | 7 => OwnB wv v [5] | 8 => v = .agg SC.toArray | 9 => OwnB wv v ([5] ++ stateB s0) | 10 => v = .string STS | 11 => v = .bool true | 12 => v = .bool true | 13 => v = .bool true | 14 => ∃ b, v = .slice (some b) 1 1 ∧ OwnB wv (.slice (some b) 1 1) [5] | 15 => v = .agg OC.toArray | 16 => v = .agg OC.toArray | 17 => OwnB wv v ([5] ++ opB o0) | 18 => v = .string STO | 19 => OwnB wv v [5] | 20 => v = .agg OC.toArray | 21 => OwnB wv v ([5] ++ opB o0) | 22 => v = .string STO | 23 => v = .bool true | 24 => v = .bool true | 25 => v = .bool true | 26 => v = .agg SC.toArray | 27 => ∃ u', v = stv s0 u' ∧ OwnTo wv u' s0.cs | 28 => v = .agg SUM.toArray | 29 => v = .agg TB.toArray | 30 => v = .agg SC.toArray | 31 => v = .agg SUM.toArray | 32 => v = .bool true | 33 => v = .bool true | 34 => v = .bool true | _ => True) (by kernel_rfl) (by kernel_rfl) (by kernel_rfl) ?_ ?_ ?_
    · intro i v w1 w2 h hx
      match i, h with
      | 0, h => exact h
      | 1, h => exact h
      | 2, h =>
        replace h : ∃ b, v = .slice (some b) 1 1 ∧ OwnB w1 (.slice (some b) 1 1) [5] := h
        show ∃ b, v = .slice (some b) 1 1 ∧ OwnB w2 (.slice (some b) 1 1) [5]
        obtain ⟨b, h1, h2⟩ := h
        exact ⟨b, h1, h2.ext hx⟩
      | 3, h => exact h
      | 4, h =>
        replace h : ∃ u', v = stv s0 u' ∧ OwnTo w1 u' s0.cs := h
        show ∃ u', v = stv s0 u' ∧ OwnTo w2 u' s0.cs
        obtain ⟨u', h1, h2⟩ := h
        exact ⟨u', h1, h2.1, h2.2.ext hx⟩
      | 5, h =>
        replace h : OwnB w1 v ([5] ++ stateB s0) := h
        show OwnB w2 v ([5] ++ stateB s0)
        exact h.ext hx
      | 6, h => exact h
      | 7, h =>
        replace h : OwnB w1 v [5] := h
        show OwnB w2 v [5]
        exact h.ext hx
      | 8, h => exact h
      | 9, h =>
        replace h : OwnB w1 v ([5] ++ stateB s0) := h
        show OwnB w2 v ([5] ++ stateB s0)
        exact h.ext hx
      | 10, h => exact h
      | 11, h => exact h
      | 12, h => exact h
      | 13, h => exact h
      | 14, h =>
        replace h : ∃ b, v = .slice (some b) 1 1 ∧ OwnB w1 (.slice (some b) 1 1) [5] := h
        show ∃ b, v = .slice (some b) 1 1 ∧ OwnB w2 (.slice (some b) 1 1) [5]
        obtain ⟨b, h1, h2⟩ := h
        exact ⟨b, h1, h2.ext hx⟩
      | 15, h => exact h
      | 16, h => exact h
      | 17, h =>
        replace h : OwnB w1 v ([5] ++ opB o0) := h
        show OwnB w2 v ([5] ++ opB o0)
        exact h.ext hx
      | 18, h => exact h
      | 19, h =>
        replace h : OwnB w1 v [5] := h
        show OwnB w2 v [5]
        exact h.ext hx
      | 20, h => exact h
      | 21, h =>
        replace h : OwnB w1 v ([5] ++ opB o0) := h
        show OwnB w2 v ([5] ++ opB o0)
        exact h.ext hx
      | 22, h => exact h
      | 23, h => exact h
      | 24, h => exact h
      | 25, h => exact h
      | 26, h => exact h
      | 27, h =>
        replace h : ∃ u', v = stv s0 u' ∧ OwnTo w1 u' s0.cs := h
        show ∃ u', v = stv s0 u' ∧ OwnTo w2 u' s0.cs
        obtain ⟨u', h1, h2⟩ := h
        exact ⟨u', h1, h2.1, h2.2.ext hx⟩
      | 28, h => exact h
      | 29, h => exact h
      | 30, h => exact h
      | 31, h => exact h
      | 32, h => exact h
      | 33, h => exact h
      | 34, h => exact h
      | i + 35, h => trivial
    · intro i hi o ho
      match i, hi, ho with
      | 0, _, ho =>
        obtain rfl := Option.some.inj ho
        intro s W hX hd K hK
        rw [if_pos (wanted_plain rfl)]
        clear hd
        replace hK : ∀ (v : Value) (W' : World), Ext W W' → (v = .bool true) → _ := hK
        simp only [mkOf, List.map_cons, List.map_nil, Act.put, List.setIfInBounds_toArray, List.set_cons_succ, List.set_cons_zero, Nat.reduceAdd, Nat.zero_add] at hK ⊢
        go_simp
        refine (DAwake _).mono ?_
        rintro e w' ⟨rfl, hx⟩
        exact hK _ _ hx rfl
      | 1, _, ho =>
        obtain rfl := Option.some.inj ho
        intro s W hX hd K hK
        rw [if_pos (wanted_plain rfl)]
        have d9 : (s 0) = .bool true := hd 0 (by decide) (by decide)
        clear hd
        replace hK : ∀ (v : Value) (W' : World), Ext W W' → (v = .bool true) → _ := hK
        simp only [mkOf, List.map_cons, List.map_nil, Act.put, List.setIfInBounds_toArray, List.set_cons_succ, List.set_cons_zero, Nat.reduceAdd, Nat.zero_add] at hK ⊢
        simp only [d9] at hK ⊢
        go_simp
        exact hK _ _ (Ext.refl _) rfl
      | 2, _, ho =>
        obtain rfl := Option.some.inj ho
        intro s W hX hd K hK
        have d10 : (s 1) = .bool true := hd 1 (by decide) (by decide)
        clear hd
        replace hK : ∀ (v : Value) (W' : World), Ext W W' → (∃ b, v = .slice (some b) 1 1 ∧ OwnB W' (.slice (some b) 1 1) [5]) → _ := hK
        simp only [mkOf, List.map_cons, List.map_nil, Act.put, List.setIfInBounds_toArray, List.set_cons_succ, List.set_cons_zero, Nat.reduceAdd, Nat.zero_add] at hK ⊢
        simp only [d10] at hK ⊢
        rw [if_pos (by kernel_rfl)]
        go_simp
        exact hK _ _ ((Ext.refl _).alloc _) ⟨_, rfl, own_oneD 5⟩
      | 3, _, ho =>
        obtain rfl := Option.some.inj ho
        intro s W hX hd K hK
        have d10 : (s 1) = .bool true := hd 1 (by decide) (by decide)
        clear hd
        replace hK : ∀ (v : Value) (W' : World), Ext W W' → (v = .agg SC.toArray) → _ := hK
        simp only [mkOf, List.map_cons, List.map_nil, Act.put, List.setIfInBounds_toArray, List.set_cons_succ, List.set_cons_zero, Nat.reduceAdd, Nat.zero_add] at hK ⊢
        simp only [d10] at hK ⊢
        rw [if_pos (by kernel_rfl)]
        refine wp_load_aggD 27 (.tmp 2) rfl _ rfl SC _ Try.underlying27 rfl (szRState HSCL.out) (HB2b.out.keep hX (by simp)).cells ?_
        exact hK _ _ (Ext.refl _) rfl
      | 4, _, ho =>
        obtain rfl := Option.some.inj ho
        intro s W hX hd K hK
        have d10 : (s 1) = .bool true := hd 1 (by decide) (by decide)
        have d12 : (s 3) = .agg SC.toArray := hd 3 (by decide) (by decide)
        clear hd
        replace hK : ∀ (v : Value) (W' : World), Ext W W' → (∃ u', v = stv s0 u' ∧ OwnTo W' u' s0.cs) → _ := hK
        simp only [mkOf, List.map_cons, List.map_nil, Act.put, List.setIfInBounds_toArray, List.set_cons_succ, List.set_cons_zero, Nat.reduceAdd, Nat.zero_add] at hK ⊢
        simp only [d10, d12] at hK ⊢
        rw [if_pos (by kernel_rfl)]
        go_simp
        refine (HTO2.out W hX).mono ?_
        rintro e w' ⟨u', rfl, ho, hx, _⟩
        exact hK _ _ hx ⟨u', rfl, ho⟩
      | 5, _, ho =>
        obtain rfl := Option.some.inj ho
        intro s W hX hd K hK
        have d10 : (s 1) = .bool true := hd 1 (by decide) (by decide)
        have d11 : ∃ b, (s 2) = .slice (some b) 1 1 ∧ OwnB W (.slice (some b) 1 1) [5] := hd 2 (by decide) (by decide)
        have d13 : ∃ u', (s 4) = stv s0 u' ∧ OwnTo W u' s0.cs := hd 4 (by decide) (by decide)
        clear hd
        replace hK : ∀ (v : Value) (W' : World), Ext W W' → (OwnB W' v ([5] ++ stateB s0)) → _ := hK
        simp only [mkOf, List.map_cons, List.map_nil, Act.put, List.setIfInBounds_toArray, List.set_cons_succ, List.set_cons_zero, Nat.reduceAdd, Nat.zero_add] at hK ⊢
        simp only [d10] at hK ⊢
        rw [if_pos (by kernel_rfl)]
        obtain ⟨b, hb, ho⟩ := d11
        obtain ⟨u', hu, ho2⟩ := d13
        simp only [hb, hu] at hK ⊢
        go_simp
        refine (DLayF s0 HW.out u' _ b 5 W ho2.holds ho2.lt ho (by have := HLEN.out; omega)).mono ?_
        rintro e w' ⟨v', rfl, ho', hf⟩
        exact hK _ _ (Fresh.ext hf) ho'
      | 6, _, ho =>
        obtain rfl := Option.some.inj ho
        intro s W hX hd K hK
        have d10 : (s 1) = .bool true := hd 1 (by decide) (by decide)
        have d14 : OwnB W (s 5) ([5] ++ stateB s0) := hd 5 (by decide) (by decide)
        clear hd
        replace hK : ∀ (v : Value) (W' : World), Ext W W' → (v = .string STS) → _ := hK
        simp only [mkOf, List.map_cons, List.map_nil, Act.put, List.setIfInBounds_toArray, List.set_cons_succ, List.set_cons_zero, Nat.reduceAdd, Nat.zero_add] at hK ⊢
        simp only [d10] at hK ⊢
        rw [if_pos (by kernel_rfl)]
        obtain ⟨A, c, e⟩ := d14.form
        rw [e] at d14
        simp only [e] at hK ⊢
        refine wp_strD 36 9 (.tmp 14) rfl 5 Try.underlying36 Try.underlying5 Try.underlying9 A c ([5] ++ stateB s0) (by simp [Act.eval]) (OwnB.src d14) ?_
        exact hK _ _ (Ext.refl _) (by rw [HSTS.out])
      | 7, _, ho =>
        obtain rfl := Option.some.inj ho
        intro s W hX hd K hK
        have d10 : (s 1) = .bool true := hd 1 (by decide) (by decide)
        clear hd
        replace hK : ∀ (v : Value) (W' : World), Ext W W' → (OwnB W' v [5]) → _ := hK
        simp only [mkOf, List.map_cons, List.map_nil, Act.put, List.setIfInBounds_toArray, List.set_cons_succ, List.set_cons_zero, Nat.reduceAdd, Nat.zero_add] at hK ⊢
        simp only [d10] at hK ⊢
        rw [if_pos (by kernel_rfl)]
        go_simp
        exact hK _ _ ((Ext.refl _).alloc _) (own_oneD 5)
      | 8, _, ho =>
        obtain rfl := Option.some.inj ho
        intro s W hX hd K hK
        have d10 : (s 1) = .bool true := hd 1 (by decide) (by decide)
        clear hd
        replace hK : ∀ (v : Value) (W' : World), Ext W W' → (v = .agg SC.toArray) → _ := hK
        simp only [mkOf, List.map_cons, List.map_nil, Act.put, List.setIfInBounds_toArray, List.set_cons_succ, List.set_cons_zero, Nat.reduceAdd, Nat.zero_add] at hK ⊢
        simp only [d10] at hK ⊢
        rw [if_pos (by kernel_rfl)]
        refine wp_load_aggD 27 (.tmp 2) rfl _ rfl SC _ Try.underlying27 rfl (szRState HSCL.out) (HB2b.out.keep hX (by simp)).cells ?_
        exact hK _ _ (Ext.refl _) rfl
      | 9, _, ho =>
        obtain rfl := Option.some.inj ho
        intro s W hX hd K hK
        have d10 : (s 1) = .bool true := hd 1 (by decide) (by decide)
        have d16 : OwnB W (s 7) [5] := hd 7 (by decide) (by decide)
        have d17 : (s 8) = .agg SC.toArray := hd 8 (by decide) (by decide)
        clear hd
        replace hK : ∀ (v : Value) (W' : World), Ext W W' → (OwnB W' v ([5] ++ stateB s0)) → _ := hK
        simp only [mkOf, List.map_cons, List.map_nil, Act.put, List.setIfInBounds_toArray, List.set_cons_succ, List.set_cons_zero, Nat.reduceAdd, Nat.zero_add] at hK ⊢
        simp only [d10, d17] at hK ⊢
        rw [if_pos (by kernel_rfl)]
        obtain ⟨A, c, e⟩ := d16.form
        rw [e] at d16
        simp only [e] at hK ⊢
        go_simp
        refine (HRST2.out W hX _ d16).mono ?_
        rintro e w' ⟨v', rfl, ho', hx⟩
        exact hK _ _ hx ho'
      | 10, _, ho =>
        obtain rfl := Option.some.inj ho
        intro s W hX hd K hK
        have d10 : (s 1) = .bool true := hd 1 (by decide) (by decide)
        have d18 : OwnB W (s 9) ([5] ++ stateB s0) := hd 9 (by decide) (by decide)
        clear hd
        replace hK : ∀ (v : Value) (W' : World), Ext W W' → (v = .string STS) → _ := hK
        simp only [mkOf, List.map_cons, List.map_nil, Act.put, List.setIfInBounds_toArray, List.set_cons_succ, List.set_cons_zero, Nat.reduceAdd, Nat.zero_add] at hK ⊢
        simp only [d10] at hK ⊢
        rw [if_pos (by kernel_rfl)]
        obtain ⟨A, c, e⟩ := d18.form
        rw [e] at d18
        simp only [e] at hK ⊢
        refine wp_strD 35 9 (.tmp 18) rfl 5 Try.underlying35 Try.underlying5 Try.underlying9 A c ([5] ++ stateB s0) (by simp [Act.eval]) (OwnB.src d18) ?_
        exact hK _ _ (Ext.refl _) (by rw [HSTS.out])
      | 11, _, ho =>
        obtain rfl := Option.some.inj ho
        intro s W hX hd K hK
        have d10 : (s 1) = .bool true := hd 1 (by decide) (by decide)
        have d15 : (s 6) = .string STS := hd 6 (by decide) (by decide)
        have d19 : (s 10) = .string STS := hd 10 (by decide) (by decide)
        clear hd
        replace hK : ∀ (v : Value) (W' : World), Ext W W' → (v = .bool true) → _ := hK
        simp only [mkOf, List.map_cons, List.map_nil, Act.put, List.setIfInBounds_toArray, List.set_cons_succ, List.set_cons_zero, Nat.reduceAdd, Nat.zero_add] at hK ⊢
        simp only [d10, d15, d19] at hK ⊢
        rw [if_pos (by kernel_rfl)]
        go_simp
        exact hK _ _ (Ext.refl _) (by simp)
      | 12, _, ho =>
        obtain rfl := Option.some.inj ho
        intro s W hX hd K hK
        rw [if_pos (wanted_plain rfl)]
        have d10 : (s 1) = .bool true := hd 1 (by decide) (by decide)
        have d20 : (s 11) = .bool true := hd 11 (by decide) (by decide)
        clear hd
        replace hK : ∀ (v : Value) (W' : World), Ext W W' → (v = .bool true) → _ := hK
        simp only [mkOf, List.map_cons, List.map_nil, Act.put, List.setIfInBounds_toArray, List.set_cons_succ, List.set_cons_zero, Nat.reduceAdd, Nat.zero_add] at hK ⊢
        simp only [d10, d20] at hK ⊢
        go_simp
        exact hK _ _ (Ext.refl _) rfl
      | 13, _, ho =>
        obtain rfl := Option.some.inj ho
        intro s W hX hd K hK
        rw [if_pos (wanted_plain rfl)]
        have d21 : (s 12) = .bool true := hd 12 (by decide) (by decide)
        clear hd
        replace hK : ∀ (v : Value) (W' : World), Ext W W' → (v = .bool true) → _ := hK
        simp only [mkOf, List.map_cons, List.map_nil, Act.put, List.setIfInBounds_toArray, List.set_cons_succ, List.set_cons_zero, Nat.reduceAdd, Nat.zero_add] at hK ⊢
        simp only [d21] at hK ⊢
        go_simp
        exact hK _ _ (Ext.refl _) rfl
      | 14, _, ho =>
        obtain rfl := Option.some.inj ho
        intro s W hX hd K hK
        have d22 : (s 13) = .bool true := hd 13 (by decide) (by decide)
        clear hd
        replace hK : ∀ (v : Value) (W' : World), Ext W W' → (∃ b, v = .slice (some b) 1 1 ∧ OwnB W' (.slice (some b) 1 1) [5]) → _ := hK
        simp only [mkOf, List.map_cons, List.map_nil, Act.put, List.setIfInBounds_toArray, List.set_cons_succ, List.set_cons_zero, Nat.reduceAdd, Nat.zero_add] at hK ⊢
        simp only [d22] at hK ⊢
        rw [if_pos (by kernel_rfl)]
        go_simp
        exact hK _ _ ((Ext.refl _).alloc _) ⟨_, rfl, own_oneD 5⟩
      | 15, _, ho =>
        obtain rfl := Option.some.inj ho
        intro s W hX hd K hK
        have d22 : (s 13) = .bool true := hd 13 (by decide) (by decide)
        clear hd
        replace hK : ∀ (v : Value) (W' : World), Ext W W' → (v = .agg OC.toArray) → _ := hK
        simp only [mkOf, List.map_cons, List.map_nil, Act.put, List.setIfInBounds_toArray, List.set_cons_succ, List.set_cons_zero, Nat.reduceAdd, Nat.zero_add] at hK ⊢
        simp only [d22] at hK ⊢
        rw [if_pos (by kernel_rfl)]
        refine wp_load_aggD 32 (.tmp 3) rfl _ rfl OC _ Try.underlying32 rfl (szROpD HOCL.out) (HB3b.out.keep hX (by simp)).cells ?_
        exact hK _ _ (Ext.refl _) rfl
      | 16, _, ho =>
        obtain rfl := Option.some.inj ho
        intro s W hX hd K hK
        have d22 : (s 13) = .bool true := hd 13 (by decide) (by decide)
        have d24 : (s 15) = .agg OC.toArray := hd 15 (by decide) (by decide)
        clear hd
        replace hK : ∀ (v : Value) (W' : World), Ext W W' → (v = .agg OC.toArray) → _ := hK
        simp only [mkOf, List.map_cons, List.map_nil, Act.put, List.setIfInBounds_toArray, List.set_cons_succ, List.set_cons_zero, Nat.reduceAdd, Nat.zero_add] at hK ⊢
        simp only [d22, d24] at hK ⊢
        rw [if_pos (by kernel_rfl)]
        go_simp
        refine (HOP.out _).mono ?_
        rintro e w' ⟨rfl, hx⟩
        exact hK _ _ hx rfl
      | 17, _, ho =>
        obtain rfl := Option.some.inj ho
        intro s W hX hd K hK
        have d22 : (s 13) = .bool true := hd 13 (by decide) (by decide)
        have d23 : ∃ b, (s 14) = .slice (some b) 1 1 ∧ OwnB W (.slice (some b) 1 1) [5] := hd 14 (by decide) (by decide)
        have d25 : (s 16) = .agg OC.toArray := hd 16 (by decide) (by decide)
        clear hd
        replace hK : ∀ (v : Value) (W' : World), Ext W W' → (OwnB W' v ([5] ++ opB o0)) → _ := hK
        simp only [mkOf, List.map_cons, List.map_nil, Act.put, List.setIfInBounds_toArray, List.set_cons_succ, List.set_cons_zero, Nat.reduceAdd, Nat.zero_add] at hK ⊢
        simp only [d22, d25] at hK ⊢
        rw [if_pos (by kernel_rfl)]
        obtain ⟨b, hb, ho⟩ := d23
        simp only [hb] at hK ⊢
        go_simp
        refine (HLO.out b W ho).mono ?_
        rintro e w' ⟨v', rfl, ho', hf⟩
        exact hK _ _ (Fresh.ext hf) ho'
      | 18, _, ho =>
        obtain rfl := Option.some.inj ho
        intro s W hX hd K hK
        have d22 : (s 13) = .bool true := hd 13 (by decide) (by decide)
        have d26 : OwnB W (s 17) ([5] ++ opB o0) := hd 17 (by decide) (by decide)
        clear hd
        replace hK : ∀ (v : Value) (W' : World), Ext W W' → (v = .string STO) → _ := hK
        simp only [mkOf, List.map_cons, List.map_nil, Act.put, List.setIfInBounds_toArray, List.set_cons_succ, List.set_cons_zero, Nat.reduceAdd, Nat.zero_add] at hK ⊢
        simp only [d22] at hK ⊢
        rw [if_pos (by kernel_rfl)]
        obtain ⟨A, c, e⟩ := d26.form
        rw [e] at d26
        simp only [e] at hK ⊢
        refine wp_strD 36 9 (.tmp 26) rfl 5 Try.underlying36 Try.underlying5 Try.underlying9 A c ([5] ++ opB o0) (by simp [Act.eval]) (OwnB.src d26) ?_
        exact hK _ _ (Ext.refl _) (by rw [HSTO.out])
      | 19, _, ho =>
        obtain rfl := Option.some.inj ho
        intro s W hX hd K hK
        have d22 : (s 13) = .bool true := hd 13 (by decide) (by decide)
        clear hd
        replace hK : ∀ (v : Value) (W' : World), Ext W W' → (OwnB W' v [5]) → _ := hK
        simp only [mkOf, List.map_cons, List.map_nil, Act.put, List.setIfInBounds_toArray, List.set_cons_succ, List.set_cons_zero, Nat.reduceAdd, Nat.zero_add] at hK ⊢
        simp only [d22] at hK ⊢
        rw [if_pos (by kernel_rfl)]
        go_simp
        exact hK _ _ ((Ext.refl _).alloc _) (own_oneD 5)
      | 20, _, ho =>
        obtain rfl := Option.some.inj ho
        intro s W hX hd K hK
        have d22 : (s 13) = .bool true := hd 13 (by decide) (by decide)
        clear hd
        replace hK : ∀ (v : Value) (W' : World), Ext W W' → (v = .agg OC.toArray) → _ := hK
        simp only [mkOf, List.map_cons, List.map_nil, Act.put, List.setIfInBounds_toArray, List.set_cons_succ, List.set_cons_zero, Nat.reduceAdd, Nat.zero_add] at hK ⊢
        simp only [d22] at hK ⊢
        rw [if_pos (by kernel_rfl)]
        refine wp_load_aggD 32 (.tmp 3) rfl _ rfl OC _ Try.underlying32 rfl (szROpD HOCL.out) (HB3b.out.keep hX (by simp)).cells ?_
        exact hK _ _ (Ext.refl _) rfl
      | 21, _, ho =>
        obtain rfl := Option.some.inj ho
        intro s W hX hd K hK
        have d22 : (s 13) = .bool true := hd 13 (by decide) (by decide)
        have d28 : OwnB W (s 19) [5] := hd 19 (by decide) (by decide)
        have d29 : (s 20) = .agg OC.toArray := hd 20 (by decide) (by decide)
        clear hd
        replace hK : ∀ (v : Value) (W' : World), Ext W W' → (OwnB W' v ([5] ++ opB o0)) → _ := hK
        simp only [mkOf, List.map_cons, List.map_nil, Act.put, List.setIfInBounds_toArray, List.set_cons_succ, List.set_cons_zero, Nat.reduceAdd, Nat.zero_add] at hK ⊢
        simp only [d22, d29] at hK ⊢
        rw [if_pos (by kernel_rfl)]
        obtain ⟨A, c, e⟩ := d28.form
        rw [e] at d28
        simp only [e] at hK ⊢
        go_simp
        refine (HRO.out W _ d28).mono ?_
        rintro e w' ⟨v', rfl, ho', hf⟩
        exact hK _ _ (Fresh.ext hf) ho'
      | 22, _, ho =>
        obtain rfl := Option.some.inj ho
        intro s W hX hd K hK
        have d22 : (s 13) = .bool true := hd 13 (by decide) (by decide)
        have d30 : OwnB W (s 21) ([5] ++ opB o0) := hd 21 (by decide) (by decide)
        clear hd
        replace hK : ∀ (v : Value) (W' : World), Ext W W' → (v = .string STO) → _ := hK
        simp only [mkOf, List.map_cons, List.map_nil, Act.put, List.setIfInBounds_toArray, List.set_cons_succ, List.set_cons_zero, Nat.reduceAdd, Nat.zero_add] at hK ⊢
        simp only [d22] at hK ⊢
        rw [if_pos (by kernel_rfl)]
        obtain ⟨A, c, e⟩ := d30.form
        rw [e] at d30
        simp only [e] at hK ⊢
        refine wp_strD 35 9 (.tmp 30) rfl 5 Try.underlying35 Try.underlying5 Try.underlying9 A c ([5] ++ opB o0) (by simp [Act.eval]) (OwnB.src d30) ?_
        exact hK _ _ (Ext.refl _) (by rw [HSTO.out])
      | 23, _, ho =>
        obtain rfl := Option.some.inj ho
        intro s W hX hd K hK
        have d22 : (s 13) = .bool true := hd 13 (by decide) (by decide)
        have d27 : (s 18) = .string STO := hd 18 (by decide) (by decide)
        have d31 : (s 22) = .string STO := hd 22 (by decide) (by decide)
        clear hd
        replace hK : ∀ (v : Value) (W' : World), Ext W W' → (v = .bool true) → _ := hK
        simp only [mkOf, List.map_cons, List.map_nil, Act.put, List.setIfInBounds_toArray, List.set_cons_succ, List.set_cons_zero, Nat.reduceAdd, Nat.zero_add] at hK ⊢
        simp only [d22, d27, d31] at hK ⊢
        rw [if_pos (by kernel_rfl)]
        go_simp
        exact hK _ _ (Ext.refl _) (by simp)
      | 24, _, ho =>
        obtain rfl := Option.some.inj ho
        intro s W hX hd K hK
        rw [if_pos (wanted_plain rfl)]
        have d22 : (s 13) = .bool true := hd 13 (by decide) (by decide)
        have d32 : (s 23) = .bool true := hd 23 (by decide) (by decide)
        clear hd
        replace hK : ∀ (v : Value) (W' : World), Ext W W' → (v = .bool true) → _ := hK
        simp only [mkOf, List.map_cons, List.map_nil, Act.put, List.setIfInBounds_toArray, List.set_cons_succ, List.set_cons_zero, Nat.reduceAdd, Nat.zero_add] at hK ⊢
        simp only [d22, d32] at hK ⊢
        go_simp
        exact hK _ _ (Ext.refl _) rfl
      | 25, _, ho =>
        obtain rfl := Option.some.inj ho
        intro s W hX hd K hK
        rw [if_pos (wanted_plain rfl)]
        have d33 : (s 24) = .bool true := hd 24 (by decide) (by decide)
        clear hd
        replace hK : ∀ (v : Value) (W' : World), Ext W W' → (v = .bool true) → _ := hK
        simp only [mkOf, List.map_cons, List.map_nil, Act.put, List.setIfInBounds_toArray, List.set_cons_succ, List.set_cons_zero, Nat.reduceAdd, Nat.zero_add] at hK ⊢
        simp only [d33] at hK ⊢
        go_simp
        exact hK _ _ (Ext.refl _) rfl
      | 26, _, ho =>
        obtain rfl := Option.some.inj ho
        intro s W hX hd K hK
        have d34 : (s 25) = .bool true := hd 25 (by decide) (by decide)
        clear hd
        replace hK : ∀ (v : Value) (W' : World), Ext W W' → (v = .agg SC.toArray) → _ := hK
        simp only [mkOf, List.map_cons, List.map_nil, Act.put, List.setIfInBounds_toArray, List.set_cons_succ, List.set_cons_zero, Nat.reduceAdd, Nat.zero_add] at hK ⊢
        simp only [d34] at hK ⊢
        rw [if_pos (by kernel_rfl)]
        refine wp_load_aggD 27 (.tmp 2) rfl _ rfl SC _ Try.underlying27 rfl (szRState HSCL.out) (HB2b.out.keep hX (by simp)).cells ?_
        exact hK _ _ (Ext.refl _) rfl
      | 27, _, ho =>
        obtain rfl := Option.some.inj ho
        intro s W hX hd K hK
        have d34 : (s 25) = .bool true := hd 25 (by decide) (by decide)
        have d35 : (s 26) = .agg SC.toArray := hd 26 (by decide) (by decide)
        clear hd
        replace hK : ∀ (v : Value) (W' : World), Ext W W' → (∃ u', v = stv s0 u' ∧ OwnTo W' u' s0.cs) → _ := hK
        simp only [mkOf, List.map_cons, List.map_nil, Act.put, List.setIfInBounds_toArray, List.set_cons_succ, List.set_cons_zero, Nat.reduceAdd, Nat.zero_add] at hK ⊢
        simp only [d34, d35] at hK ⊢
        rw [if_pos (by kernel_rfl)]
        go_simp
        refine (HTO2.out W hX).mono ?_
        rintro e w' ⟨u', rfl, ho, hx, _⟩
        exact hK _ _ hx ⟨u', rfl, ho⟩
      | 28, _, ho =>
        obtain rfl := Option.some.inj ho
        intro s W hX hd K hK
        have d34 : (s 25) = .bool true := hd 25 (by decide) (by decide)
        have d36 : ∃ u', (s 27) = stv s0 u' ∧ OwnTo W u' s0.cs := hd 27 (by decide) (by decide)
        clear hd
        replace hK : ∀ (v : Value) (W' : World), Ext W W' → (v = .agg SUM.toArray) → _ := hK
        simp only [mkOf, List.map_cons, List.map_nil, Act.put, List.setIfInBounds_toArray, List.set_cons_succ, List.set_cons_zero, Nat.reduceAdd, Nat.zero_add] at hK ⊢
        simp only [d34] at hK ⊢
        rw [if_pos (by kernel_rfl)]
        obtain ⟨u', hu, ho2⟩ := d36
        simp only [hu] at hK ⊢
        go_simp
        refine (DSum s0 HW.out u' _ W ho2.holds ho2.lt (by have := HLEN.out; omega)).mono ?_
        rintro e w' ⟨rfl, hx⟩
        exact hK _ _ hx (by rw [HSUM.out])
      | 29, _, ho =>
        obtain rfl := Option.some.inj ho
        intro s W hX hd K hK
        have d34 : (s 25) = .bool true := hd 25 (by decide) (by decide)
        clear hd
        replace hK : ∀ (v : Value) (W' : World), Ext W W' → (v = .agg TB.toArray) → _ := hK
        simp only [mkOf, List.map_cons, List.map_nil, Act.put, List.setIfInBounds_toArray, List.set_cons_succ, List.set_cons_zero, Nat.reduceAdd, Nat.zero_add] at hK ⊢
        simp only [d34] at hK ⊢
        rw [if_pos (by kernel_rfl)]
        go_simp
        refine (HMK.out _).mono ?_
        rintro e w' ⟨rfl, hx⟩
        exact hK _ _ hx rfl
      | 30, _, ho =>
        obtain rfl := Option.some.inj ho
        intro s W hX hd K hK
        have d34 : (s 25) = .bool true := hd 25 (by decide) (by decide)
        clear hd
        replace hK : ∀ (v : Value) (W' : World), Ext W W' → (v = .agg SC.toArray) → _ := hK
        simp only [mkOf, List.map_cons, List.map_nil, Act.put, List.setIfInBounds_toArray, List.set_cons_succ, List.set_cons_zero, Nat.reduceAdd, Nat.zero_add] at hK ⊢
        simp only [d34] at hK ⊢
        rw [if_pos (by kernel_rfl)]
        refine wp_load_aggD 27 (.tmp 2) rfl _ rfl SC _ Try.underlying27 rfl (szRState HSCL.out) (HB2b.out.keep hX (by simp)).cells ?_
        exact hK _ _ (Ext.refl _) rfl
      | 31, _, ho =>
        obtain rfl := Option.some.inj ho
        intro s W hX hd K hK
        have d34 : (s 25) = .bool true := hd 25 (by decide) (by decide)
        have d38 : (s 29) = .agg TB.toArray := hd 29 (by decide) (by decide)
        have d39 : (s 30) = .agg SC.toArray := hd 30 (by decide) (by decide)
        clear hd
        replace hK : ∀ (v : Value) (W' : World), Ext W W' → (v = .agg SUM.toArray) → _ := hK
        simp only [mkOf, List.map_cons, List.map_nil, Act.put, List.setIfInBounds_toArray, List.set_cons_succ, List.set_cons_zero, Nat.reduceAdd, Nat.zero_add] at hK ⊢
        simp only [d34, d38, d39] at hK ⊢
        rw [if_pos (by kernel_rfl)]
        go_simp
        refine (HRS2.out W hX).mono ?_
        rintro e w' ⟨rfl, hx⟩
        exact hK _ _ hx (by rw [HSUM.out])
      | 32, _, ho =>
        obtain rfl := Option.some.inj ho
        intro s W hX hd K hK
        have d34 : (s 25) = .bool true := hd 25 (by decide) (by decide)
        have d37 : (s 28) = .agg SUM.toArray := hd 28 (by decide) (by decide)
        have d40 : (s 31) = .agg SUM.toArray := hd 31 (by decide) (by decide)
        clear hd
        replace hK : ∀ (v : Value) (W' : World), Ext W W' → (v = .bool true) → _ := hK
        simp only [mkOf, List.map_cons, List.map_nil, Act.put, List.setIfInBounds_toArray, List.set_cons_succ, List.set_cons_zero, Nat.reduceAdd, Nat.zero_add] at hK ⊢
        simp only [d34, d37, d40] at hK ⊢
        rw [if_pos (by kernel_rfl)]
        refine wp_bin2D .eql 52 (.tmp 37) (.tmp 40) rfl _ _ rfl rfl (HEQ.out.1 _ _ _) (HEQ.out.2 _) ?_
        exact hK _ _ (Ext.refl _) rfl
      | 33, _, ho =>
        obtain rfl := Option.some.inj ho
        intro s W hX hd K hK
        rw [if_pos (wanted_plain rfl)]
        have d34 : (s 25) = .bool true := hd 25 (by decide) (by decide)
        have d41 : (s 32) = .bool true := hd 32 (by decide) (by decide)
        clear hd
        replace hK : ∀ (v : Value) (W' : World), Ext W W' → (v = .bool true) → _ := hK
        simp only [mkOf, List.map_cons, List.map_nil, Act.put, List.setIfInBounds_toArray, List.set_cons_succ, List.set_cons_zero, Nat.reduceAdd, Nat.zero_add] at hK ⊢
        simp only [d34, d41] at hK ⊢
        go_simp
        exact hK _ _ (Ext.refl _) rfl
      | 34, _, ho =>
        obtain rfl := Option.some.inj ho
        intro s W hX hd K hK
        rw [if_pos (wanted_plain rfl)]
        have d42 : (s 33) = .bool true := hd 33 (by decide) (by decide)
        clear hd
        replace hK : ∀ (v : Value) (W' : World), Ext W W' → (v = .bool true) → _ := hK
        simp only [mkOf, List.map_cons, List.map_nil, Act.put, List.setIfInBounds_toArray, List.set_cons_succ, List.set_cons_zero, Nat.reduceAdd, Nat.zero_add] at hK ⊢
        simp only [d42] at hK ⊢
        go_simp
        exact hK _ _ (Ext.refl _) rfl
      | i + 35, hi, _ => exact absurd hi (by simp)
    · intro s W hX hd
      have d9 : (s 0) = .bool true := hd 0 (by decide)
      have d10 : (s 1) = .bool true := hd 1 (by decide)
      have d11 : ∃ b, (s 2) = .slice (some b) 1 1 ∧ OwnB W (.slice (some b) 1 1) [5] := hd 2 (by decide)
      have d12 : (s 3) = .agg SC.toArray := hd 3 (by decide)
      have d13 : ∃ u', (s 4) = stv s0 u' ∧ OwnTo W u' s0.cs := hd 4 (by decide)
      have d14 : OwnB W (s 5) ([5] ++ stateB s0) := hd 5 (by decide)
      have d15 : (s 6) = .string STS := hd 6 (by decide)
      have d16 : OwnB W (s 7) [5] := hd 7 (by decide)
      have d17 : (s 8) = .agg SC.toArray := hd 8 (by decide)
      have d18 : OwnB W (s 9) ([5] ++ stateB s0) := hd 9 (by decide)
      have d19 : (s 10) = .string STS := hd 10 (by decide)
      have d20 : (s 11) = .bool true := hd 11 (by decide)
      have d21 : (s 12) = .bool true := hd 12 (by decide)
      have d22 : (s 13) = .bool true := hd 13 (by decide)
      have d23 : ∃ b, (s 14) = .slice (some b) 1 1 ∧ OwnB W (.slice (some b) 1 1) [5] := hd 14 (by decide)
      have d24 : (s 15) = .agg OC.toArray := hd 15 (by decide)
      have d25 : (s 16) = .agg OC.toArray := hd 16 (by decide)
      have d26 : OwnB W (s 17) ([5] ++ opB o0) := hd 17 (by decide)
      have d27 : (s 18) = .string STO := hd 18 (by decide)
      have d28 : OwnB W (s 19) [5] := hd 19 (by decide)
      have d29 : (s 20) = .agg OC.toArray := hd 20 (by decide)
      have d30 : OwnB W (s 21) ([5] ++ opB o0) := hd 21 (by decide)
      have d31 : (s 22) = .string STO := hd 22 (by decide)
      have d32 : (s 23) = .bool true := hd 23 (by decide)
      have d33 : (s 24) = .bool true := hd 24 (by decide)
      have d34 : (s 25) = .bool true := hd 25 (by decide)
      have d35 : (s 26) = .agg SC.toArray := hd 26 (by decide)
      have d36 : ∃ u', (s 27) = stv s0 u' ∧ OwnTo W u' s0.cs := hd 27 (by decide)
      have d37 : (s 28) = .agg SUM.toArray := hd 28 (by decide)
      have d38 : (s 29) = .agg TB.toArray := hd 29 (by decide)
      have d39 : (s 30) = .agg SC.toArray := hd 30 (by decide)
      have d40 : (s 31) = .agg SUM.toArray := hd 31 (by decide)
      have d41 : (s 32) = .bool true := hd 32 (by decide)
      have d42 : (s 33) = .bool true := hd 33 (by decide)
      have d4 : (s 34) = .bool true := hd 34 (by decide)
      clear hd
      simp only [mkOf, List.map_cons, List.map_nil, Act.put, List.setIfInBounds_toArray, List.set_cons_succ, List.set_cons_zero, Nat.reduceAdd, Nat.zero_add]
      (try simp only [Exit.then])
      simp only [d4]
      go_wp2_with fail
      go_ret
      exact ⟨by simp, HX2.out.trans hX⟩
  · rw [decide_eq_false hl] at hlight
    have hcs := hb2.cells
    have HLIGHT := Lib.hid hlight
    have HX1 := Lib.hid hx1
    have HSCL := Lib.hid hscl
    clear hlight hx0 hw hl hto hrst hrs hop hlo hro hmk hscl hocl hb2 hb3 hc hF hSC hst htb ham hid hok hx1
    go_enter Try.func3, Try.ntmps3
    go_wp2_with (first
      | ((with_reducible refine wpDst 5 rfl ?_); refine wpList_load_agg _ rfl 27 (.tmp 2) rfl _ rfl SC _ Try.underlying27 rfl (szRState HSCL.out) hcs ?_)
      | fail)
    refine (HLIGHT.out _).mono ?_
    rintro e w1 ⟨rfl, hx1⟩
    go_wp2_with fail
    refine (DAwake _).mono ?_
    rintro e w2 ⟨rfl, hx2⟩
    go_wp2_with fail
    go_ret
    exact ⟨rfl, (HX1.out.trans hx1).trans hx2⟩
end
end Go.Proofs.Ytmicjaiiinaipaa

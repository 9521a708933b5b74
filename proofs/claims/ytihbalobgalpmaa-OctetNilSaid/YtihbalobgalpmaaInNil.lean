/- Walks of a nil octet.In. -/
import Derived.Test.YtihbalobgalpmaaIn
namespace Go.Proofs.Ytihbalobgalpmaa
open Go.RowKit
section
variable (w : World)

set_option maxHeartbeats 400000 in
theorem Nil_Bad : Calls Try.prog 22 #[.pointer none] w fun e w' => e = .returned (.int .i64 2) ∧ w = w' := by
  go_enter Try.func22, Try.ntmps22
  go_wp2
  go_ret
  exact ⟨rfl, rfl⟩
theorem Nil_Left : Calls Try.prog 21 #[.pointer none] w fun e w' => e = .returned (.int .i64 0) ∧ w = w' := by
  go_enter Try.func21, Try.ntmps21
  go_wp2
  go_ret
  exact ⟨rfl, rfl⟩
theorem Nil_Fail (n : Int) : Calls Try.prog 15 #[.pointer none, .int .i64 n] w fun e w' => e = .returned (.tuple #[]) ∧ w = w' := by
  go_enter Try.func15, Try.ntmps15
  go_wp2
  go_end0
  exact ⟨rfl, rfl⟩
theorem Nil_cut (n : Int) : Calls Try.prog 31 #[.pointer none, .int .i64 n] w fun e w' => e = .returned (.slice none 0 0) ∧ w = w' := by
  go_enter Try.func31, Try.ntmps31
  go_wp2_with fail
  refine (Nil_Bad _).mono ?_
  rintro e w1 ⟨rfl, rfl⟩
  go_wp2
  go_ret
  exact ⟨rfl, rfl⟩
theorem Nil_num (n : Int) : Calls Try.prog 30 #[.pointer none, .int .i64 n] w fun e w' => e = .returned (.int .u64 0) ∧ w = w' := by
  go_enter Try.func30, Try.ntmps30
  go_wp2_with fail
  refine (Nil_cut _ _).mono ?_
  rintro e w1 ⟨rfl, rfl⟩
  go_wp2
  go_loopw [5, 12] (fun m i wr => wr = w ∧ i = .int .i64 0 ∧ m = .int .u64 0) (fun _ _ _ => 0)
  case atStart => exact ⟨rfl, rfl, rfl⟩
  case round =>
    obtain ⟨rfl, rfl, rfl⟩ := hrel
    go_wp2
    go_ret
    exact ⟨rfl, rfl⟩
theorem Nil_One : Calls Try.prog 16 #[.pointer none] w fun e w' => e = .returned (.int .u8 0) ∧ w = w' := by
  go_enter Try.func16, Try.ntmps16
  go_wp2_with fail
  refine (Nil_num _ _).mono ?_
  rintro e w1 ⟨rfl, rfl⟩
  go_wp2
  go_ret
  exact ⟨rfl, rfl⟩
theorem Nil_Four : Calls Try.prog 25 #[.pointer none] w fun e w' => e = .returned (.int .u32 0) ∧ w = w' := by
  go_enter Try.func25, Try.ntmps25
  go_wp2_with fail
  refine (Nil_num _ _).mono ?_
  rintro e w1 ⟨rfl, rfl⟩
  go_wp2
  go_ret
  exact ⟨rfl, rfl⟩
theorem Nil_Eight : Calls Try.prog 17 #[.pointer none] w fun e w' => e = .returned (.int .u64 0) ∧ w = w' := by
  go_enter Try.func17, Try.ntmps17
  go_wp2_with fail
  refine (Nil_num _ _).mono ?_
  rintro e w1 ⟨rfl, rfl⟩
  go_wp2
  go_ret
  exact ⟨rfl, rfl⟩
theorem Nil_Many (n : Int) (hn : 0 ≤ n) : Calls Try.prog 20 #[.pointer none, .int .i64 n] w fun e w' => e = .returned (.int .i64 0) ∧ w = w' := by
  go_enter Try.func20, Try.ntmps20
  go_wp2_with fail
  refine (Nil_One _).mono ?_
  rintro e w1 ⟨rfl, rfl⟩
  go_wp2
  go_ret
  exact ⟨rfl, rfl⟩
theorem Nil_End : Calls Try.prog 23 #[.pointer none] w fun e w' => e = .returned (.int .i64 2) ∧ w = w' := by
  go_enter Try.func23, Try.ntmps23
  go_wp2_with fail
  refine (Nil_Left _).mono ?_
  rintro e w1 ⟨rfl, rfl⟩
  go_wp2_with fail
  refine (Nil_Bad _).mono ?_
  rintro e w1 ⟨rfl, rfl⟩
  go_wp2
  go_ret
  exact ⟨rfl, rfl⟩
set_option maxHeartbeats 400000 in
theorem Nil_Blob (n : Int) (_hn : (Lit.int .i64 n).wf = true) : Calls Try.prog 19 #[.pointer none, .int .i64 n] w fun e w' => ∃ A c, e = .returned (.slice A 0 c) ∧ Ext w w' := by
  obtain ⟨i0, hi0, hz0, hz1, hz2⟩ := info_parts u8_info
  go_enter Try.func19, Try.ntmps19
  go_wp2_with fail
  refine (Nil_Four _).mono ?_
  rintro e w1 ⟨rfl, rfl⟩
  go_wp2_with fail
  refine (Nil_Bad _).mono ?_
  rintro e w1 ⟨rfl, rfl⟩
  go_wp2_with fail
  refine (Nil_cut _ _).mono ?_
  rintro e w1 ⟨rfl, rfl⟩
  go_wp2_with (at_builtin; refine wpList_app _ rfl (.tmp 25) (.tmp 29) _ _ rfl _ _ i0 _ 1 1 Try.underlying26 Try.underlying26 hi0 hz0 hz1 hz2 rfl (by decide) _ _ _ rfl (own_empty rfl) _ _ _ [] rfl (by simp) (fun h => absurd rfl h) (by simp) (by simp [maxLen]) (by omega) ?_; intro v3 w3 ho3 hm3; obtain ⟨A3, c3, hv3⟩ := ho3.form; subst hv3)
  go_ret
  exact ⟨_, _, rfl, Fresh.ext ((fresh_empty w 5).trans hm3)⟩
set_option maxHeartbeats 400000 in
theorem Nil_Sum : Calls Try.prog 18 #[.pointer none] w fun e w' => e = .returned (.agg (bv (List.replicate 32 0)).toArray) ∧ Ext w w' := by
  have hu8 : (Try.prog.info? 5).map (·.size) = some 1 := by kernel_rfl
  have hz := zero32
  have hzl : (bv (List.replicate 32 0)).length = 32 := by rw [bv_length, List.length_replicate]
  have hone := bv_one (List.replicate 32 0)
  generalize hZ : bv (List.replicate 32 0) = Z at hz hzl hone
  have HZL := Lib.hid hzl
  clear hZ hzl
  go_enter Try.func18, Try.ntmps18
  go_wp2_with (first
    | (refine wpList_alloc _ rfl 49 rfl _ hz ?_)
    | fail)
  go_region_held_law (fun _ => True) (trivial)
    (first
      | (go_at_call 31
         refine (Nil_cut _ _).mono ?_
         rintro e w1 ⟨rfl, rfl⟩)
      | (refine step_copyB rfl (.tmp 4) (.tmp 6) 26 26 rfl 5 Try.underlying26 hu8 (w.heap.size + 1) 0 32 32 rfl none 0 0 rfl [] rfl (fun h => absurd rfl h) Z 49 (heap_alloc2_new w _ _) 0 rfl (by omega) ?_; intro w2 hb2 hg2))
  have hb3 : w2.heap[w.heap.size + 1]? = some (.cells Z.toArray 49 (0, 0)) := by rw [hb2]; simp [bv]
  have hsz : w.heap.size + 1 < (((w.alloc (.cells Z.toArray 49)).alloc (.cells Z.toArray 49)).drew).heap.size := by
    show w.heap.size + 1 < ((w.alloc (.cells Z.toArray 49)).alloc (.cells Z.toArray 49)).heap.size
    simp
  have hsz0 : w.heap.size < (((w.alloc (.cells Z.toArray 49)).alloc (.cells Z.toArray 49)).drew).heap.size := Nat.lt_of_succ_lt hsz
  have hbR : w2.heap[w.heap.size]? = some (.cells Z.toArray 49 (0, 0)) := by
    rw [hg2.block _ hsz0 (by simp)]
    show ((w.alloc (.cells Z.toArray 49)).alloc (.cells Z.toArray 49)).heap[w.heap.size]? = _
    rw [heap_alloc_old _ _ (by simp), heap_alloc_new]
  have hc3 : Cells w2 ⟨w.heap.size + 1, 0, none⟩ Z := by have := Cells.of_block hb3; simpa using this
  have hx : Ext w w2 := grown_then (((Ext.refl w).alloc _).alloc _).drew hg2 (.inr (by rintro _ ⟨⟩; omega))
  clear hb2
  go_wp2_with (first
    | (refine wpList_load_agg _ rfl 49 (.tmp 3) rfl _ rfl Z _ Try.underlying49 rfl (by rw [HZL.out]; kernel_rfl) hc3 ?_)
    | (refine wpList_store_row _ rfl 49 (.tmp 2) (.tmp 8) rfl _ rfl Z Z _ rfl hbR (by rw [HZL.out]; kernel_rfl) rfl hone ?_)
    | fail)
  have hc4 : Cells (w2.setRow w.heap.size Z.toArray) ⟨w.heap.size, 0, none⟩ Z := by have := Cells.of_block (setRow_at (cs' := Z.toArray) hbR); simpa using this
  (try simp only [Exit.inBlock, Exit.then])
  refine bodyPost_ret (results_agg rfl _ _ _ _ _ rfl Try.underlying49 rfl (by rw [HZL.out]; kernel_rfl) hc4) rfl ?_
  exact ⟨rfl, grown_then hx (setRow_only _) (.inr (by rintro _ ⟨⟩; omega))⟩
end
end Go.Proofs.Ytihbalobgalpmaa

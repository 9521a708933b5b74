/- The walk of layer 4's To: a signature's pieces, copied one by one. Condition: the signature has 1024 cells. -/
import Derived.Test.YtfoomnibfibfnaaPart
import Derived.Test.YtfoomnibfibfnaaMono
import Derived.Test.YtfoomnibfibfnaaByt
set_option linter.unusedVariables false
set_option linter.unusedSimpArgs false
set_option linter.unnecessarySimpa false
namespace Go.Proofs.Ytfoomnibfibfnaa
open Go.RowKit

theorem szPieceTo04 {n : Nat} (h : n = 16) : (Try.prog.info? 35).map (·.size) = some n := by subst h; kernel_rfl
theorem szPieceBTo04 {n : Nat} (h : n = 16) : (Try.prog.info? 40).map (·.size) = some n := by subst h; kernel_rfl
theorem szSigTo04 {n : Nat} (h : n = 1024) : (Try.prog.info? 43).map (·.size) = some n := by subst h; kernel_rfl
theorem zSigTo04 : (Try.prog.info? 43).bind (fun i => i.zero.map (·.cells)) = some (List.replicate 1024 (Value.int .u8 0)).toArray := by kernel_rfl
set_option maxRecDepth 100000 in
set_option maxHeartbeats 4000000 in
theorem To04 (C : List Value) (w : World) (hC : C.length = 1024) (hone : ∀ u ∈ C, u.oneCell' = true) :
    Calls Try.prog 16 #[.agg C.toArray] w fun e w' => e = .returned (.agg C.toArray) ∧ Ext w w' := by
  obtain ⟨Z, hz, hzl, hzo⟩ : ∃ Z : List Value, (Try.prog.info? 43).bind (fun i => i.zero.map (·.cells)) = some Z.toArray ∧ Z.length = 1024 ∧ ∀ u ∈ Z, u.oneCell' = true := ⟨_, zSigTo04, List.length_replicate, fun u hu => by rw [List.eq_of_mem_replicate hu]; rfl⟩
  have HCL := Lib.hid hC
  have HZL := Lib.hid hzl
  have HZO := Lib.hid hzo
  have hb1 : Blk (((w.alloc (.cells C.toArray 38)).alloc (.cells Z.toArray 43)).alloc (.cells Z.toArray 43)) w.heap.size 38 C := ((Blk.new _ _ _).keep ((Ext.refl _).alloc _) (by simp)).keep ((Ext.refl _).alloc _) (by simp)
  have hb2 : Blk (((w.alloc (.cells C.toArray 38)).alloc (.cells Z.toArray 43)).alloc (.cells Z.toArray 43)) (w.heap.size + 1) 43 Z := (Blk.fresh (by simp) _ _).keep ((Ext.refl _).alloc _) (by simp)
  have hb3 : Blk (((w.alloc (.cells C.toArray 38)).alloc (.cells Z.toArray 43)).alloc (.cells Z.toArray 43)) (w.heap.size + 2) 43 Z := Blk.fresh (by simp) _ _
  have hx0 : Ext w (((w.alloc (.cells C.toArray 38)).alloc (.cells Z.toArray 43)).alloc (.cells Z.toArray 43)) := (((Ext.refl w).alloc _).alloc _).alloc _
  have HB1 := Lib.hid hb1
  have HB2 := Lib.hid hb2
  have HB3 := Lib.hid hb3
  have HX0 := Lib.hid hx0
  clear hb1 hb2 hb3 hx0 hC hzl hzo
  go_enter Try.func16, Try.ntmps16
  go_wp2_with (first
    | (refine wpList_alloc _ rfl 43 rfl _ hz ?_)
    | fail)
  go_loopw [4, 5] (fun p i wr => ∃ k : Nat, k ≤ 32 ∧ i = .int .i64 k ∧ Ext w wr ∧ Blk wr w.heap.size 38 C ∧ Blk wr (w.heap.size + 1) 43 Z ∧ Blk wr (w.heap.size + 2) 43 (mixAt C Z k) ∧ ∃ q, p = q) (fun _ i _ => 32 - (intOf i).toNat)
  case atStart => exact ⟨0, by omega, rfl, HX0.out, HB1.out, HB2.out, by rw [mixAt_zero C Z HCL.out HZL.out]; exact HB3.out, _, rfl⟩
  case round =>
    clear HX0 HB1 HB2 HB3
    obtain ⟨k, hk, rfl, hx, hb1, hb2, hb3, q, rfl⟩ := hrel
    by_cases hlt : k < 32
    · have HX := Lib.hid hx
      have HB1 := Lib.hid hb1
      have HB2 := Lib.hid hb2
      have HB3 := Lib.hid hb3
      clear hx hb1 hb2 hb3
      go_wp2
      have hx : Ext w wr.drew := HX.out.drew
      have hb1 : Blk wr.drew w.heap.size 38 C := HB1.out
      have hb2 : Blk wr.drew (w.heap.size + 1) 43 Z := HB2.out
      have hb3 : Blk wr.drew (w.heap.size + 2) 43 (mixAt C Z k) := HB3.out
      refine startM (KeepB fun b => b = w.heap.size) (by kernel_rfl) ?_
      (try simp only [Act.put, List.setIfInBounds_toArray, List.set_cons_succ, List.set_cons_zero])
      generalize wr.drew = w0 at *
      have hk1 : Cells w0 ⟨w.heap.size, k * 16, none⟩ ((C.drop (k * 16)).take 16) := by have h := (hb1.cells.drop (k * 16)).take 16; rw [addr_at] at h; exact h
      have hk2 : Cells w0 ⟨w.heap.size, 512 + k * 16, none⟩ ((C.drop (512 + k * 16)).take 16) := by have h := (hb1.cells.drop (512 + k * 16)).take 16; rw [addr_at] at h; exact h
      have hp1 := piece_len HCL.out (o := k * 16) (by omega)
      have hp2 := piece_len HCL.out (o := 512 + k * 16) (by omega)
      have hst := mixAt_step C Z HCL.out HZL.out k hlt
      have ho1 : ∀ u ∈ (C.drop (k * 16)).take 16, u.oneCell' = true := fun u hu => hone u (List.mem_of_mem_drop (List.mem_of_mem_take hu))
      have ho2 : ∀ u ∈ (C.drop (512 + k * 16)).take 16, u.oneCell' = true := fun u hu => hone u (List.mem_of_mem_drop (List.mem_of_mem_take hu))
      generalize (C.drop (k * 16)).take 16 = P1 at *
      generalize (C.drop (512 + k * 16)).take 16 = P2 at *
      have HX := Lib.hid hx
      have HB1 := Lib.hid hb1
      have HB2 := Lib.hid hb2
      have HB3 := Lib.hid hb3
      have HK1 := Lib.hid hk1
      have HK2 := Lib.hid hk2
      have HP1 := Lib.hid hp1
      have HP2 := Lib.hid hp2
      have HST := Lib.hid hst
      have HO1 := Lib.hid ho1
      have HO2 := Lib.hid ho2
      clear hx hb1 hb2 hb3 hk1 hk2 hp1 hp2 hst ho1 ho2
      refine takeK 0 rfl (by kernel_rfl) (by kernel_rfl) (by kernel_rfl) rfl (fun _ _ _ _ h => h) rfl (fun K hK => ?_)
      go_big_quiet_op
      first | refine hK _ ?_ | refine ⟨_, fun _ _ => rfl, hK _ ?_⟩
      clear hK K
      refine takeK 1 rfl (by kernel_rfl) (by kernel_rfl) (by kernel_rfl) rfl (fun _ _ _ _ h => h) rfl (fun K hK => ?_)
      go_big_quiet_op
      first | refine hK _ ?_ | refine ⟨_, fun _ _ => rfl, hK _ ?_⟩
      clear hK K
      refine takeK 2 rfl (by kernel_rfl) (by kernel_rfl) (by kernel_rfl) rfl (fun _ _ _ _ h => h) rfl (fun K hK => ?_)
      go_big_quiet_op
      first | refine hK _ ?_ | refine ⟨_, fun _ _ => rfl, hK _ ?_⟩
      clear hK K
      refine takeK 3 rfl (by kernel_rfl) (by kernel_rfl) (by kernel_rfl) rfl (fun _ _ _ _ h => h) rfl (fun K hK => ?_)
      go_big_quiet_op
      first | refine hK _ ?_ | refine ⟨_, fun _ _ => rfl, hK _ ?_⟩
      clear hK K
      refine takeK 4 rfl (by kernel_rfl) (by kernel_rfl) (by kernel_rfl) rfl (fun _ _ _ _ h => h) rfl (fun K hK => ?_)
      go_big_quiet_op
      first | refine hK _ ?_ | refine ⟨_, fun _ _ => rfl, hK _ ?_⟩
      clear hK K
      refine takeK 5 rfl (by kernel_rfl) (by kernel_rfl) (by kernel_rfl) rfl (fun _ _ _ _ h => h) rfl (fun K hK => ?_)
      refine quiet_agg 35 (.tmp 12) rfl _ rfl P1 _ Try.underlying35 rfl (szPieceTo04 HP1.out) (fun W' h => KeepB.cells h HK1.out rfl) ?_
      refine hK _ ?_
      simp only [Act.put, List.setIfInBounds_toArray, List.set_cons_succ, List.set_cons_zero]
      clear hK K
      refine takeK 6 rfl (by kernel_rfl) (by kernel_rfl) (by kernel_rfl) rfl (fun _ _ _ _ h => h) rfl (fun K hK => ?_)
      go_big_quiet_op
      first | refine hK _ ?_ | refine ⟨_, fun _ _ => rfl, hK _ ?_⟩
      clear hK K
      refine takeK 7 rfl (by kernel_rfl) (by kernel_rfl) (by kernel_rfl) rfl (fun _ _ _ _ h => h) rfl (fun K hK => ?_)
      go_big_quiet_op
      first | refine hK _ ?_ | refine ⟨_, fun _ _ => rfl, hK _ ?_⟩
      clear hK K
      refine takeK 8 rfl (by kernel_rfl) (by kernel_rfl) (by kernel_rfl) rfl (fun _ _ _ _ h => h) rfl (fun K hK => ?_)
      go_big_quiet_op
      first | refine hK _ ?_ | refine ⟨_, fun _ _ => rfl, hK _ ?_⟩
      clear hK K
      refine takeK 9 rfl (by kernel_rfl) (by kernel_rfl) (by kernel_rfl) rfl (fun _ _ _ _ h => h) rfl (fun K hK => ?_)
      refine quiet_agg 35 (.tmp 16) rfl _ rfl P2 _ Try.underlying35 rfl (szPieceTo04 HP2.out) (fun W' h => KeepB.cells h HK2.out rfl) ?_
      refine hK _ ?_
      simp only [Act.put, List.setIfInBounds_toArray, List.set_cons_succ, List.set_cons_zero]
      clear hK K
      refine takeK 10 rfl (by kernel_rfl) (by kernel_rfl) (by kernel_rfl) rfl (fun _ _ _ _ h => h) rfl (fun K hK => ?_)
      go_big_quiet_op
      first | refine hK _ ?_ | refine ⟨_, fun _ _ => rfl, hK _ ?_⟩
      clear hK K
      refine takeK 11 rfl (by kernel_rfl) (by kernel_rfl) (by kernel_rfl) rfl (fun _ _ _ _ h => h) rfl (fun K hK => ?_)
      go_big_quiet_op
      first | refine hK _ ?_ | refine ⟨_, fun _ _ => rfl, hK _ ?_⟩
      clear hK K
      refine takeK 13 rfl (by kernel_rfl) (by kernel_rfl) (by kernel_rfl) rfl (fun _ _ _ _ h => h) rfl (fun K hK => ?_)
      go_big_quiet_op
      first | refine hK _ ?_ | refine ⟨_, fun _ _ => rfl, hK _ ?_⟩
      clear hK K
      refine stepM 12 rfl (by kernel_rfl) rfl (fun K hK => ?_)
      refine wp_store_part w0 40 (.tmp 19) (.tmp 13) rfl (w.heap.size + 2) (k * 16) rfl (mixAt C Z k) P1 _ rfl HB3.out (szPieceBTo04 HP1.out) (by rw [mixAt_len, HP1.out]; omega) HO1.out ?_
      refine hK _ _ (fun b hb => (setRow_only _).block b (by have := HB1.out.lt; rcases hb with rfl; exact this) (by rcases hb with rfl; simp)) ?_
      clear hK K
      (try simp only [Act.put, List.setIfInBounds_toArray, List.set_cons_succ, List.set_cons_zero])
      refine takeK 14 rfl (by kernel_rfl) (by kernel_rfl) (by kernel_rfl) rfl (fun _ _ _ _ h => h) rfl (fun K hK => ?_)
      go_big_quiet_op
      first | refine hK _ ?_ | refine ⟨_, fun _ _ => rfl, hK _ ?_⟩
      clear hK K
      refine stepM 15 rfl (by kernel_rfl) rfl (fun K hK => ?_)
      refine wp_store_part _ 40 (.tmp 21) (.tmp 17) rfl (w.heap.size + 2) (512 + k * 16) rfl (putAt (mixAt C Z k) (k * 16) P1) P2 _ rfl (setRow_at HB3.out) (szPieceBTo04 HP2.out) (by rw [putAt_len (by rw [mixAt_len, HP1.out]; omega), mixAt_len, HP2.out]; omega) HO2.out ?_
      refine hK _ _ (fun b hb => (setRow_only _).block b (by have := HB1.out.lt; rcases hb with rfl; simpa [World.setRow] using this) (by rcases hb with rfl; simp)) ?_
      clear hK K
      (try simp only [Act.put, List.setIfInBounds_toArray, List.set_cons_succ, List.set_cons_zero])
      refine doneM (by kernel_rfl) ?_ _
      have hx9 : Ext w ((w0.setRow (w.heap.size + 2) (putAt (mixAt C Z k) (k * 16) P1).toArray).setRow (w.heap.size + 2) (putAt (putAt (mixAt C Z k) (k * 16) P1) (512 + k * 16) P2).toArray) := grown_then (grown_then HX.out (setRow_only _) (.inr (by rintro b ⟨⟩; omega))) (setRow_only _) (.inr (by rintro b ⟨⟩; omega))
      have hb1 : Blk ((w0.setRow (w.heap.size + 2) (putAt (mixAt C Z k) (k * 16) P1).toArray).setRow (w.heap.size + 2) (putAt (putAt (mixAt C Z k) (k * 16) P1) (512 + k * 16) P2).toArray) w.heap.size 38 C := (HB1.out.keep (setRow_only _) (by simp)).keep (setRow_only _) (by simp)
      have hb2 : Blk ((w0.setRow (w.heap.size + 2) (putAt (mixAt C Z k) (k * 16) P1).toArray).setRow (w.heap.size + 2) (putAt (putAt (mixAt C Z k) (k * 16) P1) (512 + k * 16) P2).toArray) (w.heap.size + 1) 43 Z := (HB2.out.keep (setRow_only _) (by simp)).keep (setRow_only _) (by simp)
      have hb3 : Blk ((w0.setRow (w.heap.size + 2) (putAt (mixAt C Z k) (k * 16) P1).toArray).setRow (w.heap.size + 2) (putAt (putAt (mixAt C Z k) (k * 16) P1) (512 + k * 16) P2).toArray) (w.heap.size + 2) 43 (mixAt C Z (k + 1)) := by rw [← HST.out]; exact setRow_at (setRow_at HB3.out)
      generalize World.setRow _ _ _ = w9 at *
      have HX9 := Lib.hid hx9
      have HB91 := Lib.hid hb1
      have HB92 := Lib.hid hb2
      have HB93 := Lib.hid hb3
      clear hx9 hb1 hb2 hb3
      go_wp2
      go_roundw
      case rel => exact ⟨k + 1, by omega, by go_num, HX9.out, HB91.out, HB92.out, HB93.out, _, rfl⟩
      case measure => simp [intOf]; omega
    · obtain rfl : k = 32 := by omega
      rw [mixAt_all C Z HCL.out HZL.out] at hb3
      have hcm := hb3.cells
      have hr2 : wr.heap[w.heap.size + 1]? = some (.cells Z.toArray 43 (0, 0)) := hb2
      have HX := Lib.hid hx
      clear hx hb1 hb2 hb3
      go_wp2_with (first
        | (refine wpList_load_agg _ rfl 43 (.tmp 3) rfl _ rfl C _ Try.underlying43 rfl (szSigTo04 HCL.out) hcm ?_)
        | (refine wpList_store_row _ rfl 43 (.tmp 2) (.tmp 23) rfl (w.heap.size + 1) rfl Z C _ rfl hr2 (szSigTo04 HCL.out) (by rw [HCL.out, HZL.out]) hone ?_)
        | fail)
      have hc9 := Blk.cells (t := 43) (setRow_at (cs' := C.toArray) hr2)
      (try simp only [Exit.inBlock, Exit.then])
      refine bodyPost_ret (results_agg rfl _ _ _ _ _ rfl Try.underlying43 rfl (szSigTo04 HCL.out) hc9) rfl ?_
      exact ⟨rfl, grown_then HX.out (setRow_only _) (.inr (by rintro b ⟨⟩; omega))⟩
end Go.Proofs.Ytfoomnibfibfnaa

/- Walks of octet.Out. -/
import Derived.Test.YtfoomnibfibfnaaByt
set_option linter.unusedVariables false
set_option linter.unusedSimpArgs false
set_option linter.unnecessarySimpa false
namespace Go.Proofs.Ytfoomnibfibfnaa
open Go.RowKit
set_option maxRecDepth 100000 in
set_option maxHeartbeats 400000 in
theorem Out_num (v : Value) (bs : List UInt8) (n size : Nat) (w : World) (ho : OwnB w v bs) (_hn : n < 18446744073709551616) (hs : size ≤ 8) (hb : bs.length + size ≤ 140737488355328) :
    Calls Try.prog 55 #[v, .int .u64 n, .int .i64 size] w fun e w' => ∃ v', e = .returned v' ∧ OwnB w' v' (bs ++ be size n) ∧ Moved w w' v v' := by
  obtain ⟨i0, hi, hz0, hz1, hz2⟩ := info_parts u8_info
  go_enter Try.func55, Try.ntmps55
  go_wp2
  go_loopw [0, 7] (fun vr i wr => ∃ j : Nat, j ≤ size ∧ i = .int .i64 ((j : Int) - 1) ∧ OwnB wr vr (bs ++ beTop size j n) ∧ Moved w wr v vr) (fun _ i _ => (intOf i + 1).toNat)
  case atStart => exact ⟨size, by omega, rfl, by simpa [beTop] using ho, Moved.refl _ _⟩
  case round =>
    obtain ⟨j, hj, rfl, hor, hmr⟩ := hrel
    have hl := beTop_length size j n
    have hll : (bs ++ beTop size j n).length + j ≤ bs.length + size := by simp; omega
    by_cases hlt : 0 < j
    · go_wp2_with (at_builtin; refine wpList_app1 wr rfl (.tmp 14) (.tmp 20) _ _ rfl _ _ 5 i0 _ 1 1 Try.underlying56 Try.underlying56 hi hz0 hz1 hz2 rfl (by decide) _ _ _ [.int .u8 ((n : Int) / 2 ^ (8 * (j - 1)) % 256)] rfl hor rfl rfl (by simp [Value.oneCell']) (by unfold maxLen; omega) (by omega) ?_; intro v' w1 ho1 hm1)
      go_roundw
      case rel =>
        refine ⟨j - 1, by omega, by rw [show ((j - 1 : Nat) : Int) = (j : Int) - 1 by omega], ?_, hmr.trans hm1⟩
        rw [beTop_step size j n hlt hj, ← List.append_assoc]
        exact OwnB.snoc ho1 (be_byte n j)
      case measure => simp [intOf]; omega
    · obtain rfl : j = 0 := by omega
      go_wp2
      go_ret
      exact ⟨_, rfl, by simpa [beTop, List.take_of_length_le, be_length] using hor, hmr⟩
set_option maxRecDepth 100000 in
set_option maxHeartbeats 400000 in
theorem Out_Four (v vl : Value) (bs : List UInt8) (l : List Nat) (w : World) (F : Fp) (ho : OwnB w v bs) (hl : (Ty.sl (.nat .u32)).holds w F [vl] l) (hF : Far F w v) (hb : bs.length + 4 * l.length ≤ 140737488355328) :
    Calls Try.prog 43 #[v, vl] w fun e w' => ∃ v', e = .returned v' ∧ OwnB w' v' (bs ++ l.flatMap (be 4)) ∧ Moved w w' v v' := by
  obtain ⟨A, c, xs, hv, hlc, hc, _, hcell, hall⟩ := hl
  cases hv
  unfold maxLen at hc
  go_enter Try.func43, Try.ntmps43
  go_wp2
  go_loopw [0, 9] (fun vr i wr => ∃ k : Nat, k ≤ l.length ∧ i = .int .i64 k ∧ OwnB wr vr (bs ++ (l.take k).flatMap (be 4)) ∧ Moved w wr v vr) (fun _ i _ => l.length - (intOf i).toNat)
  case atStart => exact ⟨0, by omega, rfl, by simpa using ho, Moved.refl _ _⟩
  case round =>
    obtain ⟨k, hk, rfl, hor, hmr⟩ := hrel
    have hll : (bs ++ (l.take k).flatMap (be 4)).length = bs.length + 4 * k := by rw [List.length_append, be_flat]; simp; omega
    by_cases hlt : k < l.length
    · obtain ⟨ad, rfl, hf, hcells⟩ := hcell (by rintro rfl; simp at hlt)
      obtain ⟨hx, hwf⟩ := AllH.nat_at hall hlt
      have hcx := (hcells.keep (hmr.same hF _ hf)) k _ hx
      have hbd := bounds_u32 hwf
      clear hwf hx
      go_wp2_with fail
      refine (Out_num _ _ _ 4 _ hor (by omega) (by omega) (by omega)).mono ?_
      rintro e w1 ⟨v1, rfl, ho1, hm1⟩
      go_wp2
      go_roundw
      case rel => exact ⟨k + 1, by omega, by go_num, by rw [flat_step _ _ _ hlt, ← List.append_assoc]; exact ho1, hmr.trans hm1⟩
      case measure => simp [intOf]; omega
    · obtain rfl : k = l.length := by omega
      go_wp2
      go_ret
      exact ⟨_, rfl, by simpa using hor, hmr⟩
theorem zero32 : (Try.prog.info? 31).bind (fun i => i.zero.map (·.cells)) = some (bv (List.replicate 32 0)).toArray := by kernel_rfl
end Go.Proofs.Ytfoomnibfibfnaa

/- Walks of the document's Add, Sub, Sum of layer 2. No condition but that numbers are below 2^64. -/
import Derived.Test.YtnpolfihbfdggaaPMoney
set_option linter.unusedVariables false
set_option linter.unusedSimpArgs false
set_option linter.unnecessarySimpa false
namespace Go.Proofs.Ytnpolfihbfdggaa
open Go.RowKit

set_option maxHeartbeats 400000 in
theorem RAdd (a b : Nat) (w : World) (_ha : a < M64) (_hb : b < M64) : Calls Try.prog 31 #[.int .u64 a, .int .u64 b] w fun e w' => e = .returned (numErr (addM a b)) ∧ w = w' := by
  unfold M64 at *
  by_cases h : a + b < 18446744073709551616
  · have e : addM a b = (a + b, 0) := by unfold addM M64; rw [if_pos h]
    rw [e]
    clear e
    go_enter Try.func31, Try.ntmps31
    go_wp2
    go_ret2
    exact ⟨rfl, rfl⟩
  · have e : addM a b = (0, 11) := by unfold addM M64; rw [if_neg h]
    rw [e]
    clear e
    go_enter Try.func31, Try.ntmps31
    go_wp2
    go_ret2
    exact ⟨rfl, rfl⟩
set_option maxHeartbeats 400000 in
theorem RSub (a b : Nat) (w : World) (_ha : a < M64) (_hb : b < M64) : Calls Try.prog 43 #[.int .u64 a, .int .u64 b] w fun e w' => e = .returned (numErr (subM a b)) ∧ w = w' := by
  unfold M64 at *
  by_cases h : a < b
  · have e : subM a b = (0, 12) := by unfold subM; rw [if_pos h]
    rw [e]
    clear e
    go_enter Try.func43, Try.ntmps43
    go_wp2
    go_ret2
    exact ⟨rfl, rfl⟩
  · have e : subM a b = (a - b, 0) := by unfold subM; rw [if_neg h]
    rw [e]
    have e2 : ((a - b : Nat) : Int) = (a : Int) - (b : Int) := by omega
    unfold numErr
    simp only [e2]
    clear e e2
    go_enter Try.func43, Try.ntmps43
    go_wp2
    go_ret2
    exact ⟨rfl, rfl⟩
set_option maxHeartbeats 400000 in
theorem RSum (v : Value) (l : List Nat) (w : World) (F : Fp) (hl : (Ty.sl (.nat .u64)).holds w F [v] l) : Calls Try.prog 37 #[v] w fun e w' => e = .returned (numErr (sumM 0 l)) ∧ w = w' := by
  obtain ⟨A, c, xs, hv, hlc, hc, hA, hcell, hall⟩ := hl
  cases hv
  unfold maxLen at hc
  go_enter Try.func37, Try.ntmps37
  go_wp2
  go_loop [4, 5, 6] (fun s e i => ∃ (k n : Nat) (z : Int), k ≤ l.length ∧ n < M64 ∧ i = .int .i64 k ∧ s = .int .u64 n ∧ e = .int .i64 z ∧ ((z = 0 ∧ sumM 0 l = sumM n (l.drop k)) ∨ (z = 11 ∧ sumM 0 l = (0, 11) ∧ n = 0))) (fun _ _ i => l.length - (intOf i).toNat)
  case atStart => exact ⟨0, 0, 0, by omega, by unfold M64; omega, rfl, rfl, rfl, .inl ⟨rfl, rfl⟩⟩
  case round =>
    obtain ⟨k, n, z, hk, hn, rfl, rfl, rfl, hs⟩ := hrel
    by_cases hlt : k < l.length
    · rcases hs with ⟨rfl, hs⟩ | ⟨rfl, hs, rfl⟩
      · obtain ⟨ad, rfl, hf, hcells⟩ := hcell (by rintro rfl; simp at hlt)
        obtain ⟨hx, hwf⟩ := AllH.nat_at hall hlt
        have hcx := hcells k _ hx
        have hb : l[k] < M64 := by have := bounds_u64 hwf; unfold M64; omega
        have hd : l.drop k = l[k] :: l.drop (k + 1) := List.drop_eq_getElem_cons hlt
        rw [hd] at hs
        generalize l[k] = x at *
        have HS := Lib.hid hs
        clear hs hd hx hwf hall hcells
        by_cases hov : n + x < M64
        · have ha : addM n x = (n + x, 0) := by unfold addM; rw [if_pos hov]
          have hc := RAdd n x w hn hb
          rw [ha] at hc
          simp only [numErr] at hc
          have HC := Lib.hid hc
          clear ha hc
          go_wp2_with (go_at_call 31; refine HC.out.mono ?_; rintro e w' ⟨rfl, rfl⟩)
          go_round
          case rel => exact ⟨k + 1, n + x, 0, by omega, hov, by go_num, by go_num, rfl, .inl ⟨rfl, by rw [HS.out, sumM, if_pos hov]⟩⟩
          case measure => simp [intOf]; omega
        · have ha : addM n x = (0, 11) := by unfold addM; rw [if_neg hov]
          have hc := RAdd n x w hn hb
          rw [ha] at hc
          simp only [numErr] at hc
          have HC := Lib.hid hc
          have hr : sumM n (x :: l.drop (k + 1)) = (0, 11) := by rw [sumM, if_neg hov]
          have HR := Lib.hid hr
          clear ha hc hr
          go_wp2_with (go_at_call 31; refine HC.out.mono ?_; rintro e w' ⟨rfl, rfl⟩)
          go_round
          case rel => exact ⟨k + 1, 0, 11, by omega, by unfold M64; omega, by go_num, by go_num, rfl, .inr ⟨rfl, by rw [HS.out, HR.out], rfl⟩⟩
          case measure => simp [intOf]; omega
      · have HS := Lib.hid hs
        clear hs
        go_wp2
        go_ret2
        exact ⟨by rw [HS.out]; rfl, rfl⟩
    · obtain rfl : k = l.length := by omega
      rcases hs with ⟨rfl, hs⟩ | ⟨rfl, hs, rfl⟩
      · rw [List.drop_length, sumM] at hs
        have HS := Lib.hid hs
        clear hs
        go_wp2
        go_ret2
        exact ⟨by rw [HS.out]; rfl, rfl⟩
      · have HS := Lib.hid hs
        clear hs
        go_wp2
        go_ret2
        exact ⟨by rw [HS.out]; rfl, rfl⟩
end Go.Proofs.Ytnpolfihbfdggaa

/- Walks of money's Add, Sub, Sum. No condition but that numbers are below 2^64. -/
import Derived.Test.YtnpolfihbfdggaaRows
import Derived.Test.YtnpolfihbfdggaaLaws
import Derived.Test.YtnpolfihbfdggaaPModel
import Derived.Laws.Externs
import Derived.Outline
set_option linter.unusedVariables false
set_option linter.unusedSimpArgs false
set_option linter.unnecessarySimpa false
namespace Go.Proofs.Ytnpolfihbfdggaa
open Go.RowKit

theorem run_Add64 (a b : Nat) (w : World) : (callFunc 50 #[.int .u64 a, .int .u64 b, .int .u64 0]).run Try.prog w =
    .ok (.value (.tuple #[.int .u64 (((a + b) % 18446744073709551616 : Nat) : Int), .int .u64 (((a + b) / 18446744073709551616 : Nat) : Int)])) w := by
  rw [run_callFunc_extern Try.func50 (by kernel_rfl) (by kernel_rfl) (by kernel_rfl) (e := add64Entry) (by kernel_rfl), run_add64 a b 0 (by omega) (by omega) (by omega) (by omega)]
  simp only [Result.andThen]
  congr 5 <;> omega

/-- A number and an error's number. -/
def numErr (r : Nat × Int) : Value := .tuple #[.int .u64 (r.1 : Int), .int .i64 r.2]
set_option maxHeartbeats 400000 in
theorem Money_Add (a b : Nat) (w : World) (_ha : a < M64) (_hb : b < M64) : Calls Try.prog 47 #[.int .u64 a, .int .u64 b] w fun e w' => e = .returned (numErr (addM a b)) ∧ w = w' := by
  have hr := run_Add64 a b
  unfold M64 at *
  by_cases h : a + b < 18446744073709551616
  · have e : addM a b = (a + b, 0) := by unfold addM M64; rw [if_pos h]
    rw [e]
    have h1 : (a + b) % 18446744073709551616 = a + b := Nat.mod_eq_of_lt h
    have h2 : (a + b) / 18446744073709551616 = 0 := Nat.div_eq_of_lt h
    rw [h1, h2] at hr
    clear h1 h2 e
    go_enter Try.func47, Try.ntmps47
    go_wp2
    go_ret2
    exact ⟨rfl, rfl⟩
  · have e : addM a b = (0, 11) := by unfold addM M64; rw [if_neg h]
    rw [e]
    have h2 : (a + b) / 18446744073709551616 = 1 := by omega
    rw [h2] at hr
    clear h2 e
    go_enter Try.func47, Try.ntmps47
    go_wp2
    go_ret2
    exact ⟨rfl, rfl⟩
set_option maxHeartbeats 400000 in
theorem Money_Sub (a b : Nat) (w : World) (_ha : a < M64) (_hb : b < M64) : Calls Try.prog 42 #[.int .u64 a, .int .u64 b] w fun e w' => e = .returned (numErr (subM a b)) ∧ w = w' := by
  unfold M64 at *
  by_cases h : a < b
  · have e : subM a b = (0, 12) := by unfold subM; rw [if_pos h]
    rw [e]
    clear e
    go_enter Try.func42, Try.ntmps42
    go_wp2
    go_ret2
    exact ⟨rfl, rfl⟩
  · have e : subM a b = (a - b, 0) := by unfold subM; rw [if_neg h]
    rw [e]
    have e2 : ((a - b : Nat) : Int) = (a : Int) - (b : Int) := by omega
    unfold numErr
    simp only [e2]
    clear e e2
    go_enter Try.func42, Try.ntmps42
    go_wp2
    go_ret2
    exact ⟨rfl, rfl⟩
set_option maxHeartbeats 400000 in
theorem Money_Sum (v : Value) (l : List Nat) (w : World) (F : Fp) (hl : (Ty.sl (.nat .u64)).holds w F [v] l) : Calls Try.prog 40 #[v] w fun e w' => e = .returned (numErr (sumM 0 l)) ∧ w = w' := by
  obtain ⟨A, c, xs, hv, hlc, hc, hA, hcell, hall⟩ := hl
  cases hv
  unfold maxLen at hc
  go_enter Try.func40, Try.ntmps40
  go_wp2
  go_loop [4, 7, 10] (fun s e i => ∃ k n : Nat, k ≤ l.length ∧ n < M64 ∧ i = .int .i64 k ∧ s = .int .u64 n ∧ sumM 0 l = sumM n (l.drop k) ∧ ∃ z, e = z) (fun _ _ i => l.length - (intOf i).toNat)
  case atStart => exact ⟨0, 0, by omega, by unfold M64; omega, rfl, rfl, rfl, _, rfl⟩
  case round =>
    obtain ⟨k, n, hk, hn, rfl, rfl, hs, z, rfl⟩ := hrel
    by_cases hlt : k < l.length
    · obtain ⟨ad, rfl, hf, hcells⟩ := hcell (by rintro rfl; simp at hlt)
      obtain ⟨hx, hwf⟩ := AllH.nat_at hall hlt
      have hcx := hcells k _ hx
      have hb : l[k] < M64 := by have := bounds_u64 hwf; unfold M64; omega
      have hd : l.drop k = l[k] :: l.drop (k + 1) := List.drop_eq_getElem_cons hlt
      rw [hd] at hs
      generalize l[k] = x at *
      have HS := Lib.hid hs
      clear hs hd hx hwf hall hcells
      by_cases hov : n + x < M64
      · have ha : addM n x = (n + x, 0) := by unfold addM; rw [if_pos hov]
        have hc := Money_Add n x w hn hb
        rw [ha] at hc
        simp only [numErr] at hc
        have HC := Lib.hid hc
        clear ha hc
        go_wp2_with (go_at_call 47; refine HC.out.mono ?_; rintro e w' ⟨rfl, rfl⟩)
        go_round
        case rel => exact ⟨k + 1, n + x, by omega, hov, by go_num, by go_num, by rw [HS.out, sumM, if_pos hov], _, rfl⟩
        case measure => simp [intOf]; omega
      · have ha : addM n x = (0, 11) := by unfold addM; rw [if_neg hov]
        have hc := Money_Add n x w hn hb
        rw [ha] at hc
        simp only [numErr] at hc
        have HC := Lib.hid hc
        have hr : sumM n (x :: l.drop (k + 1)) = (0, 11) := by rw [sumM, if_neg hov]
        have HR := Lib.hid hr
        clear ha hc hr
        go_wp2_with (go_at_call 47; refine HC.out.mono ?_; rintro e w' ⟨rfl, rfl⟩)
        go_ret2
        exact ⟨by rw [HS.out, HR.out]; rfl, rfl⟩
    · obtain rfl : k = l.length := by omega
      rw [List.drop_length, sumM] at hs
      have HS := Lib.hid hs
      clear hs
      go_wp2
      go_ret2
      exact ⟨by rw [HS.out]; rfl, rfl⟩
end Go.Proofs.Ytnpolfihbfdggaa

/- The walks of the document's Sum and Head of layer 25. Conditions: the numbers are below 256. -/
import Derived.Test.YtchnjcghbbacoaaDoorQRBits
import Derived.Test.YtchnjcghbbacoaaDoorQMix
set_option linter.unusedVariables false
set_option linter.unusedSimpArgs false
set_option linter.unnecessarySimpa false
namespace Go.Proofs.YtchnjcghbbacoaaDoor
open Go.RowKit

theorem run_mulN2 (P : Program) (t : TypeId) (a b : Nat) (h : a * b < 9223372036854775808) (w : World) : (binOp .mul t (.int .i64 (a : Int)) (.int .i64 (b : Int))).run P w = .ok (.int .i64 ((a * b : Nat) : Int)) w := by
  have e : IntKind.i64.wrap ((a : Int) * (b : Int)) = ((a * b : Nat) : Int) := by
    have := wrap64_nat (a * b) h
    rw [← this]; congr 1
  show (Op.intArith .mul .i64 (a : Int) (b : Int)).run P w = _
  simp [Op.intArith, e]
theorem run_xor64 (P : Program) (t : TypeId) (n m : Nat) (hn : n < 4294967296) (hm : m < 4294967296) (w : World) : (binOp .xor t (.int .i64 (n : Int)) (.int .i64 (m : Int))).run P w = .ok (.int .i64 ((n ^^^ m : Nat) : Int)) w := by
  have h := xor64 n m hn hm
  show Result.ok (Value.int .i64 (bits .xor .i64 (n : Int) (m : Int))) w = _
  rw [h]
theorem turnBy_lt32 (top s : Nat) (hs : s < 2 ^ 30) (k : Nat) : turnBy top s k < 4294967296 := by have := turnBy_lt top s hs k; omega
set_option maxRecDepth 100000 in
set_option maxHeartbeats 2000000 in
theorem QRSum (A : Option Addr) (c : Nat) (l : List Nat) (w : World) (hp : Src w A l.length (iv l)) (hb : ∀ x ∈ l, x < 256) (hl : l.length ≤ 10000000) :
    Calls Tryd.prog 25 #[.slice A l.length c] w fun e w' => e = .returned (.int .i64 (mixM l : Int)) ∧ Ext w w' := by
  obtain ⟨i0, hi, hz0, hz1, hz2⟩ := info_parts int_info
  have hcT : Cells (w.alloc (.cells #[.int .i64 996825010, .int .i64 642813549, .int .i64 513874426, .int .i64 1027748829, .int .i64 705979059] 3)) ⟨w.heap.size, 0, none⟩ (iv turnsK) := by have := Cells.of_block (heap_alloc_new w (.cells #[.int .i64 996825010, .int .i64 642813549, .int .i64 513874426, .int .i64 1027748829, .int .i64 705979059] 3)); exact this
  have hx0 : Ext w (w.alloc (.cells #[.int .i64 996825010, .int .i64 642813549, .int .i64 513874426, .int .i64 1027748829, .int .i64 705979059] 3)) := (Ext.refl w).alloc _
  have HSRC := Lib.hid (hp.ext (fun h e => h (by simpa [iv] using congrArg List.length e)) hx0)
  have HC := Lib.hid hcT
  have HX := Lib.hid hx0
  clear hcT hx0 hp
  go_enter Tryd.func25, Tryd.ntmps25
  go_wp2
  generalize (w.alloc (.cells #[.int .i64 996825010, .int .i64 642813549, .int .i64 513874426, .int .i64 1027748829, .int .i64 705979059] 3)) = w0 at *
  generalize w.heap.size = g at *
  go_loopw [4, 5] (fun sv i wr => ∃ k : Nat, k ≤ l.length ∧ i = .int .i64 k ∧ sv = .int .i64 ((mixM (l.take k) : Nat) : Int) ∧ wr = w0) (fun _ i _ => l.length - (intOf i).toNat)
  case atStart => exact ⟨0, by omega, rfl, rfl, rfl⟩
  case round =>
    obtain ⟨k, hk, rfl, rfl, rfl⟩ := hrel
    by_cases hlt : k < l.length
    · obtain ⟨x, hx⟩ : ∃ x, l[k]? = some x := ⟨_, List.getElem?_eq_getElem hlt⟩
      have hx256 := hb x (List.mem_of_getElem? hx)
      obtain ⟨ad, rfl, hcc⟩ := HSRC.out (by omega)
      have hcx := hcc k _ (iv_at hx)
      have HST := Lib.hid (show mixM (l.take (k + 1)) = mixStep (mixM (l.take k)) x by
        rw [mixM_step l k hlt]; congr 1; rw [List.getElem?_eq_getElem hlt] at hx; exact Option.some.inj hx)
      have hs := mixM_take_lt l hb k
      clear hx hcc
      generalize mixM (l.take k) = s at *
      have htop : s / 33554432 < 32 := by omega
      have hlow : s % 33554432 * 32 < 2 ^ 30 := by omega
      have hx30 : (s % 33554432 * 32) ^^^ x < 2 ^ 30 := Nat.xor_lt_two_pow hlow (by omega)
      have HQ1 := Lib.hid (fun w => run_quoN Tryd.prog 3 s 33554432 (by omega) (by omega) w)
      have HQ2 := Lib.hid (fun w => run_remN Tryd.prog 3 s 33554432 (by omega) (by omega) w)
      have HQ3 := Lib.hid (fun w => run_mulN2 Tryd.prog 3 (s % 33554432) 32 (by omega) w)
      have HQ4 := Lib.hid (fun w => run_xor64 Tryd.prog 3 (s % 33554432 * 32) x (by omega) (by omega) w)
      have HST2 := Lib.hid (show mixStep s x = turnBy (s / 33554432) ((s % 33554432 * 32) ^^^ x) 5 from rfl)
      generalize s / 33554432 = top at *
      generalize (s % 33554432 * 32) ^^^ x = s0 at *
      generalize s % 33554432 * 32 = m32 at *
      generalize s % 33554432 = m at *
      go_wp2_with (first
        | ((with_reducible refine wpDst 16 rfl ?_); refine wpList_binV (.inl rfl) .quo 3 _ _ rfl (.int .i64 (s : Int)) (.int .i64 ((33554432 : Nat) : Int)) rfl rfl rfl (HQ1.out _) ?_)
        | ((with_reducible refine wpDst 18 rfl ?_); refine wpList_binV (.inl rfl) .rem 3 _ _ rfl (.int .i64 (s : Int)) (.int .i64 ((33554432 : Nat) : Int)) rfl rfl rfl (HQ2.out _) ?_)
        | ((with_reducible refine wpDst 19 rfl ?_); refine wpList_binV (.inl rfl) .mul 3 _ _ rfl (.int .i64 (m : Int)) (.int .i64 ((32 : Nat) : Int)) rfl rfl rfl (HQ3.out _) ?_)
        | ((with_reducible refine wpDst 24 rfl ?_); refine wpList_binV (.inl rfl) .xor 3 _ _ rfl (.int .i64 (m32 : Int)) (.int .i64 (x : Int)) rfl rfl rfl (HQ4.out _) ?_)
        | fail)
      obtain ⟨w0, rfl⟩ : ∃ w0, w0 = wr := ⟨_, rfl⟩
      clear hlow hs
      go_loopw [4, 6, 7] (fun sv tv kv wr => ∃ j : Nat, j ≤ 5 ∧ kv = .int .i64 (j : Int) ∧ tv = .int .i64 ((top / 2 ^ j : Nat) : Int) ∧ sv = .int .i64 ((turnBy top s0 j : Nat) : Int) ∧ wr = w0) (fun _ _ kv _ => 5 - (intOf kv).toNat)
      case atStart => exact ⟨0, by omega, rfl, by simp, rfl, rfl⟩
      case round =>
        obtain ⟨j, hj, rfl, rfl, rfl, rfl⟩ := hrel
        by_cases hj5 : j < 5
        · have hcy := HC.out j _ (iv_at (show turnsK[j]? = some (turnsK.getD j 0) by
            match j, hj5 with
            | 0, _ => rfl
            | 1, _ => rfl
            | 2, _ => rfl
            | 3, _ => rfl
            | 4, _ => rfl))
          have hty : turnsK.getD j 0 < 4294967296 := by
            match j, hj5 with
            | 0, _ => decide
            | 1, _ => decide
            | 2, _ => decide
            | 3, _ => decide
            | 4, _ => decide
          have hta := turnBy_lt32 top s0 hx30 j
          have HTN := Lib.hid (show turnBy top s0 (j + 1) = if top / 2 ^ j % 2 = 1 then turnBy top s0 j ^^^ turnsK.getD j 0 else turnBy top s0 j from rfl)
          have HDV := Lib.hid (show top / 2 ^ (j + 1) = top / 2 ^ j / 2 by rw [Nat.pow_succ, Nat.div_div_eq_div_mul])
          have htp : top / 2 ^ j ≤ top := Nat.div_le_self _ _
          rw [addr_atQ] at hcy
          generalize turnsK.getD j 0 = y at *
          generalize turnBy top s0 j = sj at *
          generalize top / 2 ^ j = tj at *
          have HQ5 := Lib.hid (fun w => run_remN Tryd.prog 3 tj 2 (by omega) (by omega) w)
          have HQ6 := Lib.hid (fun w => run_xor64 Tryd.prog 3 sj y hta hty w)
          have HQ7 := Lib.hid (fun w => run_quoN Tryd.prog 3 tj 2 (by omega) (by omega) w)
          generalize tj / 2 = tq at *
          generalize sj ^^^ y = sx at *
          generalize hr2 : tj % 2 = r2 at *
          have HR2 := Lib.hid hr2
          clear hr2
          by_cases hr1 : r2 = 1
          · subst hr1
            go_wp2_with (first
              | ((with_reducible refine wpDst 30 rfl ?_); refine wpList_binV (.inl rfl) .rem 3 _ _ rfl (.int .i64 (tj : Int)) (.int .i64 ((2 : Nat) : Int)) rfl rfl rfl (HQ5.out _) ?_)
              | ((with_reducible refine wpDst 37 rfl ?_); refine wpList_binV (.inl rfl) .xor 3 _ _ rfl (.int .i64 (sj : Int)) (.int .i64 (y : Int)) rfl rfl rfl (HQ6.out _) ?_)
              | ((with_reducible refine wpDst 39 rfl ?_); refine wpList_binV (.inl rfl) .quo 3 _ _ rfl (.int .i64 (tj : Int)) (.int .i64 ((2 : Nat) : Int)) rfl rfl rfl (HQ7.out _) ?_)
              | fail)
            go_roundw
            case rel => exact ⟨j + 1, by omega, by go_num, by rw [HDV.out], by rw [HTN.out, if_pos rfl], (by first | rfl | trivial)⟩
            case measure => simp [intOf]; omega
          · go_wp2_with (first
              | ((with_reducible refine wpDst 30 rfl ?_); refine wpList_binV (.inl rfl) .rem 3 _ _ rfl (.int .i64 (tj : Int)) (.int .i64 ((2 : Nat) : Int)) rfl rfl rfl (HQ5.out _) ?_)
              | ((with_reducible refine wpDst 39 rfl ?_); refine wpList_binV (.inl rfl) .quo 3 _ _ rfl (.int .i64 (tj : Int)) (.int .i64 ((2 : Nat) : Int)) rfl rfl rfl (HQ7.out _) ?_)
              | fail)
            go_roundw
            case rel => exact ⟨j + 1, by omega, by go_num, by rw [HDV.out], by rw [HTN.out, if_neg hr1], (by first | rfl | trivial)⟩
            case measure => simp [intOf]; omega
        · obtain rfl : j = 5 := by omega
          go_wp2
          go_roundw
          case rel => exact ⟨k + 1, by omega, by go_num, by rw [HST.out, HST2.out], (by first | rfl | trivial)⟩
          case measure => simp [intOf]; omega
    · obtain rfl : k = l.length := by omega
      rw [List.take_length]
      go_wp2
      go_ret
      exact ⟨rfl, HX.out⟩
end Go.Proofs.YtchnjcghbbacoaaDoor

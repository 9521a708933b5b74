/- The walk of request's eights. Conditions: the numbers are below 32, the list isn't too long. -/
import Derived.Test.YtchnjcghbbacoaaDoorQFives
import Derived.Test.YtchnjcghbbacoaaDoorQInts
set_option linter.unusedVariables false
set_option linter.unusedSimpArgs false
set_option linter.unnecessarySimpa false
namespace Go.Proofs.YtchnjcghbbacoaaDoor
open Go.RowKit

theorem run_or5 (P : Program) (t : TypeId) (n b : Nat) (hb : b < 32) (hn : n < 9007199254740992) (w : World) : (binOp .or t (.int .i64 ((n * 2 ^ 5 : Nat) : Int)) (.int .i64 (b : Int))).run P w = .ok (.int .i64 ((n * 32 + b : Nat) : Int)) w := by
  have h := Nat.shiftLeft_add_eq_or_of_lt (i := 5) (b := b) hb n
  rw [Nat.shiftLeft_eq] at h
  have e : bits .or .i64 ((n * 2 ^ 5 : Nat) : Int) (b : Int) = ((n * 32 + b : Nat) : Int) := by
    show IntKind.i64.wrap ((BitVec.ofInt 64 ((n * 2 ^ 5 : Nat) : Int) ||| BitVec.ofInt 64 (b : Int)).toNat : Int) = _
    rw [BitVec.toNat_or, bv64_nat _ (by omega), bv64_nat _ (by omega), ← h]
    exact wrap64_nat _ (by omega)
  show Result.ok (Value.int .i64 (bits .or .i64 ((n * 2 ^ 5 : Nat) : Int) (b : Int))) w = _
  rw [e]
/-- What eights makes of numbers. -/
structure Eights (l : List Nat) (p : List UInt8) (ok : Bool) : Prop where
  bits : ∃ h r, h < 8 ∧ r < 2 ^ h ∧ bitsP p ++ bitsOf h r = fl5 l ∧ ok = (decide (h < 5) && decide (r = 0))
def EightsOut (l : List Nat) (w w' : World) (e : Ending) : Prop := ∃ v' p ok, e = .returned (.tuple #[v', .bool ok]) ∧ Eights l p ok ∧ OwnB w' v' p ∧ Fresh w w' v'
set_option maxRecDepth 100000 in
set_option maxHeartbeats 2000000 in
theorem QEights (v : Value) (l : List Nat) (w : World) (F : Fp) (hp : (Ty.sl .u8).holds w F [v] (b8 l)) (hF : ∀ b, F b → b < w.heap.size) (hs : ∀ x ∈ l, x < 32) (hl : l.length ≤ 100000) :
    Calls Tryd.prog 30 #[v] w fun e w' => EightsOut l w w' e := by
  obtain ⟨i0, hi, hz0, hz1, hz2⟩ := info_parts u8_info
  obtain ⟨A, c, xs, hv, hlc, hc, hA, hcell, hall⟩ := hp
  cases hv
  unfold maxLen at hc
  obtain rfl := AllH.bytes.1 hall
  have hbl : (b8 l).length = l.length := by simp [b8]
  rw [hbl] at hlc ⊢
  have HC := Lib.hid (show l.length ≠ 0 → ∃ ad, A = some ad ∧ F ad.block ∧ Cells w ad (bv (b8 l)) from fun h => hcell (by intro e; rw [e] at hbl; exact h hbl.symm))
  clear hcell hall hA hbl
  go_enter Tryd.func30, Tryd.ntmps30
  go_wp2
  have HO0 := Lib.hid (show OwnB (w.alloc (.cells #[] 5)) (.slice (some ⟨w.heap.size, 0, none⟩) 0 0) [] from own_empty rfl)
  have HF0 := Lib.hid (fresh_empty w 5)
  go_loopw [4, 5, 6, 12] (fun ov hv rv i wr => ∃ (k h r : Nat) (out : List UInt8), k ≤ l.length ∧ i = .int .i64 k ∧ hv = .int .i64 h ∧ rv = .int .i64 r ∧ h < 8 ∧ r < 2 ^ h ∧ bitsP out ++ bitsOf h r = fl5 (l.take k) ∧ OwnB wr ov out ∧ Fresh w wr ov) (fun _ _ _ i _ => l.length - (intOf i).toNat)
  case atStart => exact ⟨0, 0, 0, [], by omega, rfl, rfl, rfl, by omega, by decide, rfl, HO0.out, HF0.out⟩
  case round =>
    clear HO0 HF0
    obtain ⟨k, h, r, out, hk, rfl, rfl, rfl, hh, hr, hbits, ho, hm⟩ := hrel
    by_cases hlt : k < l.length
    · obtain ⟨x, hxk⟩ : ∃ x, l[k]? = some x := ⟨_, List.getElem?_eq_getElem hlt⟩
      have hx32 := hs x (List.mem_of_getElem? hxk)
      obtain ⟨ad, rfl, hf, hcells⟩ := HC.out (by omega)
      have hcx : wr.cell? (ad.add k) = some (.int .u8 (x : Int)) := (hcells.keep (hm.ext.block _ (hF _ hf) (by simp))) k _ (by simp [bv, b8, hxk]; omega)
      have hr7 : r < 128 := Nat.lt_of_lt_of_le hr (Nat.pow_le_pow_right (by omega) (show h ≤ 7 by omega))
      have HOL := Lib.hid (show out.length ≤ l.length by
        have h1 := congrArg List.length hbits
        rw [List.length_append, bitsP_length, bitsOf_length, fl5_length, List.length_take] at h1; omega)
      have HTK := Lib.hid (show fl5 (l.take (k + 1)) = bitsP out ++ bitsOf (h + 5) (r * 32 + x) by
        rw [List.take_add_one, hxk, Option.toList_some, fl5_snoc, ← hbits, List.append_assoc]
        congr 1
        exact (bitsOf_join h 5 r x hx32).symm)
      have HR5 := Lib.hid (show r * 32 + x < 2 ^ (h + 5) by rw [Nat.pow_add]; omega)
      have HO := Lib.hid ho
      have HM := Lib.hid hm
      have HQ1 := Lib.hid (fun w => run_shlN Tryd.prog w 3 .i64 .u64 r 5 (by decide) (wrap64_nat _ (by omega)))
      have HQ2 := Lib.hid (fun w => run_or5 Tryd.prog 3 r x hx32 (by omega) w)
      have hR : r * 32 + x < 4096 := by omega
      clear hbits ho hm hcells hxk hr
      generalize r * 32 + x = R at *
      generalize r * 2 ^ 5 = r5 at *
      by_cases hh3 : h < 3
      · go_wp2_with (first
          | ((with_reducible refine wpDst 19 rfl ?_); refine wpList_binV (.inl rfl) .shl 3 _ _ rfl (.int .i64 (r : Int)) (.int .u64 ((5 : Nat) : Int)) rfl rfl rfl (HQ1.out _) ?_)
          | ((with_reducible refine wpDst 22 rfl ?_); refine wpList_binV (.inl rfl) .or 3 _ _ rfl (.int .i64 (r5 : Int)) (.int .i64 (x : Int)) rfl rfl rfl (HQ2.out _) ?_)
          | fail)
        go_roundw
        case rel => exact ⟨k + 1, h + 5, R, out, by omega, by go_num, by go_num, rfl, by omega, HR5.out, HTK.out.symm, HO.out, HM.out⟩
        case measure => simp [intOf]; omega
      · obtain ⟨h3, rfl⟩ : ∃ h3, h = h3 + 3 := ⟨h - 3, by omega⟩
        have hq : R / 2 ^ h3 < 256 := by
          rw [Nat.div_lt_iff_lt_mul (Nat.two_pow_pos h3)]
          have h1 := HR5.out
          rw [show h3 + 3 + 5 = 8 + h3 by omega, Nat.pow_add] at h1
          exact h1
        have hrm : R % 2 ^ h3 < 2 ^ h3 := Nat.mod_lt _ (Nat.two_pow_pos h3)
        have HTK2 := Lib.hid (show fl5 (l.take (k + 1)) = bitsP (out ++ [UInt8.ofNat (R / 2 ^ h3)]) ++ bitsOf h3 (R % 2 ^ h3) by
          rw [HTK.out, bitsP_snoc, show h3 + 3 + 5 = 8 + h3 by omega, bitsOf_split 8 h3 R, bitsOf_mod h3 h3 R (Nat.le_refl _), List.append_assoc, UInt8.toNat_ofNat_of_lt' hq])
        have HRM := Lib.hid hrm
        have HQ3 := Lib.hid (fun w => run_shrN Tryd.prog w 3 .i64 .i64 R h3 (by show h3 ≤ 64; omega))
        have HQ4 := Lib.hid (fun w => run_shlN Tryd.prog w 3 .i64 .i64 1 h3 (by show h3 ≤ 64; omega) (wrap64_nat _ (by have : 2 ^ h3 ≤ 2 ^ 5 := Nat.pow_le_pow_right (by omega) (by omega); omega)))
        have hp5 : 1 ≤ 1 * 2 ^ h3 := by have := Nat.two_pow_pos h3; omega
        have hp6 : 1 * 2 ^ h3 ≤ 32 := by have : 2 ^ h3 ≤ 2 ^ 5 := Nat.pow_le_pow_right (by omega) (by omega); omega
        have HQ5 := Lib.hid (fun w => run_subN Tryd.prog 3 (1 * 2 ^ h3) 1 hp5 (by omega) w)
        have HQ6 := Lib.hid (fun w => run_andM Tryd.prog 3 R h3 (by omega) (by omega) w)
        have HQ7 := Lib.hid (fun w => run_subN Tryd.prog 3 (h3 + 8) 8 (by omega) (by omega) w)
        have hcv := conv8 Tryd.prog (R / 2 ^ h3) hq 3 5 Tryd.underlying3 Tryd.underlying5
        clear hrm HTK HR5
        generalize R / 2 ^ h3 = q at *
        generalize R % 2 ^ h3 = rm at *
        generalize 1 * 2 ^ h3 = mm at *
        generalize mm - 1 = mk at *
        go_wp2_with (first
          | ((with_reducible refine wpDst 19 rfl ?_); refine wpList_binV (.inl rfl) .shl 3 _ _ rfl (.int .i64 (r : Int)) (.int .u64 ((5 : Nat) : Int)) rfl rfl rfl (HQ1.out _) ?_)
          | ((with_reducible refine wpDst 22 rfl ?_); refine wpList_binV (.inl rfl) .or 3 _ _ rfl (.int .i64 (r5 : Int)) (.int .i64 (x : Int)) rfl rfl rfl (HQ2.out _) ?_)
          | ((with_reducible refine wpDst 17 rfl ?_); refine wpList_binV (.inl rfl) .add 3 _ _ rfl (.int .i64 ((h3 + 3 : Nat) : Int)) (.int .i64 ((5 : Nat) : Int)) rfl rfl rfl (show _ = Result.ok (Value.int .i64 ((h3 + 8 : Nat) : Int)) _ from run_addN _ _ (h3 + 3) 5 (by omega) _) ?_)
          | ((with_reducible refine wpDst 26 rfl ?_); refine wpList_binV (.inl rfl) .sub 3 _ _ rfl (.int .i64 ((h3 + 8 : Nat) : Int)) (.int .i64 ((8 : Nat) : Int)) rfl rfl rfl (show _ = Result.ok (Value.int .i64 (h3 : Int)) _ from HQ7.out _) ?_)
          | ((with_reducible refine wpDst 30 rfl ?_); refine wpList_binV (.inl rfl) .shr 3 _ _ rfl (.int .i64 (R : Int)) (.int .i64 (h3 : Int)) rfl rfl rfl (HQ3.out _) ?_)
          | ((with_reducible refine wpDst 33 rfl ?_)
             refine wpList_app1 _ rfl (.tmp 27) (.tmp 32) _ _ rfl 5 5 5 i0 _ 1 1 Tryd.underlying40 Tryd.underlying40 hi hz0 hz1 hz2 rfl (by decide) _ _ _ [.int .u8 (q : Int)] rfl HO.out rfl rfl (by simp [Value.oneCell']) (by have := HOL.out; unfold maxLen; omega) (by have := HOL.out; omega) ?_
             intro v9 w9 ho9 hm9
             have HO9 := Lib.hid (OwnB.snoc (b := UInt8.ofNat q) ho9 (by rw [UInt8.toNat_ofNat_of_lt' hq]))
             have HM9 := Lib.hid hm9
             clear ho9 hm9)
          | ((with_reducible refine wpDst 36 rfl ?_); refine wpList_binV (.inl rfl) .shl 3 _ _ rfl (.int .i64 ((1 : Nat) : Int)) (.int .i64 (h3 : Int)) rfl rfl rfl (HQ4.out _) ?_)
          | ((with_reducible refine wpDst 37 rfl ?_); refine wpList_binV (.inl rfl) .sub 3 _ _ rfl (.int .i64 (mm : Int)) (.int .i64 ((1 : Nat) : Int)) rfl rfl rfl (HQ5.out _) ?_)
          | ((with_reducible refine wpDst 38 rfl ?_); refine wpList_binV (.inl rfl) .and 3 _ _ rfl (.int .i64 (R : Int)) (.int .i64 (mk : Int)) rfl rfl rfl (HQ6.out _) ?_)
          | fail)
        go_roundw
        case rel => exact ⟨k + 1, h3, rm, out ++ [UInt8.ofNat q], by omega, by go_num, rfl, rfl, by omega, HRM.out, HTK2.out.symm, HO9.out, HM.out.trans HM9.out⟩
        case measure => simp [intOf]; omega
    · obtain rfl : k = l.length := by omega
      rw [List.take_length] at hbits
      have HE := Lib.hid (show Eights l out (decide (h < 5) && decide (r = 0)) from ⟨h, r, hh, hr, hbits, rfl⟩)
      have HO := Lib.hid ho
      have HM := Lib.hid hm
      clear ho hm hbits hr hs hF hc hlc
      by_cases h5 : h < 5
      · by_cases hr0 : r = 0
        · subst hr0
          go_wp2
          go_ret2
          exact ⟨_, out, _, rfl, by simpa [h5] using HE.out, HO.out, HM.out⟩
        · go_wp2
          go_ret2
          exact ⟨_, out, _, rfl, by have h2 : ((r : Int) == 0) = false := by simp; omega
                                    simpa [h5, hr0, h2] using HE.out, HO.out, HM.out⟩
      · go_wp2
        go_ret2
        exact ⟨_, out, _, rfl, by simpa [h5] using HE.out, HO.out, HM.out⟩
end Go.Proofs.YtchnjcghbbacoaaDoor

/- The walk of the document's Head of layer 25. No condition. -/
import Derived.Test.YtchnjcghbbacoaaDoorQRSum
import Derived.Test.YtchnjcghbbacoaaDoorQCheck
set_option linter.unusedVariables false
set_option linter.unusedSimpArgs false
set_option linter.unnecessarySimpa false
namespace Go.Proofs.YtchnjcghbbacoaaDoor
open Go.RowKit

/-- A byte of a string. -/
theorem wpList_idxS {P : Program} {w : World} {ops : Array Oper} {rest : List Oper} {o : Oper} {a : Act} {Q : Exit → Act → World → Prop} (hgd : o.guard = none) (t : TypeId) (x y : Operand) (ho : o.op = .index t x y) (hu : P.underlying t = some .string) (s : ByteArray) (k : Nat) (hx : a.eval x = .string s) (hy : a.eval y = .int .i64 (k : Int))
    (b : UInt8) (hb : s.data.toList[k]? = some b) (h : wpList P ops Q rest (a.put o.dst (.int .u8 (b.toNat : Int))) w) : wpList P ops Q (o :: rest) a w :=
  wpList_plain hgd fun K hK => by
    have hk : k < s.size := by
      have := (List.getElem?_eq_some_iff.1 hb).1
      rwa [Array.length_toList] at this
    have he : s[k] = b := by
      have := (List.getElem?_eq_some_iff.1 hb).2
      rw [Array.getElem_toList] at this
      exact this
    have hr := run_index_string w t s .i64 (k : Int) hu
    rw [dif_pos ⟨by omega, by exact_mod_cast hk⟩] at hr
    unfold Oper.wp execOp
    simp only [ho, hx, hy, Sem.run_bind, hr, Result.andThen_ok, Sem.run_pure]
    have e2 : (s[(k : Int).toNat]'(by simpa using hk)) = b := by simpa using he
    rw [e2]
    exact hK _ _ h
theorem head_list : (⟨#[116, 111, 108, 108, 49]⟩ : ByteArray).data.toList = headK := rfl
set_option maxRecDepth 100000 in
set_option maxHeartbeats 2000000 in
theorem QRHead (w : World) : Calls Tryd.prog 24 #[] w fun e w' => ∃ v', e = .returned v' ∧ OwnI w' v' aheadK ∧ Fresh w w' v' := by
  obtain ⟨i0, hi, hz0, hz1, hz2⟩ := info_parts int_info
  go_enter Tryd.func24, Tryd.ntmps24
  go_wp2
  go_loopw [2, 3] (fun ov i wr => ∃ k : Nat, k ≤ 5 ∧ i = .int .i64 k ∧ OwnI wr ov (([3, 3, 3, 3, 1] : List Nat).take k) ∧ Fresh w wr ov) (fun _ i _ => 5 - (intOf i).toNat)
  case atStart => exact ⟨0, by omega, rfl, OwnI.nil _, Moved.refl _ _⟩
  case round =>
    obtain ⟨k, hk, rfl, ho, hm⟩ := hrel
    have hl : (([3, 3, 3, 3, 1] : List Nat).take k).length = k := by rw [List.length_take]; simp; omega
    by_cases hk5 : k < 5
    · obtain ⟨x, hxk, hx32, _, ht1, _⟩ := byte5 k hk5
      have hxl := x.toNat_lt
      have HX := Lib.hid hxk
      have HT := Lib.hid ht1
      have HO := Lib.hid ho
      have HM := Lib.hid hm
      have HL := Lib.hid hl
      have HQ := Lib.hid (fun w => run_quoN Tryd.prog 3 x.toNat 32 (by omega) (by omega) w)
      clear hxk ht1 ho hm hl
      generalize x.toNat / 32 = q at *
      go_wp2_with (first
        | ((with_reducible refine wpDst 14 rfl ?_); refine wpList_idxS rfl 9 _ _ rfl Tryd.underlying9 ⟨#[116, 111, 108, 108, 49]⟩ k rfl rfl x HX.out ?_)
        | ((with_reducible refine wpDst 16 rfl ?_); refine wpList_binV (.inl rfl) .quo 3 _ _ rfl (.int .i64 (x.toNat : Int)) (.int .i64 ((32 : Nat) : Int)) rfl rfl rfl (HQ.out _) ?_)
        | ((with_reducible refine wpDst 18 rfl ?_)
           refine wpList_app1 _ rfl (.tmp 11) (.tmp 17) _ _ rfl 3 3 3 i0 _ 1 8 Tryd.underlying59 Tryd.underlying59 hi hz0 hz1 hz2 rfl (by decide) _ _ _ [.int .i64 (q : Int)] rfl HO.out rfl rfl (by simp [Value.oneCell']) (by rw [HL.out]; unfold maxLen; omega) (by rw [HL.out]; omega) ?_
           intro v9 w9 ho9 hm9
           have HO9 := Lib.hid (OwnI.put ho9)
           have HM9 := Lib.hid hm9
           clear ho9 hm9)
        | fail)
      go_roundw
      case rel => exact ⟨k + 1, by omega, by go_num, by rw [HT.out]; exact HO9.out, HM.out.trans HM9.out⟩
      case measure => simp [intOf]; omega
    · obtain rfl : k = 5 := by omega
      have HO := Lib.hid ho
      have HM := Lib.hid hm
      clear ho hm hl
      go_wp2_with (first
        | ((with_reducible refine wpDst 21 rfl ?_)
           refine wpList_app1 _ rfl (.tmp 19) (.tmp 20) _ _ rfl 3 3 3 i0 _ 1 8 Tryd.underlying59 Tryd.underlying59 hi hz0 hz1 hz2 rfl (by decide) _ _ _ [.int .i64 ((0 : Nat) : Int)] rfl HO.out rfl rfl (by simp [Value.oneCell']) (by simp [maxLen]) (by simp) ?_
           intro v9 w9 ho9 hm9
           have HO9 := Lib.hid (OwnI.put ho9)
           have HM9 := Lib.hid (HM.out.trans hm9)
           clear ho9 hm9)
        | fail)
      go_loopw [2, 4] (fun ov i wr => ∃ k : Nat, k ≤ 5 ∧ i = .int .i64 k ∧ OwnI wr ov (([3, 3, 3, 3, 1, 0] : List Nat) ++ ([20, 15, 12, 12, 17] : List Nat).take k) ∧ Fresh w wr ov) (fun _ i _ => 5 - (intOf i).toNat)
      case atStart => exact ⟨0, by omega, rfl, HO9.out, HM9.out⟩
      case round =>
        clear HO HM HO9 HM9
        obtain ⟨k, hk, rfl, ho, hm⟩ := hrel
        have hl : (([3, 3, 3, 3, 1, 0] : List Nat) ++ ([20, 15, 12, 12, 17] : List Nat).take k).length = 6 + k := by rw [List.length_append, List.length_take]; simp; omega
        by_cases hk5 : k < 5
        · obtain ⟨x, hxk, _, _, _, ht1⟩ := byte5 k hk5
          have hxl := x.toNat_lt
          have HX := Lib.hid hxk
          have HT := Lib.hid ht1
          have HO := Lib.hid ho
          have HM := Lib.hid hm
          have HL := Lib.hid hl
          have HQ := Lib.hid (fun w => run_remN Tryd.prog 3 x.toNat 32 (by omega) (by omega) w)
          clear hxk ht1 ho hm hl
          generalize x.toNat % 32 = q at *
          go_wp2_with (first
            | ((with_reducible refine wpDst 31 rfl ?_); refine wpList_idxS rfl 9 _ _ rfl Tryd.underlying9 ⟨#[116, 111, 108, 108, 49]⟩ k rfl rfl x HX.out ?_)
            | ((with_reducible refine wpDst 33 rfl ?_); refine wpList_binV (.inl rfl) .rem 3 _ _ rfl (.int .i64 (x.toNat : Int)) (.int .i64 ((32 : Nat) : Int)) rfl rfl rfl (HQ.out _) ?_)
            | ((with_reducible refine wpDst 35 rfl ?_)
               refine wpList_app1 _ rfl (.tmp 28) (.tmp 34) _ _ rfl 3 3 3 i0 _ 1 8 Tryd.underlying59 Tryd.underlying59 hi hz0 hz1 hz2 rfl (by decide) _ _ _ [.int .i64 (q : Int)] rfl HO.out rfl rfl (by simp [Value.oneCell']) (by rw [HL.out]; unfold maxLen; omega) (by rw [HL.out]; omega) ?_
               intro v9 w9 ho9 hm9
               have HO9 := Lib.hid (OwnI.put ho9)
               have HM9 := Lib.hid hm9
               clear ho9 hm9)
            | fail)
          go_roundw
          case rel => exact ⟨k + 1, by omega, by go_num, by rw [HT.out, ← List.append_assoc]; exact HO9.out, HM.out.trans HM9.out⟩
          case measure => simp [intOf]; omega
        · obtain rfl : k = 5 := by omega
          have HO := Lib.hid ho
          clear ho hl
          go_wp2
          go_ret
          exact ⟨_, rfl, HO.out, hm⟩
end Go.Proofs.YtchnjcghbbacoaaDoor

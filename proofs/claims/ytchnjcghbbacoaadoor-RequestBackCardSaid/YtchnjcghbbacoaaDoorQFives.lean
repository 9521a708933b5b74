/- The walk of request's fives. Condition: the bytes' number. -/
import Derived.Test.YtchnjcghbbacoaaDoorQPure
import Derived.Test.YtchnjcghbbacoaaDoorQBits
set_option linter.unusedVariables false
set_option linter.unusedSimpArgs false
set_option linter.unnecessarySimpa false
namespace Go.Proofs.YtchnjcghbbacoaaDoor
open Go.RowKit

abbrev b8 (l : List Nat) : List UInt8 := l.map UInt8.ofNat
theorem conv8 (P : Program) (n : Nat) (hn : n < 256) (src dst : TypeId) (hs : P.underlying src = some (.int .i64)) (hd : P.underlying dst = some (.int .u8)) (w : World) : (convert src dst (.int .i64 (n : Int))).run P w = .ok (.int .u8 (n : Int)) w := by
  have : IntKind.u8.wrap (n : Int) = (n : Int) := by simp [IntKind.wrap, IntKind.bits, IntKind.signed]; omega
  simp [convert, run_underlying hs, run_underlying hd, Conv.intToInt, this]
theorem run_subN (P : Program) (t : TypeId) (a b : Nat) (hb : b ≤ a) (ha : a < 9223372036854775808) (w : World) : (binOp .sub t (.int .i64 (a : Int)) (.int .i64 (b : Int))).run P w = .ok (.int .i64 ((a - b : Nat) : Int)) w := by
  have h : IntKind.i64.wrap ((a : Int) - (b : Int)) = ((a - b : Nat) : Int) := by
    have := wrap64_nat (a - b) (by omega)
    rw [← this]; congr 1; omega
  show (Op.intArith .sub .i64 (a : Int) (b : Int)).run P w = _
  simp [Op.intArith, h]
theorem run_orB (P : Program) (t : TypeId) (n b : Nat) (hb : b < 256) (hn : n < 9007199254740992) (w : World) : (binOp .or t (.int .i64 ((n * 2 ^ 8 : Nat) : Int)) (.int .i64 (b : Int))).run P w = .ok (.int .i64 ((n * 256 + b : Nat) : Int)) w := by
  have h := or_byte n b hb hn
  show Result.ok (Value.int .i64 (bits .or .i64 ((n * 2 ^ 8 : Nat) : Int) (b : Int))) w = _
  rw [h]
theorem run_andM (P : Program) (t : TypeId) (n h : Nat) (hh : h ≤ 62) (hn : n < 9223372036854775808) (w : World) : (binOp .and t (.int .i64 (n : Int)) (.int .i64 ((1 * 2 ^ h - 1 : Nat) : Int))).run P w = .ok (.int .i64 ((n % 2 ^ h : Nat) : Int)) w := by
  have h := and_mask n h hh hn
  show Result.ok (Value.int .i64 (bits .and .i64 (n : Int) ((1 * 2 ^ _ - 1 : Nat) : Int))) w = _
  rw [Nat.one_mul, h]
theorem OwnB.put8 {w : World} {v : Value} {l : List Nat} {n : Nat} (h : Own w 5 1 v ((b8 l).length + 1) (bv (b8 l) ++ [.int .u8 (n : Int)])) (hn : n < 256) : OwnB w v (b8 (l ++ [n])) := by
  have e : b8 (l ++ [n]) = b8 l ++ [UInt8.ofNat n] := by simp [b8]
  rw [e]
  exact OwnB.snoc h (by rw [UInt8.toNat_ofNat']; omega)
set_option maxRecDepth 100000 in
set_option maxHeartbeats 2000000 in
theorem QFives (v : Value) (p : List UInt8) (w : World) (F : Fp) (hp : (Ty.sl .u8).holds w F [v] p) (hF : ∀ b, F b → b < w.heap.size) (hl : p.length ≤ 100000) :
    Calls Tryd.prog 12 #[v] w fun e w' => ∃ v' out, e = .returned v' ∧ Fives (bitsP p) out ∧ OwnB w' v' (b8 out) ∧ Fresh w w' v' := by
  obtain ⟨i0, hi, hz0, hz1, hz2⟩ := info_parts u8_info
  obtain ⟨A, c, xs, hv, hlc, hc, hA, hcell, hall⟩ := hp
  cases hv
  unfold maxLen at hc
  go_enter Tryd.func12, Tryd.ntmps12
  go_wp2
  go_loopw [3, 4, 5, 10] (fun ov hv rv i wr => ∃ (k h r : Nat) (out : List Nat), k ≤ p.length ∧ i = .int .i64 k ∧ hv = .int .i64 h ∧ rv = .int .i64 r ∧ h < 5 ∧ r < 2 ^ h ∧ fl5 out ++ bitsOf h r = bitsP (p.take k) ∧ (∀ x ∈ out, x < 32) ∧ OwnB wr ov (b8 out) ∧ Fresh w wr ov) (fun _ _ _ i _ => p.length - (intOf i).toNat)
  case atStart => exact ⟨0, 0, 0, [], by omega, rfl, rfl, rfl, by omega, by decide, rfl, by simp, Own.nil _ _ _, Moved.refl _ _⟩
  case round =>
    obtain ⟨k, h, r, out, hk, rfl, rfl, rfl, hh, hr, hbits, hsm, ho, hm⟩ := hrel
    by_cases hlt : k < p.length
    · obtain ⟨ad, rfl, hf, hcells⟩ := hcell (by rintro rfl; simp at hlt)
      have hcx := (hcells.keep (hm.ext.block _ (hF _ hf) (by simp))) k _ (AllH.u8_at hall hlt)
      have hb8 := p[k].toNat_lt
      have hrb : r * 2 ^ 8 < 4096 := by
        have : r < 16 := Nat.lt_of_lt_of_le hr (Nat.pow_le_pow_right (by omega) (show h ≤ 4 by omega))
        omega
      have HBITS := Lib.hid hbits
      have HO := Lib.hid ho
      have HM := Lib.hid hm
      have HR := Lib.hid hr
      have HTK := Lib.hid (show p.take (k + 1) = p.take k ++ [p[k]] by rw [List.take_add_one, List.getElem?_eq_getElem hlt]; rfl)
      clear hbits ho hm hr
      generalize hP : p[k] = b at hcx hb8 HTK ⊢
      clear hP
      go_wp2_with (first
        | ((with_reducible refine wpDst 17 rfl ?_); refine wpList_binV (.inl rfl) .shl 3 _ _ rfl (.int .i64 (r : Int)) (.int .u64 ((8 : Nat) : Int)) rfl rfl rfl (run_shlN _ _ _ _ _ r 8 (by decide) (wrap64_nat _ (by omega))) ?_)
        | ((with_reducible refine wpDst 20 rfl ?_); refine wpList_binV (.inl rfl) .or 3 _ _ rfl (.int .i64 ((r * 2 ^ 8 : Nat) : Int)) (.int .i64 (b.toNat : Int)) rfl rfl rfl (run_orB _ _ r b.toNat (by omega) (by omega) _) ?_)
        | fail)
      go_loopw [3, 4, 5] (fun ov hv rv wr => ∃ (h r : Nat) (out : List Nat), hv = .int .i64 h ∧ rv = .int .i64 r ∧ h ≤ 12 ∧ r < 2 ^ h ∧ fl5 out ++ bitsOf h r = bitsP (p.take (k + 1)) ∧ (∀ x ∈ out, x < 32) ∧ OwnB wr ov (b8 out) ∧ Fresh w wr ov) (fun _ hv _ _ => (intOf hv).toNat)
      case atStart => exact ⟨h + 8, r * 256 + b.toNat, out, by go_num, rfl, by omega, by
          have := HR.out
          rw [Nat.pow_add]; omega, by
          rw [HTK.out, bitsP_snoc, ← HBITS.out, List.append_assoc]
          congr 1
          exact bitsOf_join h 8 r b.toNat (by omega), hsm, HO.out, HM.out⟩
      case round =>
        clear HBITS HO HM HR hsm out
        obtain ⟨h2, r2, out, rfl, rfl, hh2, hr2, hbits, hsm, ho, hm⟩ := hrel
        have HB2 := Lib.hid hbits
        have HO2 := Lib.hid ho
        have HM2 := Lib.hid hm
        have HR2 := Lib.hid hr2
        have HS2 := Lib.hid hsm
        have hr4 : r2 < 4096 := Nat.lt_of_lt_of_le hr2 (Nat.pow_le_pow_right (by omega) hh2)
        have HLEN : Hid ((b8 out).length ≤ 1000000) := Lib.hid (by
          have h1 := congrArg List.length hbits
          rw [List.length_append, fl5_length, bitsOf_length, bitsP_length, List.length_take] at h1
          simp only [b8, List.length_map]
          omega)
        clear hbits ho hm hr2 hsm
        by_cases h5 : 5 ≤ h2
        · obtain ⟨h3, rfl⟩ : ∃ h3, h2 = h3 + 5 := ⟨h2 - 5, by omega⟩
          have hp3 : 2 ^ h3 ≤ 2 ^ 7 := Nat.pow_le_pow_right (by omega) (by omega)
          have hp0 : 0 < 2 ^ h3 := Nat.two_pow_pos h3
          have hq : r2 / 2 ^ h3 < 32 := by
            rw [Nat.div_lt_iff_lt_mul hp0]
            have := HR2.out
            rw [Nat.pow_add] at this
            omega
          have hr3 : r2 % 2 ^ h3 < 2 ^ h3 := Nat.mod_lt _ hp0
          have hsub := fun w => run_subN Tryd.prog 3 (h3 + 5) 5 (by omega) (by omega) w
          rw [Nat.add_sub_cancel] at hsub
          have hshr := fun w => run_shrN Tryd.prog w 3 .i64 .i64 r2 h3 (by simp [IntKind.bits]; omega)
          have hshl := fun w => run_shlN Tryd.prog w 3 .i64 .i64 1 h3 (by simp [IntKind.bits]; omega) (wrap64_nat _ (by omega))
          have hsb1 := fun w => run_subN Tryd.prog 3 (1 * 2 ^ h3) 1 (by omega) (by omega) w
          have hand := fun w => run_andM Tryd.prog 3 r2 h3 (by omega) (by omega) w
          have hb5 : bitsOf (h3 + 5) r2 = bitsOf 5 (r2 / 2 ^ h3) ++ bitsOf h3 (r2 % 2 ^ h3) := by rw [bitsOf_mod h3 h3 r2 (Nat.le_refl _), Nat.add_comm, bitsOf_split]
          rw [hb5, ← List.append_assoc, ← fl5_snoc] at HB2
          clear hb5 hp3 hp0 HR2
          have HR3 := Lib.hid hr3
          clear hr3
          generalize r2 / 2 ^ h3 = q at hq hshr HB2
          generalize r2 % 2 ^ h3 = rm at hand HB2 HR3
          generalize 1 * 2 ^ h3 = mm at hshl hsb1 hand
          generalize mm - 1 = mk at hsb1 hand
          have hcv := conv8 Tryd.prog q (by omega) 3 5 Tryd.underlying3 Tryd.underlying5
          have HSUB := Lib.hid hsub
          have HSHR := Lib.hid hshr
          have HSHL := Lib.hid hshl
          have HSB1 := Lib.hid hsb1
          have HAND := Lib.hid hand
          have HQ := Lib.hid hq
          clear hsub hshr hshl hsb1 hand hq
          go_wp2_with (first
            | ((with_reducible refine wpDst 29 rfl ?_); refine wpList_binV (.inl rfl) .sub 3 _ _ rfl (.int .i64 ((h3 + 5 : Nat) : Int)) (.int .i64 ((5 : Nat) : Int)) rfl rfl rfl (HSUB.out _) ?_)
            | ((with_reducible refine wpDst 33 rfl ?_); refine wpList_binV (.inl rfl) .shr 3 _ _ rfl (.int .i64 (r2 : Int)) (.int .i64 (h3 : Int)) rfl rfl rfl (HSHR.out _) ?_)
            | (at_builtin
               refine wpList_app1 _ rfl (.tmp 30) (.tmp 35) _ _ rfl 5 5 5 i0 _ 1 1 Tryd.underlying40 Tryd.underlying40 hi hz0 hz1 hz2 rfl (by decide) _ _ _ [.int .u8 (q : Int)] rfl HO2.out rfl rfl (by simp [Value.oneCell']) (by have := HLEN.out; unfold maxLen; omega) (by have := HLEN.out; omega) ?_
               intro v9 w9 ho9 hm9)
            | ((with_reducible refine wpDst 25 rfl ?_); refine wpList_binV (.inl rfl) .shl 3 _ _ rfl (.int .i64 ((1 : Nat) : Int)) (.int .i64 (h3 : Int)) rfl rfl rfl (HSHL.out _) ?_)
            | ((with_reducible refine wpDst 26 rfl ?_); refine wpList_binV (.inl rfl) .sub 3 _ _ rfl (.int .i64 (mm : Int)) (.int .i64 ((1 : Nat) : Int)) rfl rfl rfl (HSB1.out _) ?_)
            | ((with_reducible refine wpDst 27 rfl ?_); refine wpList_binV (.inl rfl) .and 3 _ _ rfl (.int .i64 (r2 : Int)) (.int .i64 (mk : Int)) rfl rfl rfl (HAND.out _) ?_)
            | fail)
          exact ⟨⟨h3, rm, out ++ [q], rfl, rfl, by omega, HR3.out, HB2.out, fun x hx => by
            rcases List.mem_append.1 hx with hx | hx
            · exact HS2.out x hx
            · obtain rfl : x = q := by simpa using hx
              exact HQ.out, OwnB.put8 ho9 (by have := HQ.out; omega), HM2.out.trans hm9⟩, by simp [intOf]; omega⟩
        · have hr2 := HR2.out
          clear hr4
          go_wp2_with fail
          go_roundw
          case rel => exact ⟨k + 1, h2, r2, out, by omega, by go_num, rfl, rfl, by omega, HR2.out, HB2.out, HS2.out, HO2.out, HM2.out⟩
          case measure => simp [intOf]; omega
    · obtain rfl : k = p.length := by omega
      rw [List.take_length] at hbits
      have HB := Lib.hid hbits
      have HO := Lib.hid ho
      have HM := Lib.hid hm
      have HS := Lib.hid hsm
      have HR := Lib.hid hr
      have HLEN : Hid ((b8 out).length ≤ 1000000) := Lib.hid (by
        have h1 := congrArg List.length hbits
        rw [List.length_append, fl5_length, bitsOf_length, bitsP_length] at h1
        simp only [b8, List.length_map]
        omega)
      clear hbits ho hm hsm hr
      by_cases h0 : h = 0
      · subst h0
        go_wp2_with fail
        go_ret
        have hb := HB.out
        rw [bitsOf, List.append_nil] at hb
        exact ⟨_, out, rfl, ⟨HS.out, 0, by omega, by rw [hb]; simp⟩, HO.out, HM.out⟩
      · obtain ⟨g, hg⟩ : ∃ g, h + g = 5 := ⟨5 - h, by omega⟩
        have hup := bitsOf_up h g r
        have hlt : r * 2 ^ g < 32 := by
          have h1 := HR.out
          have h2 : r * 2 ^ g < 2 ^ h * 2 ^ g := Nat.mul_lt_mul_of_pos_right h1 (Nat.two_pow_pos g)
          rw [← Nat.pow_add, hg] at h2
          exact h2
        have hsub := fun w => run_subN Tryd.prog 3 5 h (by omega) (by omega) w
        rw [show 5 - h = g by omega] at hsub
        have hshl := fun w => run_shlN Tryd.prog w 3 .i64 .i64 r g (by simp [IntKind.bits]; omega) (wrap64_nat _ (by omega))
        rw [hg] at hup
        have hb2 := HB.out
        generalize r * 2 ^ g = q at hup hlt hshl
        have hcv := conv8 Tryd.prog q (by omega) 3 5 Tryd.underlying3 Tryd.underlying5
        have HSUB := Lib.hid hsub
        have HSHL := Lib.hid hshl
        have HUP := Lib.hid hup
        have HQ := Lib.hid hlt
        clear hsub hshl hup hlt hb2
        go_wp2_with (first
          | ((with_reducible refine wpDst 43 rfl ?_); refine wpList_binV (.inl rfl) .sub 3 _ _ rfl (.int .i64 ((5 : Nat) : Int)) (.int .i64 (h : Int)) rfl rfl rfl (HSUB.out _) ?_)
          | ((with_reducible refine wpDst 44 rfl ?_); refine wpList_binV (.inl rfl) .shl 3 _ _ rfl (.int .i64 (r : Int)) (.int .i64 (g : Int)) rfl rfl rfl (HSHL.out _) ?_)
          | (at_builtin
             refine wpList_app1 _ rfl (.tmp 40) (.tmp 46) _ _ rfl 5 5 5 i0 _ 1 1 Tryd.underlying40 Tryd.underlying40 hi hz0 hz1 hz2 rfl (by decide) _ _ _ [.int .u8 (q : Int)] rfl HO.out rfl rfl (by simp [Value.oneCell']) (by have := HLEN.out; unfold maxLen; omega) (by have := HLEN.out; omega) ?_
             intro v9 w9 ho9 hm9)
          | fail)
        go_ret
        exact ⟨v9, out ++ [q], rfl, ⟨fun x hx => by
          rcases List.mem_append.1 hx with hx | hx
          · exact HS.out x hx
          · obtain rfl : x = q := by simpa using hx
            exact HQ.out, g, by omega, by rw [fl5_snoc, HUP.out, ← List.append_assoc, HB.out]⟩, OwnB.put8 ho9 (by have := HQ.out; omega), HM.out.trans hm9⟩
end Go.Proofs.YtchnjcghbbacoaaDoor

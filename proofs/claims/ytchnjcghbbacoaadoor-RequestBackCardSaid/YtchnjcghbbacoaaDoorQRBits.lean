/- The walks of the document's Bits and Fives of layer 25. Conditions: the lists aren't too long; bits are below two. -/
import Derived.Test.YtchnjcghbbacoaaDoorQInts
set_option linter.unusedVariables false
set_option linter.unusedSimpArgs false
set_option linter.unnecessarySimpa false
namespace Go.Proofs.YtchnjcghbbacoaaDoor
open Go.RowKit

set_option maxRecDepth 100000 in
set_option maxHeartbeats 2000000 in
theorem QRBits (v : Value) (p : List UInt8) (w : World) (F : Fp) (hp : (Ty.sl .u8).holds w F [v] p) (hF : ∀ b, F b → b < w.heap.size) (hl : p.length ≤ 1000000) :
    Calls Tryd.prog 22 #[v] w fun e w' => ∃ v', e = .returned v' ∧ OwnI w' v' (bitsP p) ∧ Fresh w w' v' := by
  obtain ⟨i0, hi, hz0, hz1, hz2⟩ := info_parts int_info
  obtain ⟨A, c, xs, hv, hlc, hc, hA, hcell, hall⟩ := hp
  cases hv
  unfold maxLen at hc
  go_enter Tryd.func22, Tryd.ntmps22
  go_wp2
  go_loopw [3, 4] (fun ov i wr => ∃ k : Nat, k ≤ p.length ∧ i = .int .i64 k ∧ OwnI wr ov (bitsP (p.take k)) ∧ Fresh w wr ov) (fun _ i _ => p.length - (intOf i).toNat)
  case atStart => exact ⟨0, by omega, rfl, OwnI.nil _, Moved.refl _ _⟩
  case round =>
    obtain ⟨k, hk, rfl, ho, hm⟩ := hrel
    by_cases hlt : k < p.length
    · obtain ⟨ad, rfl, hf, hcells⟩ := hcell (by rintro rfl; simp at hlt)
      have hx := AllH.u8_at hall hlt
      have hb8 := p[k].toNat_lt
      have HO := Lib.hid ho
      have HM := Lib.hid hm
      have HTK := Lib.hid (show p.take (k + 1) = p.take k ++ [p[k]] by rw [List.take_add_one, List.getElem?_eq_getElem hlt]; rfl)
      clear ho hm
      generalize hP : p[k] = b at hx hb8 HTK ⊢
      clear hP
      obtain ⟨w1, rfl⟩ : ∃ w1, w1 = wr := ⟨_, rfl⟩
      go_wp2
      go_loopw [3, 5] (fun ov kv wr => ∃ j : Nat, j ≤ 8 ∧ kv = .int .i64 ((2 ^ j / 2 : Nat) : Int) ∧ OwnI wr ov (bitsP (p.take k) ++ (bitsOf 8 b.toNat).take (8 - j)) ∧ Fresh w wr ov) (fun _ kv _ => (intOf kv).toNat)
      case atStart => exact ⟨8, by omega, rfl, by simpa using HO.out, HM.out⟩
      case round =>
        clear HO HM
        obtain ⟨j, hj, rfl, ho, hm⟩ := hrel
        have hlen : (bitsP (p.take k) ++ (bitsOf 8 b.toNat).take (8 - j)).length ≤ 8 * k + 8 := by
          rw [List.length_append, bitsP_length, List.length_take, List.length_take]; omega
        have HO := Lib.hid ho
        have HM := Lib.hid hm
        have HLEN := Lib.hid hlen
        clear ho hm hlen
        rcases j with _ | i
        · rw [show 2 ^ 0 / 2 = 0 from rfl]
          go_wp2
          go_roundw
          case rel => exact ⟨k + 1, by omega, by go_num, by
            rw [HTK.out, bitsP_snoc]
            have := HO.out
            rwa [List.take_of_length_le (l := bitsOf 8 b.toNat) (by rw [bitsOf_length]; exact Nat.le_refl _)] at this, HM.out⟩
          case measure => simp [intOf]; omega
        · have hcx := (hcells.keep (HM.out.ext.block _ (hF _ hf) (by simp))) k _ hx
          have hk2 : 2 ^ (i + 1) / 2 = 2 ^ i := by rw [Nat.pow_succ]; omega
          have hbt : (bitsOf 8 b.toNat).take (8 - i) = (bitsOf 8 b.toNat).take (8 - (i + 1)) ++ [b.toNat / 2 ^ i % 2] := by
            have := bitsOf_take 8 b.toNat (8 - (i + 1)) (by omega)
            rwa [show 8 - (i + 1) + 1 = 8 - i by omega, show 8 - 1 - (8 - (i + 1)) = i by omega] at this
          rw [hk2]
          have hK0 : 0 < 2 ^ i := Nat.two_pow_pos i
          have hK1 : 2 ^ i ≤ 128 := Nat.pow_le_pow_right (by omega) (show i ≤ 7 by omega)
          have HBT := Lib.hid hbt
          have HK := Lib.hid (Eq.refl (2 ^ i))
          clear hk2 hbt
          generalize hKe : 2 ^ i = K at hK0 hK1 HBT
          have HKE := Lib.hid hKe
          clear hKe HK
          generalize b.toNat = n at *
          have hq1 := fun w => run_quoN Tryd.prog 3 n K hK0 (by omega) w
          have hn1 : n / K ≤ 255 := Nat.le_trans (Nat.div_le_self _ _) (by omega)
          have hq2 := fun w => run_remN Tryd.prog 3 (n / K) 2 (by omega) (by omega) w
          have hq3 := fun w => run_quoN Tryd.prog 3 K 2 (by omega) (by omega) w
          have HQ1 := Lib.hid hq1
          have HQ2 := Lib.hid hq2
          have HQ3 := Lib.hid hq3
          clear hq1 hq2 hq3
          have hs : n / K % 2 < 2 := Nat.mod_lt _ (by omega)
          generalize n / K = d at *
          generalize d % 2 = s at *
          have HK3 := Lib.hid (show K / 2 < K by omega)
          go_wp2_with (first
            | ((with_reducible refine wpDst 23 rfl ?_); refine wpList_binV (.inl rfl) .quo 3 _ _ rfl (.int .i64 (n : Int)) (.int .i64 (K : Int)) rfl rfl rfl (HQ1.out _) ?_)
            | ((with_reducible refine wpDst 24 rfl ?_); refine wpList_binV (.inl rfl) .rem 3 _ _ rfl (.int .i64 (d : Int)) (.int .i64 ((2 : Nat) : Int)) rfl rfl rfl (HQ2.out _) ?_)
            | ((with_reducible refine wpDst 26 rfl ?_)
               refine wpList_app1 _ rfl (.tmp 16) (.tmp 25) _ _ rfl 3 3 3 i0 _ 1 8 Tryd.underlying59 Tryd.underlying59 hi hz0 hz1 hz2 rfl (by decide) _ _ _ [.int .i64 (s : Int)] rfl HO.out rfl rfl (by simp [Value.oneCell']) (by have := HLEN.out; unfold maxLen; omega) (by have := HLEN.out; omega) ?_
               intro v9 w9 ho9 hm9
               have HO9 := Lib.hid (OwnI.put ho9)
               have HM9 := Lib.hid hm9
               clear ho9 hm9)
            | ((with_reducible refine wpDst 15 rfl ?_); refine wpList_binV (.inl rfl) .quo 3 _ _ rfl (.int .i64 (K : Int)) (.int .i64 ((2 : Nat) : Int)) rfl rfl rfl (HQ3.out _) ?_)
            | fail)
          go_roundw
          case rel => exact ⟨i, by omega, by rw [HKE.out]; congr 1, by rw [HBT.out, ← List.append_assoc]; exact HO9.out, HM.out.trans HM9.out⟩
          case measure => simp [intOf]; exact HK3.out
    · obtain rfl : k = p.length := by omega
      have HO := Lib.hid ho
      clear ho
      go_wp2
      go_ret
      exact ⟨_, rfl, by have := HO.out; rwa [List.take_length] at this, hm⟩
set_option maxRecDepth 100000 in
set_option maxHeartbeats 2000000 in
theorem QRFives (A : Option Addr) (c : Nat) (l : List Nat) (w : World) (hp : Src w A l.length (iv l)) (hb : ∀ x ∈ l, x < 2) (hl : l.length ≤ 10000000) :
    Calls Tryd.prog 21 #[.slice A l.length c] w fun e w' => ∃ v' out, e = .returned v' ∧ Fives l out ∧ OwnI w' v' out ∧ Fresh w w' v' := by
  obtain ⟨i0, hi, hz0, hz1, hz2⟩ := info_parts int_info
  go_enter Tryd.func21, Tryd.ntmps21
  go_wp2
  go_loopw [3, 4] (fun ov i wr => ∃ (q : Nat) (out : List Nat), 5 * q < l.length + 5 ∧ i = .int .i64 ((5 * q : Nat) : Int) ∧ out.length = q ∧ (∀ x ∈ out, x < 32) ∧ fl5 out = padL l (5 * q) ∧ OwnI wr ov out ∧ Fresh w wr ov) (fun _ i _ => l.length + 5 - (intOf i).toNat)
  case atStart => exact ⟨0, [], by omega, rfl, rfl, by simp, rfl, OwnI.nil _, Moved.refl _ _⟩
  case round =>
    obtain ⟨q, out, hq, rfl, hol, hsm, hfl, ho, hm⟩ := hrel
    by_cases hlt : 5 * q < l.length
    · have HO := Lib.hid ho
      have HM := Lib.hid hm
      have HOL := Lib.hid hol
      have HFL := Lib.hid hfl
      have HSM := Lib.hid hsm
      clear ho hm hol hfl hsm
      obtain ⟨w1, rfl⟩ : ∃ w1, w1 = wr := ⟨_, rfl⟩
      generalize hI : 5 * q = I at *
      have HI := Lib.hid hI
      clear hI
      have HSRC := Lib.hid (hp.ext (fun h e => h (by simpa [iv] using congrArg List.length e)) HM.out.ext)
      go_wp2
      go_loopw [5, 6] (fun nv kv wr => ∃ t n : Nat, t ≤ 5 ∧ kv = .int .i64 ((I + t : Nat) : Int) ∧ nv = .int .i64 (n : Int) ∧ n < 2 ^ t ∧ bitsOf t n = (padL l (I + t)).drop I ∧ wr = w1) (fun _ kv _ => I + 5 - (intOf kv).toNat)
      case atStart => exact ⟨0, 0, by omega, rfl, rfl, by omega, by simp [padL, bitsOf], rfl⟩
      case round =>
        obtain ⟨t, n, ht, rfl, rfl, hn, hbn, rfl⟩ := hrel
        have HBN := Lib.hid hbn
        clear hbn
        by_cases ht5 : t < 5
        · have hn32 : n < 32 := Nat.lt_of_lt_of_le hn (Nat.pow_le_pow_right (by omega) (show t ≤ 5 by omega))
          have HN := Lib.hid hn
          clear hn
          by_cases hin : I + t < l.length
          · obtain ⟨x, hx⟩ : ∃ x, l[I + t]? = some x := ⟨_, List.getElem?_eq_getElem hin⟩
            have hx2 := hb x (List.mem_of_getElem? hx)
            obtain ⟨ad, rfl, hcc⟩ := HSRC.out (by omega)
            have hcx := hcc (I + t) _ (iv_at hx)
            have HGD := Lib.hid (show l.getD (I + t) 0 = x by simp [List.getD, hx])
            clear hx
            generalize hK : I + t = K at *
            have HK := Lib.hid hK
            have hK5 : K < I + 5 := by omega
            clear hK hcc
            go_wp2
            go_roundw
            case rel => exact ⟨t + 1, 2 * n + x, by omega, by rw [← Nat.add_assoc, HK.out]; go_num, by go_num, by have := HN.out; rw [Nat.pow_succ]; omega, by
              rw [← Nat.add_assoc, HK.out, padL_succ, HGD.out, List.drop_append_of_le_length (by simp [padL]; have := HK.out; omega), ← HBN.out]
              have := bitsOf_join t 1 n x (by omega)
              rw [show 2 * n + x = n * 2 ^ 1 + x by omega, this]
              simp [bitsOf]; omega, (by first | rfl | trivial)⟩
            case measure => simp [intOf]; omega
          · have HGD := Lib.hid (show l.getD (I + t) 0 = 0 by simp [List.getD, List.getElem?_eq_none (show l.length ≤ I + t by omega)])
            generalize hK : I + t = K at *
            have HK := Lib.hid hK
            have hK5 : K < I + 5 := by omega
            clear hK
            go_wp2
            go_roundw
            case rel => exact ⟨t + 1, 2 * n, by omega, by rw [← Nat.add_assoc, HK.out]; go_num, by go_num, by have := HN.out; rw [Nat.pow_succ]; omega, by
              rw [← Nat.add_assoc, HK.out, padL_succ, HGD.out, List.drop_append_of_le_length (by simp [padL]; have := HK.out; omega), ← HBN.out]
              have := bitsOf_join t 1 n 0 (by omega)
              rw [show 2 * n = n * 2 ^ 1 + 0 by omega, this]
              simp [bitsOf], (by first | rfl | trivial)⟩
            case measure => simp [intOf]; omega
        · obtain rfl : t = 5 := by omega
          have hn32 : n < 32 := hn
          go_wp2_with (first
            | ((with_reducible refine wpDst 35 rfl ?_)
               refine wpList_app1 _ rfl (.tmp 32) (.tmp 34) _ _ rfl 3 3 3 i0 _ 1 8 Tryd.underlying59 Tryd.underlying59 hi hz0 hz1 hz2 rfl (by decide) _ _ _ [.int .i64 (n : Int)] rfl HO.out rfl rfl (by simp [Value.oneCell']) (by have := HOL.out; have := HI.out; unfold maxLen; omega) (by have := HOL.out; have := HI.out; omega) ?_
               intro v9 w9 ho9 hm9
               have HO9 := Lib.hid (OwnI.put ho9)
               have HM9 := Lib.hid hm9
               clear ho9 hm9)
            | fail)
          go_roundw
          case rel => exact ⟨q + 1, out ++ [n], by have := HI.out; omega, by rw [show 5 * (q + 1) = I + 5 by have := HI.out; omega]; go_num, by rw [List.length_append, HOL.out]; rfl, fun x hx => by
            rcases List.mem_append.1 hx with hx | hx
            · exact HSM.out x hx
            · obtain rfl : x = n := by simpa using hx
              exact hn32, by
            rw [fl5_snoc, HFL.out, show 5 * (q + 1) = I + 5 by have := HI.out; omega, HBN.out]
            conv => rhs; rw [← List.take_append_drop I (padL l (I + 5))]
            congr 1
            simp [padL, ← List.map_take, List.take_range], HO9.out, HM.out.trans HM9.out⟩
          case measure => simp [intOf]; omega
    · have hf : Fives l out := ⟨hsm, 5 * q - l.length, by omega, by rw [hfl, padL_full _ _ (by omega)]⟩
      have HF := Lib.hid hf
      have HO := Lib.hid ho
      clear hf ho hfl hol
      go_wp2
      go_ret
      exact ⟨_, out, rfl, HF.out, HO.out, hm⟩
end Go.Proofs.YtchnjcghbbacoaaDoor

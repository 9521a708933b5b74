/- The walks of request's ahead and check. Conditions: the numbers are bytes, the turns lie in their variable. -/
import Derived.Test.YtchnjcghbbacoaaDoorQMix
import Derived.Test.YtchnjcghbbacoaaDoorQZeros
import Derived.Lib.SlBytesConst
set_option linter.unusedVariables false
set_option linter.unusedSimpArgs false
set_option linter.unnecessarySimpa false
namespace Go.Proofs.YtchnjcghbbacoaaDoor
open Go.RowKit

theorem byte5 (k : Nat) (h : k < 5) : ∃ x, headK[k]? = some x ∧ x.toNat / 32 < 32 ∧ bits .and .u8 (x.toNat : Int) 31 = ((x.toNat % 32 : Nat) : Int) ∧
    [3, 3, 3, 3, 1].take (k + 1) = [3, 3, 3, 3, 1].take k ++ [x.toNat / 32] ∧ [20, 15, 12, 12, 17].take (k + 1) = [20, 15, 12, 12, 17].take k ++ [x.toNat % 32] := by
  match k, h with
  | 0, _ => exact ⟨116, rfl, by decide, by decide +kernel, rfl, rfl⟩
  | 1, _ => exact ⟨111, rfl, by decide, by decide +kernel, rfl, rfl⟩
  | 2, _ => exact ⟨108, rfl, by decide, by decide +kernel, rfl, rfl⟩
  | 3, _ => exact ⟨108, rfl, by decide, by decide +kernel, rfl, rfl⟩
  | 4, _ => exact ⟨49, rfl, by decide, by decide +kernel, rfl, rfl⟩
set_option maxRecDepth 100000 in
set_option maxHeartbeats 2000000 in
theorem QAhead (w : World) : Calls Tryd.prog 29 #[] w fun e w' => ∃ v, e = .returned v ∧ OwnB w' v (b8 aheadK) ∧ Fresh w w' v := by
  obtain ⟨i0, hi, hz0, hz1, hz2⟩ := info_parts u8_info
  have kc := fun (w : World) (C : Array Value) (n c : Nat) => Lib.run_convert_bytes_const (P := Tryd.prog) w 40 5 C n c Tryd.underlying40 Tryd.underlying5
  go_enter Tryd.func29, Tryd.ntmps29
  go_wp2_with fail
  have hck : Cells (w.alloc (.cells (bv headK).toArray 5 (5, 6))) ⟨w.heap.size, 0, none⟩ (bv headK) := by have := Cells.of_block (heap_alloc_new w (.cells (bv headK).toArray 5 (5, 6))); simpa using this
  have hx0 : Ext w (w.alloc (.cells (bv headK).toArray 5 (5, 6))) := (Ext.refl w).alloc _
  have hlt0 : w.heap.size < (w.alloc (.cells (bv headK).toArray 5 (5, 6))).heap.size := by simp
  have HC := Lib.hid hck
  have HX := Lib.hid hx0
  have HLT := Lib.hid hlt0
  clear kc hck hx0 hlt0
  simp only [bv, headK, List.map_cons, List.map_nil] at HC HX HLT
  go_loopw [1, 2, 8] (fun hv lv i wr => ∃ k : Nat, k ≤ 5 ∧ i = .int .i64 k ∧ Ext w wr ∧ Cells wr ⟨w.heap.size, 0, none⟩ (bv headK) ∧ w.heap.size < wr.heap.size ∧ OwnB wr hv (b8 (([3, 3, 3, 3, 1] : List Nat).take k)) ∧ OwnB wr lv (b8 (([20, 15, 12, 12, 17] : List Nat).take k)) ∧
    (∀ b, hv.ownBlock = some b → w.heap.size < b) ∧ (∀ b, lv.ownBlock = some b → w.heap.size < b) ∧ Apart hv lv) (fun _ _ i _ => 5 - (intOf i).toNat)
  case atStart => exact ⟨0, by omega, rfl, HX.out, HC.out, HLT.out, Own.nil _ _ _, Own.nil _ _ _, by simp [Value.ownBlock], by simp [Value.ownBlock], Apart.nil _⟩
  case round =>
    clear HC HX HLT
    obtain ⟨k, hk, rfl, hx, hck, hlt, hoh, hol, hbh, hbl, hap⟩ := hrel
    have hl1 : (b8 (([3, 3, 3, 3, 1] : List Nat).take k)).length = k := by simp [b8]; omega
    have hl2 : (b8 (([20, 15, 12, 12, 17] : List Nat).take k)).length = k := by simp [b8]; omega
    by_cases hk5 : k < 5
    · obtain ⟨x, hxk, hx32, hand, ht1, ht2⟩ := byte5 k hk5
      have hcx : wr.cell? ⟨w.heap.size, k, none⟩ = some (.int .u8 (x.toNat : Int)) := by
        have := hck k (.int .u8 (x.toNat : Int)) (by simp [bv, hxk])
        by_cases h0 : k = 0 <;> simpa [Addr.add, h0] using this
      have hxl := x.toNat_lt
      have hshr := fun w => run_shrN Tryd.prog w 5 .u8 .u64 x.toNat 5 (by decide)
      have hd5 : x.toNat / 2 ^ 5 = x.toNat / 32 := rfl
      rw [hd5] at hshr
      have hm32 : x.toNat % 32 < 256 := by omega
      have HT1 := Lib.hid ht1
      have HT2 := Lib.hid ht2
      clear ht1 ht2 hd5 hxk
      generalize x.toNat / 32 = q at hx32 hshr HT1
      generalize x.toNat % 32 = m at hand hm32 HT2
      generalize x.toNat = xn at hcx hshr hand hxl
      have HSH := Lib.hid hshr
      have HOH := Lib.hid hoh
      have HOL := Lib.hid hol
      have HL := Lib.hid (And.intro hl1 hl2)
      have HX := Lib.hid hx
      have HC := Lib.hid hck
      have HBH := Lib.hid hbh
      have HBL := Lib.hid hbl
      have HAP := Lib.hid hap
      clear hshr hoh hol hl1 hl2 hx hck hbh hbl hap
      go_wp2_with (first
        | ((with_reducible refine wpDst 14 rfl ?_); refine wpList_binV (.inl rfl) .shr 5 _ _ rfl (.int .u8 (xn : Int)) (.int .u64 ((5 : Nat) : Int)) rfl rfl rfl (HSH.out _) ?_)
        | ((with_reducible refine wpDst 16 rfl ?_)
           refine wpList_app1 _ rfl (.tmp 12) (.tmp 15) _ _ rfl 5 5 5 i0 _ 1 1 Tryd.underlying40 Tryd.underlying40 hi hz0 hz1 hz2 rfl (by decide) _ _ _ [.int .u8 (q : Int)] rfl HOH.out rfl rfl (by simp [Value.oneCell']) (by rw [HL.out.1]; unfold maxLen; omega) (by rw [HL.out.1]; omega) ?_
           intro v9 w9 ho9 hm9
           have HO9 := Lib.hid (OwnB.put8 ho9 (by omega))
           have HOL9 := Lib.hid (HOL.out.moved hm9 HAP.out)
           have HM9 := Lib.hid hm9
           have HAP9 := Lib.hid (HAP.out.moved hm9 HOL.out.lt)
           clear ho9 hm9)
        | ((with_reducible refine wpDst 21 rfl ?_)
           refine wpList_app1 _ rfl (.tmp 17) (.tmp 20) _ _ rfl 5 5 5 i0 _ 1 1 Tryd.underlying40 Tryd.underlying40 hi hz0 hz1 hz2 rfl (by decide) _ _ _ [.int .u8 (m : Int)] rfl HOL9.out rfl rfl (by simp [Value.oneCell']) (by rw [HL.out.2]; unfold maxLen; omega) (by rw [HL.out.2]; omega) ?_
           intro v8 w8 ho8 hm8)
        | fail)
      have hbn : ∀ (W W' : World) (u u' : Value), w.heap.size < W.heap.size → (∀ b, u.ownBlock = some b → w.heap.size < b) → Moved W W' u u' → ∀ b, u'.ownBlock = some b → w.heap.size < b := fun W W' u u' hW hu hm b e => by
        rcases hm.at_ with e2 | hn
        · exact hu b (e2.symm.trans e)
        · have := hn b e; omega
      have hs9 : w.heap.size < w9.heap.size := Nat.lt_of_lt_of_le hlt HM9.out.grown.size
      refine ⟨⟨k + 1, by omega, by go_num, grown_then (grown_then HX.out HM9.out.grown (.inr (fun b e => by have := HBH.out b e; omega))) hm8.grown (.inr (fun b e => by have := HBL.out b e; omega)),
        (HC.out.keep (HM9.out.grown.block w.heap.size hlt (fun e => by have := HBH.out _ e.symm; omega))).keep (hm8.grown.block w.heap.size hs9 (fun e => by have := HBL.out _ e.symm; omega)), Nat.lt_of_lt_of_le hs9 hm8.grown.size,
        by rw [HT1.out]; exact HO9.out.moved hm8 HAP9.out.symm, by rw [HT2.out]; exact OwnB.put8 ho8 hm32, hbn _ _ _ _ hlt HBH.out HM9.out, hbn _ _ _ _ hs9 HBL.out hm8, (HAP9.out.symm.moved hm8 HO9.out.lt).symm⟩, by simp [intOf]; omega⟩
    · obtain rfl : k = 5 := by omega
      obtain ⟨Al, cl, rfl⟩ := hol.form
      rw [hl2]
      have HOH := Lib.hid hoh
      have HOL := Lib.hid hol
      have HX := Lib.hid hx
      have HBH := Lib.hid hbh
      have HAP := Lib.hid hap
      clear hoh hol hx hck hbh hbl hap
      go_wp2_with (first
        | ((with_reducible refine wpDst 25 rfl ?_)
           refine wpList_app1 _ rfl (.tmp 23) (.tmp 24) _ _ rfl 5 5 5 i0 _ 1 1 Tryd.underlying40 Tryd.underlying40 hi hz0 hz1 hz2 rfl (by decide) _ _ _ [.int .u8 0] rfl HOH.out rfl rfl (by simp [Value.oneCell']) (by rw [hl1]; unfold maxLen; omega) (by rw [hl1]; omega) ?_
           intro v9 w9 ho9 hm9
           have HO9 := Lib.hid (OwnB.put8 (n := 0) ho9 (by omega))
           have HOL9 := Lib.hid (HOL.out.moved hm9 HAP.out)
           have HM9 := Lib.hid hm9
           have HAP9 := Lib.hid (HAP.out.moved hm9 HOL.out.lt)
           clear ho9 hm9)
        | ((with_reducible refine wpDst 27 rfl ?_)
           refine wpList_app _ rfl (.tmp 25) (.tmp 26) _ _ rfl 5 5 i0 _ 1 1 Tryd.underlying40 Tryd.underlying40 hi hz0 hz1 hz2 rfl (by decide) _ _ _ rfl HO9.out _ 5 _ (bv (b8 [20, 15, 12, 12, 17])) rfl rfl HOL9.out.src (bv_one _) (by simp [b8]; unfold maxLen; omega) (by simp [b8]) ?_
           intro v8 w8 ho8 hm8
           have HO8 := Lib.hid (OwnB.app (b := b8 [20, 15, 12, 12, 17]) ho8)
           have HM8 := Lib.hid hm8
           clear ho8 hm8)
        | fail)
      go_ret
      have hm := HM9.out.trans HM8.out
      refine ⟨v8, rfl, HO8.out, ⟨grown_then HX.out hm.grown (.inr (fun b e => by have := HBH.out b e; omega)), .inr (fun b e => ?_)⟩⟩
      rcases hm.at_ with e2 | hn
      · have := HBH.out b (e2.symm.trans e); omega
      · have := hn b e; have := HX.out.size; omega
theorem conv32 (P : Program) (n : Nat) (hn : n < 256) (src dst : TypeId) (hs : P.underlying src = some (.int .u32)) (hd : P.underlying dst = some (.int .u8)) (w : World) : (convert src dst (.int .u32 (n : Int))).run P w = .ok (.int .u8 (n : Int)) w := by
  have : IntKind.u8.wrap (n : Int) = (n : Int) := by simp [IntKind.wrap, IntKind.bits, IntKind.signed]; omega
  simp [convert, run_underlying hs, run_underlying hd, Conv.intToInt, this]
theorem run_mulN (P : Program) (t : TypeId) (a b : Nat) (h : a * b < 9223372036854775808) (w : World) : (binOp .mul t (.int .i64 (a : Int)) (.int .i64 (b : Int))).run P w = .ok (.int .i64 ((a * b : Nat) : Int)) w := by
  have e : IntKind.i64.wrap ((a : Int) * (b : Int)) = ((a * b : Nat) : Int) := by
    have := wrap64_nat (a * b) h
    rw [← this]; congr 1
  show (Op.intArith .mul .i64 (a : Int) (b : Int)).run P w = _
  simp [Op.intArith, e]
theorem six_step (s k : Nat) (h : k < 6) : (sixOf s).take (k + 1) = (sixOf s).take k ++ [s / 2 ^ (5 * (5 - k)) % 32] := by
  unfold sixOf
  rw [← List.map_take, ← List.map_take, List.take_add_one, List.map_append]
  simp [h]
theorem six_len (s : Nat) : (sixOf s).length = 6 := by simp [sixOf]
set_option maxRecDepth 100000 in
set_option maxHeartbeats 2000000 in
theorem QCheck (v : Value) (l : List Nat) (w : World) (F : Fp) (hp : (Ty.sl .u8).holds w F [v] (b8 l)) (hF : ∀ b, F b → b < w.heap.size) (hl : ∀ x ∈ l, x < 256) (hlen : l.length ≤ 10000) (hg : Cells w ⟨0, 0, none⟩ turnsC) :
    Calls Tryd.prog 18 #[v] w fun e w' => ∃ v', e = .returned v' ∧ OwnB w' v' (b8 (checkM l)) ∧ Fresh w w' v' := by
  obtain ⟨i0, hi, hz0, hz1, hz2⟩ := info_parts u8_info
  have hp0 := hp
  obtain ⟨A, c, xs, hv, hlc, hc, _⟩ := hp
  cases hv
  have hbl : (b8 l).length = l.length := by simp [b8]
  have hba : (b8 aheadK).length = 11 := by decide
  rw [hbl] at hp0 hlc ⊢
  have HBA := Lib.hid hba
  have HBL := Lib.hid hbl
  have HP := Lib.hid hp0
  have HG := Lib.hid hg
  have H0 := Lib.hid (show 0 < w.heap.size from hg.lt (by decide))
  unfold maxLen at hc
  clear hp0 hg hbl
  go_enter Tryd.func18, Tryd.ntmps18
  go_wp2_with fail
  refine (QAhead w).mono ?_
  rintro e w1 ⟨v6, rfl, ho6, hm6⟩
  obtain ⟨A6, c6, hv6⟩ := ho6.form
  rw [hba] at hv6
  subst hv6
  have hsrc : Src w1 A l.length (bv (b8 l)) := by
    have h := hm6.ext.holds hF HP.out
    rw [← HBL.out] at h ⊢
    exact src_bytes h
  clear hba
  have HO6 := Lib.hid ho6
  have HM6 := Lib.hid hm6
  have HS := Lib.hid hsrc
  clear ho6 hm6 hsrc
  go_wp2_with (first
    | ((with_reducible refine wpDst 8 rfl ?_)
       refine wpList_app _ rfl (.tmp 6) (.tmp 7) _ _ rfl 5 5 i0 _ 1 1 Tryd.underlying40 Tryd.underlying40 hi hz0 hz1 hz2 rfl (by decide) _ _ _ rfl HO6.out _ l.length _ (bv (b8 l)) rfl (by rw [bv_length, HBL.out, Nat.mul_one]) HS.out (bv_one _) (by rw [HBA.out]; unfold maxLen; omega) (by rw [HBA.out]; omega) ?_
       intro v8 w8 ho8 hm8
       have HM8 := Lib.hid (HM6.out.trans hm8)
       obtain ⟨v9, w9, hr9, ho9, hm9⟩ := run_app_zeros w8 40 3 40 5 i0 .i64 .i64 Tryd.underlying40 Tryd.underlying3 hi hz0 hz1 hz2 v8 _ _ ho8 (by rw [HBA.out]; omega) 6 (by omega) (by rw [HBA.out]; omega)
       have HM9 := Lib.hid (HM8.out.trans hm9)
       have hoo : OwnB w9 v9 (b8 (aheadK ++ l ++ List.replicate 6 0)) := by
         have e1 : bv (b8 (aheadK ++ l ++ List.replicate 6 0)) = bv (b8 aheadK) ++ bv (b8 l) ++ List.replicate 6 (Value.int .u8 0) := by
           simp only [b8, List.map_append, bv_append]
           congr 1
         have e2 : (b8 (aheadK ++ l ++ List.replicate 6 0)).length = (b8 aheadK).length + l.length + 6 := by simp only [b8, List.length_map, List.length_append, List.length_replicate]
         unfold OwnB; rw [e1, e2]; exact ho9
       have HO9 := Lib.hid hoo
       have HR9 := Lib.hid hr9
       clear ho8 hm8 hr9 ho9 hm9 hoo)
    | ((with_reducible refine wpDst 9 rfl ?_)
       refine Lib.wpList_append_run _ rfl _ _ _ _ rfl _ _ rfl rfl v9 w9 HR9.out ?_)
    | fail)
  have hx9 : Ext w w9 := HM9.out.ext
  obtain ⟨A9, c9, rfl⟩ := HO9.out.form
  refine (QMix _ (aheadK ++ l ++ List.replicate 6 0) w9 _ HO9.out.holds (fun x hx => by
    rcases List.mem_append.1 hx with hx | hx
    · rcases List.mem_append.1 hx with hx | hx
      · have : ∀ x ∈ aheadK, x < 256 := by decide
        exact this x hx
      · exact hl x hx
    · rw [List.eq_of_mem_replicate hx]; omega) (HG.out.keep (hx9.block 0 H0.out (by simp)))).mono ?_
  rintro e w10 ⟨rfl, rfl⟩
  have hmx : mixM (aheadK ++ l ++ List.replicate 6 0) < 1073741824 := mixM_lt _ (fun x hx => by
    rcases List.mem_append.1 hx with hx | hx
    · rcases List.mem_append.1 hx with hx | hx
      · have : ∀ x ∈ aheadK, x < 2 ^ 30 := by decide
        exact this x hx
      · have := hl x hx; omega
    · rw [List.eq_of_mem_replicate hx]; omega)
  have hxor := fun w => run_xor32 Tryd.prog 68 (mixM (aheadK ++ l ++ List.replicate 6 0)) 1 (by omega) (by omega) w
  have hs2 : mixM (aheadK ++ l ++ List.replicate 6 0) ^^^ 1 < 1073741824 := Nat.xor_lt_two_pow (n := 30) hmx (by omega)
  have hck : checkM l = sixOf (mixM (aheadK ++ l ++ List.replicate 6 0) ^^^ 1) := rfl
  have HCK := Lib.hid hck
  clear hck HO9 HR9 HM8 HO6 HM6 HS HP
  generalize mixM (aheadK ++ l ++ List.replicate 6 0) ^^^ 1 = s at hxor hs2 HCK
  generalize mixM (aheadK ++ l ++ List.replicate 6 0) = s0 at hxor hmx ⊢
  have HXR := Lib.hid hxor
  have HX := Lib.hid hx9
  clear hxor hx9 HM9
  go_wp2_with (first
    | ((with_reducible refine wpDst 11 rfl ?_); refine wpList_binV (.inl rfl) .xor 68 _ _ rfl (.int .u32 (s0 : Int)) (.int .u32 ((1 : Nat) : Int)) rfl rfl rfl (HXR.out _) ?_)
    | fail)
  go_loopw [4, 12] (fun ov i wr => ∃ k : Nat, k ≤ 6 ∧ i = .int .i64 k ∧ OwnB wr ov (b8 ((sixOf s).take k)) ∧ Fresh w wr ov) (fun _ i _ => 6 - (intOf i).toNat)
  case atStart => exact ⟨0, by omega, rfl, Own.nil _ _ _, (Moved.refl w9 _).pre HX.out⟩
  case round =>
    obtain ⟨k, hk, rfl, ho, hm⟩ := hrel
    have HO := Lib.hid ho
    have HM := Lib.hid hm
    clear ho hm
    by_cases hk6 : k < 6
    · have hst := six_step s k hk6
      have HST := Lib.hid hst
      have HL := Lib.hid (show (b8 ((sixOf s).take k)).length ≤ 6 by simp [b8, six_len]; omega)
      clear hst
      obtain ⟨j, hj⟩ : ∃ j, 5 - k = j := ⟨_, rfl⟩
      have h1 := fun w => run_subN Tryd.prog 3 5 k (by omega) (by omega) w
      rw [hj] at h1 HST
      have h2 := fun w => run_mulN Tryd.prog 3 5 j (by omega) w
      have h3 := fun w => run_shrN Tryd.prog w 68 .u32 .i64 s (5 * j) (by simp [IntKind.bits]; omega)
      have hq : s / 2 ^ (5 * j) < 4294967296 := Nat.lt_of_le_of_lt (Nat.div_le_self _ _) (by omega)
      have h4 := fun w => run_and32 Tryd.prog 68 (s / 2 ^ (5 * j)) 31 hq (by omega) w
      rw [show s / 2 ^ (5 * j) &&& 31 = s / 2 ^ (5 * j) % 32 from Nat.and_two_pow_sub_one_eq_mod _ 5] at h4
      have hr : s / 2 ^ (5 * j) % 32 < 32 := Nat.mod_lt _ (by decide)
      generalize s / 2 ^ (5 * j) % 32 = r at h4 hr HST
      generalize s / 2 ^ (5 * j) = q at h3 h4
      generalize 5 * j = m at h2 h3
      have hcv := conv32 Tryd.prog r (by omega) 68 5 Tryd.underlying68 Tryd.underlying5
      have H1 := Lib.hid h1
      have H2 := Lib.hid h2
      have H3 := Lib.hid h3
      have H4 := Lib.hid h4
      clear h1 h2 h3 h4 hj hq
      go_wp2_with (first
        | ((with_reducible refine wpDst 18 rfl ?_); refine wpList_binV (.inl rfl) .sub 3 _ _ rfl (.int .i64 ((5 : Nat) : Int)) (.int .i64 (k : Int)) rfl rfl rfl (H1.out _) ?_)
        | ((with_reducible refine wpDst 19 rfl ?_); refine wpList_binV (.inl rfl) .mul 3 _ _ rfl (.int .i64 ((5 : Nat) : Int)) (.int .i64 (j : Int)) rfl rfl rfl (H2.out _) ?_)
        | ((with_reducible refine wpDst 20 rfl ?_); refine wpList_binV (.inl rfl) .shr 68 _ _ rfl (.int .u32 (s : Int)) (.int .i64 (m : Int)) rfl rfl rfl (H3.out _) ?_)
        | ((with_reducible refine wpDst 21 rfl ?_); refine wpList_binV (.inl rfl) .and 68 _ _ rfl (.int .u32 (q : Int)) (.int .u32 ((31 : Nat) : Int)) rfl rfl rfl (H4.out _) ?_)
        | ((with_reducible refine wpDst 24 rfl ?_)
           refine wpList_app1 _ rfl (.tmp 15) (.tmp 23) _ _ rfl 5 5 5 i0 _ 1 1 Tryd.underlying40 Tryd.underlying40 hi hz0 hz1 hz2 rfl (by decide) _ _ _ [.int .u8 (r : Int)] rfl HO.out rfl rfl (by simp [Value.oneCell']) (by have := HL.out; unfold maxLen; omega) (by have := HL.out; omega) ?_
           intro v11 w11 ho11 hm11)
        | fail)
      go_roundw
      case rel => exact ⟨k + 1, by omega, by go_num, by rw [HST.out]; exact OwnB.put8 ho11 (by omega), HM.out.trans hm11⟩
      case measure => simp [intOf]; omega
    · obtain rfl : k = 6 := by omega
      go_wp2_with fail
      go_ret
      have ho := HO.out
      rw [show (sixOf s).take 6 = sixOf s from List.take_of_length_le (by rw [six_len]; omega), ← HCK.out] at ho
      exact ⟨_, rfl, ho, HM.out⟩
end Go.Proofs.YtchnjcghbbacoaaDoor

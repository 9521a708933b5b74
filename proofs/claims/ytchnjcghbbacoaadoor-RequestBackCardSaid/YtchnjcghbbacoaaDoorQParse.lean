/- The walk of request's Parse. Conditions: the text's length is in its bounds; the turns lie in their variable. -/
import Derived.Test.YtchnjcghbbacoaaDoorQParseM
import Derived.Test.YtchnjcghbbacoaaDoorQRight
import Derived.Test.YtchnjcghbbacoaaDoorQCheck
import Derived.Test.YtchnjcghbbacoaaDoorQRHead
set_option linter.unusedVariables false
set_option linter.unusedSimpArgs false
set_option linter.unnecessarySimpa false
namespace Go.Proofs.YtchnjcghbbacoaaDoor
open Go.RowKit

theorem szRq {n : Nat} (h : n = 36) : (Tryd.prog.info? 31).map (·.size) = some n := by subst h; kernel_rfl
theorem szHash {n : Nat} (h : n = 32) : (Tryd.prog.info? 29).map (·.size) = some n := by subst h; kernel_rfl
set_option maxRecDepth 100000 in
set_option maxHeartbeats 16000000 in
theorem QParse (T : ByteArray) (w : World) (hT : T.size ≤ maxLen) (hg : Cells w ⟨0, 0, none⟩ turnsC) :
    Calls Tryd.prog 10 #[.string T] w fun e w' => ParseOut T.data.toList w w' e := by
  obtain ⟨i0, hi, hz0, hz1, hz2⟩ := info_parts u8_info
  obtain ⟨fields, hfu, hfp⟩ := rq_fields
  have hzr := zR_zero
  have HBD := Lib.hid zR_built
  have HZO := Lib.hid (rqC_one zR)
  have HZL := Lib.hid (rqC_length zR_ok)
  obtain ⟨ZR, hZR⟩ : ∃ ZR, ZR = rqC zR := ⟨_, rfl⟩
  rw [← hZR] at hzr HBD HZO HZL
  have HZR := Lib.hid hZR
  clear hZR
  have HTL := Lib.hid (show T.data.toList.length = T.size by rw [Array.length_toList]; rfl)
  have HG := Lib.hid hg
  obtain ⟨g2, hg2⟩ : ∃ g2, g2 = w.heap.size := ⟨_, rfl⟩
  have HBK := Lib.hid (show Blk (w.alloc (.cells ZR.toArray 31)) g2 31 ZR by rw [hg2]; exact Blk.new _ _ _)
  have HX := Lib.hid (show Ext w (w.alloc (.cells ZR.toArray 31)) from (Ext.refl w).alloc _)
  have HG2 := Lib.hid (show w.heap.size ≤ g2 by omega)
  have HGE := Lib.hid hg2
  clear hg
  obtain ⟨W0, hW0⟩ : ∃ W0, W0 = w.alloc (.cells ZR.toArray 31) := ⟨_, rfl⟩
  rw [← hW0] at HBK HX
  have HW0 := Lib.hid hW0
  clear hW0 hg2
  obtain ⟨S, pf, hS, hpf, HCP⟩ : ∃ (S : ByteArray) (pf : Bool), S.data.toList = Lib.trimPrefix T.data.toList headK ∧ pf = Lib.hasPrefix T.data.toList headK ∧ Hid (∀ W, Calls Tryd.prog 26 #[.string T, .string ⟨#[116, 111, 108, 108, 49]⟩] W fun e w' => e = .returned (.tuple #[.string S, .bool pf]) ∧ w' = W) :=
    ⟨⟨(Lib.trimPrefix T.data.toList headK).toArray⟩, _, by simp, rfl, Lib.hid (fun W => Sh_strings_CutPrefix T ⟨#[116, 111, 108, 108, 49]⟩ W)⟩
  go_enter Tryd.func10, Tryd.ntmps10
  by_cases h4 : 4096 < T.size
  · clear hS hpf
    go_wp2_with (first
      | ((with_reducible refine wpDst 2 rfl ?_); refine wpList_alloc _ rfl 31 rfl _ hzr ?_; rw [← HW0.out, ← HGE.out])
      | ((with_reducible refine wpDst 16 rfl ?_); go_must (refine wpList_build (.inl rfl) 31 #[] rfl (.agg ZR.toArray) (exec_build0Q _ _ rfl HBD.out) ?_))
      | ((with_reducible refine wpSto 2 16 rfl ?_); refine wpList_store_row _ rfl 31 (.tmp 2) (.tmp 16) rfl g2 rfl ZR ZR 31 rfl (by exact HBK.out) (szRq HZL.out) rfl HZO.out ?_)
      | fail)
    have hc9 := Blk.cells (t := 31) (setRow_at (cs' := ZR.toArray) HBK.out)
    (try simp only [Exit.inBlock, Exit.then])
    refine bodyPost_ret (results_agg_tmp rfl _ _ _ _ _ rfl Tryd.underlying31 rfl (szRq HZL.out) hc9) rfl ?_
    exact ⟨zR, 8, by rw [← HZR.out]; rfl, .limit (by rw [HTL.out]; exact h4), zR_ok, setRow_grownQ HX.out _ _ HG2.out⟩
  have h4' : T.data.toList.length ≤ 4096 := by rw [HTL.out]; omega
  have H4 := Lib.hid h4'
  clear h4'
  rcases Bool.eq_false_or_eq_true pf with hp | hp
  case inr =>
    subst hp
    have HPF := Lib.hid hpf
    clear hS hpf
    go_wp2_with (first
      | ((with_reducible refine wpDst 2 rfl ?_); refine wpList_alloc _ rfl 31 rfl _ hzr ?_; rw [← HW0.out, ← HGE.out])
      | ((with_reducible refine wpDst 24 rfl ?_); go_must (refine wpList_build (.inl rfl) 31 #[] rfl (.agg ZR.toArray) (exec_build0Q _ _ rfl HBD.out) ?_))
      | ((with_reducible refine wpSto 2 24 rfl ?_); refine wpList_store_row _ rfl 31 (.tmp 2) (.tmp 24) rfl g2 rfl ZR ZR 31 rfl (by exact HBK.out) (szRq HZL.out) rfl HZO.out ?_)
      | (go_at_call 26; refine (HCP.out _).mono ?_; rintro e w1 ⟨rfl, hw1⟩; subst w1)
      | fail)
    have hc9 := Blk.cells (t := 31) (setRow_at (cs' := ZR.toArray) HBK.out)
    (try simp only [Exit.inBlock, Exit.then])
    refine bodyPost_ret (results_agg_tmp rfl _ _ _ _ _ rfl Tryd.underlying31 rfl (szRq HZL.out) hc9) rfl ?_
    exact ⟨zR, 40, by rw [← HZR.out]; rfl, .word H4.out HPF.out.symm, zR_ok, setRow_grownQ HX.out _ _ HG2.out⟩
  subst hp
  obtain ⟨body, hbd⟩ : ∃ body, T.data.toList = headK ++ body := by
    have := hpf.symm
    unfold Lib.hasPrefix at this
    obtain ⟨s, hs⟩ := List.isPrefixOf_iff_prefix.1 this
    exact ⟨s, hs.symm⟩
  have hSb : S.data.toList = body := by
    rw [hS, Lib.trimPrefix, ← hpf, if_pos rfl, hbd, List.drop_left' rfl]
  have hSl : S.size = body.length := by rw [← hSb, Array.length_toList]; rfl
  have hbl : body.length ≤ 4091 := by
    have := H4.out
    rw [hbd, List.length_append, show headK.length = 5 from rfl] at this
    omega
  have HBY := Lib.hid hbd
  have HSB := Lib.hid hSb
  have HSL := Lib.hid hSl
  have HBL := Lib.hid hbl
  clear hS hpf hbd hSb hSl hbl
  have hSb2 : S.size ≤ 4091 := by have := HSL.out; have := HBL.out; omega
  go_wp2_with (first
    | ((with_reducible refine wpDst 2 rfl ?_); refine wpList_alloc _ rfl 31 rfl _ hzr ?_; rw [← HW0.out, ← HGE.out])
    | (go_at_call 26; refine (HCP.out _).mono ?_; rintro e w1 ⟨rfl, hw1⟩; subst w1)
    | fail)
  go_loopw [6, 27] (fun lv i wr => ∃ (k : Nat) (l : List Nat), k ≤ S.size ∧ i = .int .i64 k ∧ l.map letter = body.take k ∧ (∀ x ∈ l, x < 32) ∧ OwnB wr lv (b8 l) ∧ Fresh W0 wr lv) (fun _ i _ => S.size - (intOf i).toNat)
  case atStart => exact ⟨0, [], by omega, rfl, rfl, by simp, Own.nil _ _ _, Moved.refl _ _⟩
  case round =>
    obtain ⟨k, l, hk, rfl, hlm, hsm, hol, hfl⟩ := hrel
    have HX0 := HX
    have HBK0 := HBK
    have HX := Lib.hid (HX0.out.trans (Fresh.ext hfl))
    have HBK := Lib.hid (HBK0.out.keep (Fresh.ext hfl) (by simp))
    have HLM := Lib.hid hlm
    have HSM := Lib.hid hsm
    have HOL := Lib.hid hol
    have HFL := Lib.hid hfl
    have HLL := Lib.hid (show l.length = k by
      have h1 := congrArg List.length hlm
      rw [List.length_map, List.length_take] at h1
      have := HSL.out
      omega)
    have HBL8 := Lib.hid (show (b8 l).length = l.length by simp [b8])
    clear hlm hsm hol hfl
    by_cases hkn : k < S.size
    · obtain ⟨b, hb⟩ : ∃ b, body[k]? = some b := ⟨_, List.getElem?_eq_getElem (by have := HSL.out; omega)⟩
      have HIB := Lib.hid (show S.data.toList[k]? = some b by rw [HSB.out]; exact hb)
      have HTK := Lib.hid (show body.take (k + 1) = body.take k ++ [b] by rw [List.take_add_one, hb]; rfl)
      have HMB := Lib.hid (List.mem_of_getElem? hb)
      have hib : ∀ W, Calls Tryd.prog 27 #[.string ⟨#[113, 112, 122, 114, 121, 57, 120, 56, 103, 102, 50, 116, 118, 100, 119, 48, 115, 51, 106, 110, 53, 52, 107, 104, 99, 101, 54, 109, 117, 97, 55, 108]⟩, .int .u8 (b.toNat : Int)] W fun e w' => e = .returned (.int .i64 (Lib.indexByte lettersK b)) ∧ w' = W := fun W => by
        have h := Sh_strings_IndexByte ⟨#[113, 112, 122, 114, 121, 57, 120, 56, 103, 102, 50, 116, 118, 100, 119, 48, 115, 51, 106, 110, 53, 52, 107, 104, 99, 101, 54, 109, 117, 97, 55, 108]⟩ (b.toNat : Int) W
        rw [show ((b.toNat : Int)).toNat.toUInt8 = b by simp] at h
        exact h
      clear hb
      rcases letter_found b with hneg | ⟨x, hx32, hix, hlx⟩
      · have HNG := Lib.hid hneg
        generalize Lib.indexByte lettersK b = n at hib hneg
        have HIX := Lib.hid hib
        clear hib
        go_wp2_with (first
          | ((with_reducible refine wpDst 2 rfl ?_); refine wpList_alloc _ rfl 31 rfl _ hzr ?_; rw [← HW0.out, ← HGE.out])
          | ((with_reducible refine wpDst 36 rfl ?_); go_must (refine wpList_build (.inl rfl) 31 #[] rfl (.agg ZR.toArray) (exec_build0Q _ _ rfl HBD.out) ?_))
          | ((with_reducible refine wpSto 2 36 rfl ?_); refine wpList_store_row _ rfl 31 (.tmp 2) (.tmp 36) rfl g2 rfl ZR ZR 31 rfl (by exact HBK.out) (szRq HZL.out) rfl HZO.out ?_)
          | ((with_reducible refine wpDst 32 rfl ?_); refine wpList_idxS rfl 9 _ _ rfl Tryd.underlying9 S k rfl rfl b HIB.out ?_)
          | (go_at_call 27; refine (HIX.out _).mono ?_; rintro e w1 ⟨rfl, hw1⟩; subst w1)
          | fail)
        have hc9 := Blk.cells (t := 31) (setRow_at (cs' := ZR.toArray) HBK.out)
        (try simp only [Exit.inBlock, Exit.then])
        refine bodyPost_ret (results_agg_tmp rfl _ _ _ _ _ rfl Tryd.underlying31 rfl (szRq HZL.out) hc9) rfl ?_
        exact ⟨zR, 10, by rw [← HZR.out]; rfl, .form body b H4.out HBY.out HMB.out HNG.out, zR_ok, setRow_grownQ HX.out _ _ HG2.out⟩
      · rw [hix] at hib
        have HIX := Lib.hid hib
        have HLX := Lib.hid hlx
        clear hib hix hlx
        have hcv := conv8 Tryd.prog x (by omega) 3 5 Tryd.underlying3 Tryd.underlying5
        go_wp2_with (first
          | ((with_reducible refine wpDst 32 rfl ?_); refine wpList_idxS rfl 9 _ _ rfl Tryd.underlying9 S k rfl rfl b HIB.out ?_)
          | (go_at_call 27; refine (HIX.out _).mono ?_; rintro e w1 ⟨rfl, hw1⟩; subst w1)
          | ((with_reducible refine wpDst 41 rfl ?_)
             refine wpList_app1 _ rfl (.tmp 37) (.tmp 40) _ _ rfl 5 5 5 i0 _ 1 1 Tryd.underlying40 Tryd.underlying40 hi hz0 hz1 hz2 rfl (by decide) _ _ _ [.int .u8 (x : Int)] rfl HOL.out rfl rfl (by simp [Value.oneCell']) (by rw [HBL8.out, HLL.out]; have := HSL.out; have := HBL.out; unfold maxLen; omega) (by rw [HBL8.out, HLL.out]; have := HSL.out; have := HBL.out; omega) ?_
             intro v9 w9 ho9 hm9
             have HO9 := Lib.hid (OwnB.put8 ho9 (by omega))
             have HM9 := Lib.hid hm9
             clear ho9 hm9)
          | fail)
        go_roundw
        case rel => exact ⟨k + 1, l ++ [x], by omega, by go_num, by rw [List.map_append, HLM.out, HTK.out, ← HLX.out]; rfl, fun y hy => by
          rcases List.mem_append.1 hy with hy | hy
          · exact HSM.out y hy
          · obtain rfl : y = x := by simpa using hy
            exact hx32, HO9.out, HFL.out.trans HM9.out⟩
        case measure => simp [intOf]; omega
    · obtain rfl : k = S.size := by omega
      have hlm := HLM.out
      rw [List.take_of_length_le (by rw [HSL.out]; exact Nat.le_refl _)] at hlm
      have HBY2 := Lib.hid (show T.data.toList = headK ++ l.map letter by rw [hlm]; exact HBY.out)
      have hol := HOL.out
      have hfl := HFL.out
      obtain ⟨A, c, rfl⟩ := OwnB.form hol
      rw [HBL8.out] at hol hfl
      have hll4 : l.length ≤ 4091 := by rw [HLL.out]; exact hSb2
      have HHT := Lib.hid (show ∀ m, m ≤ l.length → (Ty.sl .u8).holds wr (fun b => (Value.slice A l.length c).ownBlock = some b) [.slice A m c] (b8 (l.take m)) from fun m hm => by
        have h := OwnB.holds_take (m := m) HOL.out (by rw [HBL8.out]; exact hm)
        rw [show (b8 l).take m = b8 (l.take m) by simp [b8, List.map_take], HBL8.out] at h
        exact h)
      have HSRC := Lib.hid (show Src wr A l.length (bv (b8 l)) by have := OwnB.src HOL.out; rwa [HBL8.out] at this)
      rw [HBL8.out]
      have HOL := Lib.hid hol
      have HFL := Lib.hid hfl
      clear hlm hol hfl HLM
      by_cases hl6 : l.length < 6
      · have HL6 := Lib.hid hl6
        go_wp2_with (first
          | ((with_reducible refine wpDst 2 rfl ?_); refine wpList_alloc _ rfl 31 rfl _ hzr ?_; rw [← HW0.out, ← HGE.out])
          | ((with_reducible refine wpDst 46 rfl ?_); go_must (refine wpList_build (.inl rfl) 31 #[] rfl (.agg ZR.toArray) (exec_build0Q _ _ rfl HBD.out) ?_))
          | ((with_reducible refine wpSto 2 46 rfl ?_); refine wpList_store_row _ rfl 31 (.tmp 2) (.tmp 46) rfl g2 rfl ZR ZR 31 rfl (by exact HBK.out) (szRq HZL.out) rfl HZO.out ?_)
          | fail)
        have hc9 := Blk.cells (t := 31) (setRow_at (cs' := ZR.toArray) HBK.out)
        (try simp only [Exit.inBlock, Exit.then])
        refine bodyPost_ret (results_agg_tmp rfl _ _ _ _ _ rfl Tryd.underlying31 rfl (szRq HZL.out) hc9) rfl ?_
        exact ⟨zR, 9, by rw [← HZR.out]; rfl, .short l H4.out HBY2.out HSM.out HL6.out, zR_ok, setRow_grownQ HX.out _ _ HG2.out⟩
      · obtain ⟨m, hm⟩ : ∃ m, l.length = m + 6 := ⟨l.length - 6, by omega⟩
        have HLM := Lib.hid hm
        have HTT := Lib.hid (HHT.out m (by omega))
        have hcap : l.length ≤ c := by
          obtain ⟨A', c', xs', hv, h1, _⟩ := HHT.out l.length (Nat.le_refl _)
          rw [List.take_length, HBL8.out] at hv h1
          cases hv
          exact h1
        rw [hm] at HSRC HOL HFL HTT hll4 hcap ⊢
        clear hl6 hm HHT
        have HWS := Lib.hid (Nat.le_trans HX0.out.size (Fresh.ext HFL.out).size)
        have HGL := Lib.hid (show g2 < wr.heap.size from HBK.out.lt)
        have hlt := OwnB.lt HOL.out
        have HLT := Lib.hid hlt
        have HL11 := Lib.hid (show (b8 aheadK).length = 11 from rfl)
        clear hlt
        go_wp2_with fail
        refine (QAhead wr).mono ?_
        rintro e w1 ⟨v47, rfl, ho47, hf47⟩
        have HO47 := Lib.hid ho47
        have HF47 := Lib.hid hf47
        have HSR1 := Lib.hid (Src.ext HSRC.out (fun h e => h (by have := congrArg List.length e; rw [bv_length, HBL8.out, HLM.out] at this; simpa using this)) (Fresh.ext hf47))
        clear ho47 hf47
        go_wp2_with (first
          | ((with_reducible refine wpDst 49 rfl ?_)
             refine wpList_app _ rfl (.tmp 47) (.tmp 48) _ _ rfl 5 5 i0 _ 1 1 Tryd.underlying40 Tryd.underlying40 hi hz0 hz1 hz2 rfl (by decide) v47 _ _ rfl HO47.out _ (m + 6) _ (bv (b8 l)) rfl (by rw [bv_length, HBL8.out, HLM.out, Nat.mul_one]) HSR1.out (bv_one _) (by rw [HL11.out]; unfold maxLen; omega) (by rw [HL11.out]; omega) ?_
             intro v49 w2 ho49 hm49
             have HO49 := Lib.hid (show OwnB w2 v49 (b8 (aheadK ++ l)) by
               have h := OwnB.app (a := b8 aheadK) (b := b8 l) (by rw [HBL8.out, HLM.out]; exact ho49)
               simpa [b8] using h)
             have HM49 := Lib.hid hm49
             clear ho49 hm49)
          | fail)
        have hn47 : ∀ g, v47.ownBlock = some g → wr.heap.size ≤ g := Fresh.new HF47.out
        have hx2 : Ext w w2 := grown_then (HX.out.trans (Fresh.ext HF47.out)) HM49.out.grown (.inr fun g e => Nat.le_trans HWS.out (hn47 g e))
        have hb2 : Blk w2 g2 31 ZR := (HBK.out.keep (Fresh.ext HF47.out) (by simp)).keep HM49.out.grown (fun e => by have := hn47 g2 e.symm; have := HGL.out; omega)
        have htt : (Ty.sl .u8).holds w2 (fun b => (Value.slice A (m + 6) c).ownBlock = some b) [.slice A m c] (b8 (l.take m)) := by
          refine Ty.keep (fun b hb => ?_) (fun _ h => h) (.sl .u8) HTT.out
          have hbl := HLT.out b hb
          exact (HM49.out.grown.block b (Nat.lt_of_lt_of_le hbl (Fresh.ext HF47.out).size) (fun e => by have := hn47 b e.symm; omega)).trans ((Fresh.ext HF47.out).block b hbl (by simp))
        have hlt2 : ∀ b, (Value.slice A (m + 6) c).ownBlock = some b → b < w2.heap.size := fun b hb => Nat.lt_of_lt_of_le (Nat.lt_of_lt_of_le (HLT.out b hb) (Fresh.ext HF47.out).size) HM49.out.grown.size
        have hg2 : Cells w2 ⟨0, 0, none⟩ turnsC := HG.out.keep (hx2.block 0 (HG.out.lt (by decide)) (by simp))
        have HX := Lib.hid hx2
        have HBK := Lib.hid hb2
        have HTT := Lib.hid htt
        have HLT2 := Lib.hid hlt2
        have HG3 := Lib.hid hg2
        clear hn47 hx2 hb2 htt hlt2 hg2 HM49 HF47 HLT HSR1 HSRC HOL HFL HWS HGL HX0 HBK0
        refine (QMix v49 (aheadK ++ l) w2 _ (OwnB.holds HO49.out) (fun x hx => by
          rcases List.mem_append.1 hx with hx | hx
          · have : ∀ x ∈ aheadK, x < 256 := by decide
            exact this x hx
          · have := HSM.out x hx; omega) HG3.out).mono ?_
        rintro e w3 ⟨rfl, hw3⟩
        subst w3
        by_cases hmx : mixM (aheadK ++ l) = 1
        case neg =>
          have HMX := Lib.hid hmx
          generalize mixM (aheadK ++ l) = M at hmx ⊢
          go_wp2_with (first
            | ((with_reducible refine wpDst 2 rfl ?_); refine wpList_alloc _ rfl 31 rfl _ hzr ?_; rw [← HW0.out, ← HGE.out])
            | ((with_reducible refine wpDst 52 rfl ?_); go_must (refine wpList_build (.inl rfl) 31 #[] rfl (.agg ZR.toArray) (exec_build0Q _ _ rfl HBD.out) ?_))
            | ((with_reducible refine wpSto 2 52 rfl ?_); refine wpList_store_row _ rfl 31 (.tmp 2) (.tmp 52) rfl g2 rfl ZR ZR 31 rfl (by exact HBK.out) (szRq HZL.out) rfl HZO.out ?_)
            | fail)
          have hc9 := Blk.cells (t := 31) (setRow_at (cs' := ZR.toArray) HBK.out)
          (try simp only [Exit.inBlock, Exit.then])
          refine bodyPost_ret (results_agg_tmp rfl _ _ _ _ _ rfl Tryd.underlying31 rfl (szRq HZL.out) hc9) rfl ?_
          exact ⟨zR, 20, by rw [← HZR.out]; rfl, .sign l H4.out HBY2.out HSM.out (by have := HLM.out; omega) HMX.out, zR_ok, setRow_grownQ HX.out _ _ HG2.out⟩
        have HMX := Lib.hid hmx
        rw [hmx]
        clear hmx
        go_wp2_with fail
        refine (QEights (.slice A m c) (l.take m) w2 _ HTT.out HLT2.out (fun x hx => HSM.out x (List.mem_of_mem_take hx)) (by rw [List.length_take]; omega)).mono ?_
        rintro e w4 ⟨v9, p, ok, rfl, hei, ho9, hf9⟩
        have HPL := Lib.hid (show p.length ≤ 100000 by
          obtain ⟨h, r, _, _, hb, _⟩ := hei.bits
          have h1 := congrArg List.length hb
          rw [List.length_append, bitsP_length, bitsOf_length, fl5_length, List.length_take] at h1
          omega)
        rw [show m = l.length - 6 by have := HLM.out; omega] at hei
        have HEI := Lib.hid hei
        have HX := Lib.hid (HX.out.trans (Fresh.ext hf9))
        have HBK := Lib.hid (HBK.out.keep (Fresh.ext hf9) (by simp))
        have HO9 := Lib.hid ho9
        clear hei ho9 hf9
        rcases Bool.eq_false_or_eq_true ok with hok | hok
        case inr =>
          subst hok
          go_wp2_with (first
            | ((with_reducible refine wpDst 2 rfl ?_); refine wpList_alloc _ rfl 31 rfl _ hzr ?_; rw [← HW0.out, ← HGE.out])
            | ((with_reducible refine wpDst 64 rfl ?_); go_must (refine wpList_build (.inl rfl) 31 #[] rfl (.agg ZR.toArray) (exec_build0Q _ _ rfl HBD.out) ?_))
            | ((with_reducible refine wpSto 2 64 rfl ?_); refine wpList_store_row _ rfl 31 (.tmp 2) (.tmp 64) rfl g2 rfl ZR ZR 31 rfl (by exact HBK.out) (szRq HZL.out) rfl HZO.out ?_)
            | fail)
          have hc9 := Blk.cells (t := 31) (setRow_at (cs' := ZR.toArray) HBK.out)
          (try simp only [Exit.inBlock, Exit.then])
          refine bodyPost_ret (results_agg_tmp rfl _ _ _ _ _ rfl Tryd.underlying31 rfl (szRq HZL.out) hc9) rfl ?_
          exact ⟨zR, 10, by rw [← HZR.out]; rfl, .odd l p H4.out HBY2.out HSM.out (by have := HLM.out; omega) HMX.out HEI.out, zR_ok, setRow_grownQ HX.out _ _ HG2.out⟩
        subst hok
        have HREAD := Lib.hid (show Parsed T.data.toList (readM p).1 (readM p).2 from .tail l p H4.out HBY2.out HSM.out (by have := HLM.out; omega) HMX.out HEI.out)
        have HGB := Lib.hid (show g2 < w4.heap.size from HBK.out.lt)
        have HG2' := Lib.hid HX.out.size
        clear HTT HLT2 HO49 HG3 HMX HEI HBY2 H4 HLM HLL HSM HBL8 HBL HSL HSB HBY hcap hll4
        go_wp2_with fail
        refine (In_Of v9 p w4 _ (OwnB.holds HO9.out) (by have := HPL.out; omega)).mono ?_
        rintro e w5 ⟨g, q, rfl, hin, hx5, hgg, hgq⟩
        have HX := Lib.hid (HX.out.trans hx5)
        have HBK := Lib.hid (HBK.out.keep hx5 (by simp))
        have HIN := Lib.hid hin
        have HGG := Lib.hid (show g2 ≠ g ∧ w.heap.size ≤ g from ⟨by have := HGB.out; omega, by have := HG2'.out; omega⟩)
        clear hin hx5 hgg hgq HO9
        go_wp2_with fail
        refine (In_One g q _ w5 HIN.out).mono ?_
        rintro e w6 ⟨rfl, hi6, hg6⟩
        have HX := Lib.hid (grown_then HX.out hg6 (.inr (by rintro _ ⟨⟩; exact HGG.out.2)))
        have HBK := Lib.hid (HBK.out.keep hg6 (by simpa using HGG.out.1))
        have HIN := Lib.hid hi6
        clear hi6 hg6
        have ha1 : (numM 1 (p, 0)).1 < 256 := numM_lt 1 _
        have HRR := Lib.hid (show rrM p = ((UInt8.ofNat (numM 1 (p, 0)).1, (numM 8 (numM 1 (p, 0)).2).1, (numM 8 (numM 8 (numM 1 (p, 0)).2).2).1, (sumM (numM 8 (numM 8 (numM 1 (p, 0)).2).2).2).1, ⟨(blobM 100 (sumM (numM 8 (numM 8 (numM 1 (p, 0)).2).2).2).2).1.toArray⟩), (endM (blobM 100 (sumM (numM 8 (numM 8 (numM 1 (p, 0)).2).2).2).2).2).2) from rfl)
        have HAO := Lib.hid (show (((numM 1 (p, 0)).1 : Nat) : Int) = ((UInt8.ofNat (numM 1 (p, 0)).1).toNat : Int) by rw [UInt8.toNat_ofNat_of_lt' ha1])
        have HROK := Lib.hid (rrM_ok p)
        have HRM := Lib.hid (show readM p = if (rrM p).2 ≠ 0 then (zR, (rrM p).2) else if rightR (rrM p).1 = false then (zR, 1) else ((rrM p).1, 0) from rfl)
        generalize hS1 : (numM 1 (p, 0)).2 = s1 at *
        generalize hA1 : UInt8.ofNat (numM 1 (p, 0)).1 = a1 at *
        generalize hN1 : (numM 1 (p, 0)).1 = n1 at *
        clear hS1 hA1 hN1 ha1
        go_wp2_with fail
        refine (In_Eight g q s1 w6 HIN.out).mono ?_
        rintro e w7 ⟨rfl, hi7, hg7⟩
        have HX := Lib.hid (grown_then HX.out hg7 (.inr (by rintro _ ⟨⟩; exact HGG.out.2)))
        have HBK := Lib.hid (HBK.out.keep hg7 (by simpa using HGG.out.1))
        have HIN := Lib.hid hi7
        have HG7 := Lib.hid (show g < w7.heap.size from hi7.lt)
        have HQ7 := Lib.hid (show q < w7.heap.size from hi7.2.1)
        clear hi7 hg7
        generalize hS2 : (numM 8 s1).2 = s2 at *
        generalize hN2 : (numM 8 s1).1 = n2 at *
        clear hS2 hN2
        have HC0 := Lib.hid (show fillL ([(0, 1), (1, 1), (2, 1), (3, 32), (35, 1)].toArray[·]?) (rqC zR) [(0, [Value.int .u8 (n1 : Int)]), (1, [Value.int .u64 (n2 : Int)])] = some (rqC (a1, n2, 0, List.replicate 32 0, ⟨#[]⟩)) by rw [HAO.out]; rfl)
        rw [← HZR.out] at HC0
        have HCL := Lib.hid (show (rqC (a1, n2, 0, List.replicate 32 0, ⟨#[]⟩)).length = 36 from rfl)
        have HCO := Lib.hid (rqC_one (a1, n2, 0, List.replicate 32 0, ⟨#[]⟩))
        have HT7 := Lib.hid (show TailAt w (w7.alloc (.cells (rqC (a1, n2, 0, List.replicate 32 0, ⟨#[]⟩)).toArray 31)) g2 g q w7.heap.size ZR (rqC (a1, n2, 0, List.replicate 32 0, ⟨#[]⟩)) s2 from
          ⟨Ext.alloc HX.out _, HBK.out.keep ((Ext.refl w7).alloc _) (by simp), HIN.out.ext ((Ext.refl w7).alloc _), Blk.new _ _ _, HGG.out.1, by have := HBK.out.lt; omega, by have := HG7.out; omega, by have := HQ7.out; omega, HG2.out, HGG.out.2, HX.out.size⟩)
        obtain ⟨C0, hC0⟩ : ∃ C0, C0 = rqC (a1, n2, 0, List.replicate 32 0, ⟨#[]⟩) := ⟨_, rfl⟩
        rw [← hC0] at HC0 HCL HCO HT7
        have HCE := Lib.hid hC0
        clear hC0
        obtain ⟨W8, hW8⟩ : ∃ W8, W8 = w7.alloc (.cells C0.toArray 31) := ⟨_, rfl⟩
        obtain ⟨gr, hgr⟩ : ∃ gr, gr = w7.heap.size := ⟨_, rfl⟩
        rw [← hW8, ← hgr] at HT7
        have HW8 := Lib.hid (And.intro hW8 hgr)
        clear hW8 hgr HIN HBK HX HG7 HQ7 HGG
        go_wp2_with (first
          | ((with_reducible refine wpDst 71 rfl ?_); go_must (refine wpList_build_st (.inl rfl) 31 #[(0, .tmp 68), (1, .tmp 70)] rfl fields ZR C0 _ [(0, [Value.int .u8 (n1 : Int)]), (1, [Value.int .u64 (n2 : Int)])] hfu hzr hfp (by simp [Act.eval, Value.cells]) HC0.out ?_))
          | ((with_reducible refine wpDst 11 rfl ?_); refine wpList_alloc _ rfl 31 rfl _ hzr ?_)
          | ((with_reducible refine wpSto 11 71 rfl ?_); refine wpList_storeN rfl 31 (.tmp 11) (.tmp 71) rfl w7 rfl ZR C0 31 rfl rfl (szRq HCL.out) (by rw [HCL.out, HZL.out]) HCO.out ?_; rw [← HW8.out.1, ← HW8.out.2])
          | fail)
        refine (In_Eight g q s2 W8 HT7.out.inp).mono ?_
        rintro e w9 ⟨rfl, hi9, hg9⟩
        have hT9 := HT7.out.step hg9 hi9
        clear hi9 hg9 HT7 HW8
        generalize hS3 : (numM 8 s2).2 = s3 at *
        generalize hN3 : (numM 8 s2).1 = n3 at *
        clear hS3 hN3
        have hc2 : w9.cell? ⟨gr, 2, none⟩ = some (.int .u64 0) := (hT9.br.cell 2).trans (by rw [HCE.out]; rfl)
        have hf2 : w9.frozen? ⟨gr, 2, none⟩ = false := hT9.br.free 2
        have HC1 := Lib.hid (show C0.set 2 (.int .u64 (n3 : Int)) = rqC (a1, n2, n3, List.replicate 32 0, ⟨#[]⟩) by rw [HCE.out]; rfl)
        have HT9 := Lib.hid (hT9.set 2 (.int .u64 (n3 : Int)))
        clear hT9
        go_wp2_with fail
        obtain ⟨W9, hW9⟩ : ∃ W9, W9 = w9.setCell ⟨gr, 2, none⟩ (.int .u64 (n3 : Int)) := ⟨_, rfl⟩
        rw [← hW9] at HT9 ⊢
        rw [HC1.out] at HT9
        clear hW9 hc2 hf2 HC1 HC0 HCE HCL HCO
        refine (In_Sum g q s3 W9 HT9.out.inp).mono ?_
        rintro e w10 ⟨rfl, hi10, hg10⟩
        have HT10 := Lib.hid (HT9.out.step hg10 hi10)
        clear hi10 hg10 HT9
        have HHL := Lib.hid (sumM_lenQ s3)
        generalize hS4 : (sumM s3).2 = s4 at *
        generalize hN4 : (sumM s3).1 = hb at *
        clear hS4 hN4
        have HT11 := Lib.hid (show TailAt w (w10.setRow gr (putAt (rqC (a1, n2, n3, List.replicate 32 0, ⟨#[]⟩)) 3 (bv hb)).toArray) g2 g q gr ZR (rqC (a1, n2, n3, hb, ⟨#[]⟩)) s4 by
          rw [rq_put a1 n2 n3 (List.replicate 32 0) hb ⟨#[]⟩ (by simp) HHL.out]; exact HT10.out.row)
        have HCL := Lib.hid (show 3 + (bv hb).length ≤ (rqC (a1, n2, n3, List.replicate 32 0, ⟨#[]⟩)).length by rw [bv_length, HHL.out]; simp [rqC])
        obtain ⟨C1, hC1⟩ : ∃ C1, C1 = rqC (a1, n2, n3, List.replicate 32 0, ⟨#[]⟩) := ⟨_, rfl⟩
        rw [← hC1] at HT10 HT11 HCL
        have HCE := Lib.hid hC1
        clear hC1
        go_wp2_with (first
          | ((with_reducible refine wpSto 77 76 rfl ?_); refine wpList_store_part _ rfl 29 (.tmp 77) (.tmp 76) rfl gr 3 rfl C1 (bv hb) 31 rfl HT10.out.br (szHash (by rw [bv_length]; exact HHL.out)) HCL.out (bv_one _) ?_)
          | fail)
        obtain ⟨W11, hW11⟩ : ∃ W11, W11 = w10.setRow gr (putAt C1 3 (bv hb)).toArray := ⟨_, rfl⟩
        rw [← hW11] at HT11 ⊢
        clear hW11 HT10 HCL HCE
        refine (In_Blob g q s4 W11 100 (by decide) HT11.out.inp).mono ?_
        rintro e w12 ⟨v79, rfl, ho79, hi12, hg12, _⟩
        have hT12 := HT11.out.step hg12 hi12
        clear hi12 hg12 HT11
        generalize hS5 : (blobM 100 s4).2 = s5 at *
        generalize hN5 : (blobM 100 s4).1 = nb at *
        clear hS5 hN5
        obtain ⟨A79, c79, rfl⟩ := OwnB.form ho79
        have HS79 := Lib.hid (OwnB.src ho79)
        have hc35 : w12.cell? ⟨gr, 35, none⟩ = some (.string ⟨#[]⟩) := (hT12.br.cell 35).trans (rqC_noteH (r := (a1, n2, n3, hb, ⟨#[]⟩)) HHL.out)
        have hf35 : w12.frozen? ⟨gr, 35, none⟩ = false := hT12.br.free 35
        have HT13 := Lib.hid (show TailAt w (w12.setCell ⟨gr, 35, none⟩ (.string (strOf nb))) g2 g q gr ZR (rqC (a1, n2, n3, hb, ⟨nb.toArray⟩)) s5 by
          have h := hT12.set 35 (.string (strOf nb))
          rw [rq_note a1 n2 n3 hb ⟨#[]⟩ (strOf nb) HHL.out] at h
          exact h)
        clear hT12 ho79
        go_wp2_with (first
          | ((with_reducible refine wpDst 80 rfl ?_); refine wpList_str _ rfl _ _ _ rfl 5 Tryd.underlying40 Tryd.underlying5 Tryd.underlying9 _ _ nb rfl HS79.out ?_)
          | fail)
        obtain ⟨W13, hW13⟩ : ∃ W13, W13 = w12.setCell ⟨gr, 35, none⟩ (.string (strOf nb)) := ⟨_, rfl⟩
        rw [← hW13] at HT13 ⊢
        clear hW13 hc35 hf35 HS79
        refine (In_End g q s5 W13 HT13.out.inp).mono ?_
        rintro e w14 ⟨rfl, hi14, hg14⟩
        have hT14 := HT13.out.step hg14 hi14
        clear hi14 hg14 HT13
        have HX := Lib.hid hT14.ext
        have HBK := Lib.hid hT14.b2
        have HBR := Lib.hid hT14.br
        clear hT14
        have HROK2 := Lib.hid (show RqOk (a1, n2, n3, hb, ⟨nb.toArray⟩) by have := HROK.out; rw [HRR.out] at this; exact this)
        have HPRD := Lib.hid (show Parsed T.data.toList (if (endM s5).2 ≠ 0 then (zR, (endM s5).2) else if rightR (a1, n2, n3, hb, ⟨nb.toArray⟩) = false then (zR, 1) else ((a1, n2, n3, hb, ⟨nb.toArray⟩), 0)).1 (if (endM s5).2 ≠ 0 then (zR, (endM s5).2) else if rightR (a1, n2, n3, hb, ⟨nb.toArray⟩) = false then (zR, 1) else ((a1, n2, n3, hb, ⟨nb.toArray⟩), 0)).2 by
          have := HREAD.out
          rw [HRM.out, HRR.out] at this
          exact this)
        have HRg := Lib.hid (fun W => QRight (a1, n2, n3, hb, ⟨nb.toArray⟩) W HROK2.out)
        have HCL := Lib.hid (rqC_length HROK2.out)
        have HCO := Lib.hid (rqC_one (a1, n2, n3, hb, ⟨nb.toArray⟩))
        clear HROK HREAD HRM HRR HHL
        generalize (endM s5).2 = ev at *
        generalize hRE : ((a1, n2, n3, hb, ⟨nb.toArray⟩) : Rq) = rr at *
        clear hRE
        obtain ⟨C, hC⟩ : ∃ C, C = rqC rr := ⟨_, rfl⟩
        rw [← hC] at HBR HCL HCO HRg
        have HCE := Lib.hid hC
        clear hC
        by_cases hev : ev = 0
        case neg =>
          have hpr := HPRD.out
          rw [if_pos hev] at hpr
          have HPRD := Lib.hid hpr
          clear hpr
          go_wp2_with (first
            | ((with_reducible refine wpDst 2 rfl ?_); refine wpList_alloc _ rfl 31 rfl _ hzr ?_; rw [← HW0.out, ← HGE.out])
            | ((with_reducible refine wpDst 87 rfl ?_); go_must (refine wpList_build (.inl rfl) 31 #[] rfl (.agg ZR.toArray) (exec_build0Q _ _ rfl HBD.out) ?_))
            | ((with_reducible refine wpSto 2 87 rfl ?_); refine wpList_store_row _ rfl 31 (.tmp 2) (.tmp 87) rfl g2 rfl ZR ZR 31 rfl (by exact HBK.out) (szRq HZL.out) rfl HZO.out ?_)
            | fail)
          have hc9 := Blk.cells (t := 31) (setRow_at (cs' := ZR.toArray) HBK.out)
          (try simp only [Exit.inBlock, Exit.then])
          refine bodyPost_ret (results_agg_tmp rfl _ _ _ _ _ rfl Tryd.underlying31 rfl (szRq HZL.out) hc9) rfl ?_
          exact ⟨zR, ev, by rw [← HZR.out]; rfl, HPRD.out, zR_ok, setRow_grownQ HX.out _ _ HG2.out⟩
        subst hev
        rw [if_neg (by simp)] at HPRD
        generalize hrt : rightR rr = rt at *
        clear hrt
        go_wp2_with (first
          | ((with_reducible refine wpDst 90 rfl ?_); refine wpList_load_agg _ rfl _ _ rfl _ rfl C _ Tryd.underlying31 rfl (szRq HCL.out) HBR.out.cells ?_)
          | fail)
        refine (HRg.out _).mono ?_
        rintro e w15 ⟨rfl, hx15⟩
        have HX := Lib.hid (HX.out.trans hx15)
        have HBK := Lib.hid (HBK.out.keep hx15 (by simp))
        have HBR := Lib.hid (HBR.out.keep hx15 (by simp))
        clear hx15 HRg
        rcases Bool.eq_false_or_eq_true rt with hrt | hrt
        case inr =>
          subst hrt
          rw [if_pos rfl] at HPRD
          go_wp2_with (first
            | ((with_reducible refine wpDst 2 rfl ?_); refine wpList_alloc _ rfl 31 rfl _ hzr ?_; rw [← HW0.out, ← HGE.out])
            | ((with_reducible refine wpDst 93 rfl ?_); go_must (refine wpList_build (.inl rfl) 31 #[] rfl (.agg ZR.toArray) (exec_build0Q _ _ rfl HBD.out) ?_))
            | ((with_reducible refine wpSto 2 93 rfl ?_); refine wpList_store_row _ rfl 31 (.tmp 2) (.tmp 93) rfl g2 rfl ZR ZR 31 rfl (by exact HBK.out) (szRq HZL.out) rfl HZO.out ?_)
            | fail)
          have hc9 := Blk.cells (t := 31) (setRow_at (cs' := ZR.toArray) HBK.out)
          (try simp only [Exit.inBlock, Exit.then])
          refine bodyPost_ret (results_agg_tmp rfl _ _ _ _ _ rfl Tryd.underlying31 rfl (szRq HZL.out) hc9) rfl ?_
          exact ⟨zR, 1, by rw [← HZR.out]; rfl, HPRD.out, zR_ok, setRow_grownQ HX.out _ _ HG2.out⟩
        subst hrt
        rw [if_neg (by simp)] at HPRD
        go_wp2_with (first
          | ((with_reducible refine wpDst 94 rfl ?_); refine wpList_load_agg _ rfl _ _ rfl _ rfl C _ Tryd.underlying31 rfl (szRq HCL.out) HBR.out.cells ?_)
          | ((with_reducible refine wpSto 2 94 rfl ?_); refine wpList_store_row _ rfl 31 (.tmp 2) (.tmp 94) rfl g2 rfl ZR C 31 rfl (by exact HBK.out) (szRq HCL.out) (by rw [HCL.out, HZL.out]) HCO.out ?_)
          | fail)
        have hc9 := Blk.cells (t := 31) (setRow_at (cs' := C.toArray) HBK.out)
        (try simp only [Exit.inBlock, Exit.then])
        refine bodyPost_ret (results_agg_tmp rfl _ _ _ _ _ rfl Tryd.underlying31 rfl (szRq HCL.out) hc9) rfl ?_
        exact ⟨rr, 0, by rw [← HCE.out]; rfl, HPRD.out, HROK2.out, setRow_grownQ HX.out _ _ HG2.out⟩
end Go.Proofs.YtchnjcghbbacoaaDoor

/- The walk of the law RequestBack. Conditions: the request's numbers are in their bounds, the text isn't too long; the turns lie in their variable. -/
import Derived.Test.YtchnjcghbbacoaaDoorQFrom
import Derived.Test.YtchnjcghbbacoaaDoorQBackM
import Derived.Test.YtchnjcghbbacoaaDoorQWrites
import Derived.Test.YtchnjcghbbacoaaDoorStab
set_option linter.unusedVariables false
set_option linter.unusedSimpArgs false
set_option linter.unnecessarySimpa false
namespace Go.Proofs.YtchnjcghbbacoaaDoor
open Go.RowKit

theorem strOf_list (t : ByteArray) : (⟨t.data.toList.toArray⟩ : ByteArray) = t := by cases t; simp
/-- What was written is read as it was. -/
theorem QParseText (r : Rq) (l : List Nat) (W : World) (hok : RqOk r) (hr : rightR r = true) (hf : Fives (bitsP (bytesR r)) l) (hg : Cells W ⟨0, 0, none⟩ turnsC) :
    Calls Tryd.prog 10 #[.string ⟨(textR l).toArray⟩] W fun e w' => e = .returned (.tuple #[.agg (rqC r).toArray, .int .i64 0]) ∧ Ext W w' := by
  have hs := fives_size hok hr hf
  have hl := textR_length l
  refine (QParse _ _ (by show (textR l).toArray.size ≤ maxLen; rw [List.size_toArray]; unfold maxLen; omega) hg).mono ?_
  rintro e w' ⟨y, x, rfl, hp, _, hx⟩
  obtain ⟨rfl, rfl⟩ := parsed_text hok hr hf hp
  exact ⟨rfl, hx⟩
/-- A turned letter is seen. -/
theorem QParseTurned (r : Rq) (l : List Nat) (j m : Nat) (W : World) (hok : RqOk r) (hr : rightR r = true) (hf : Fives (bitsP (bytesR r)) l) (hj : j < l.length + 6) (hm : m < 32) (hg : Cells W ⟨0, 0, none⟩ turnsC) :
    Calls Tryd.prog 10 #[.string (strOf ((textR l).set (5 + j) (letter m)))] W fun e w' => ∃ (Y : List Value) (x : Int), e = .returned (.tuple #[.agg Y.toArray, .int .i64 x]) ∧ Y.length = 36 ∧ (∀ u ∈ Y, u.oneCell' = true) ∧ ((textR l)[5 + j]? ≠ some (letter m) → x = 20) ∧ Ext W w' := by
  have hs := fives_size hok hr hf
  have hl := textR_length l
  refine (QParse _ _ (by show ((textR l).set (5 + j) (letter m)).toArray.size ≤ maxLen; rw [List.size_toArray, List.length_set]; unfold maxLen; omega) hg).mono ?_
  rintro e w' ⟨y, x, rfl, hp, hoky, hx⟩
  exact ⟨_, x, rfl, rqC_length hoky, rqC_one y, fun hne => parsed_turned hok hr hf hj hm hne hp, hx⟩
/-- What is read has the very text. -/
theorem QParseAny (T : ByteArray) (W : World) (hT : T.size ≤ maxLen) (hg : Cells W ⟨0, 0, none⟩ turnsC) (G : World → Prop) (hG : ∀ W', G W' → Cells W' ⟨0, 0, none⟩ turnsC) :
    Calls Tryd.prog 10 #[.string T] W fun e w' => ∃ (Y : List Value) (x : Int), e = .returned (.tuple #[.agg Y.toArray, .int .i64 x]) ∧ Y.length = 36 ∧ (∀ u ∈ Y, u.oneCell' = true) ∧ (x = 0 → ∀ W', G W' → Calls Tryd.prog 7 #[.agg Y.toArray] W' fun e w'' => e = .returned (.tuple #[.string T, .int .i64 0]) ∧ Ext W' w'') ∧ Ext W w' := by
  refine (QParse T W hT hg).mono ?_
  rintro e w' ⟨y, x, rfl, hp, hoky, hx⟩
  refine ⟨_, x, rfl, rqC_length hoky, rqC_one y, fun hx0 W' hW => ?_, hx⟩
  obtain ⟨hr, l, hl, ht⟩ := parsed_back hp hx0
  refine (QText y W' hoky (hG W' hW)).mono ?_
  rintro e w'' ⟨hs, hx2⟩
  obtain ⟨X, c, rfl, hX⟩ := TextSaid.open hs
  rcases hX with ⟨h, _⟩ | ⟨_, rfl, m, hm, rfl⟩
  · rw [hr] at h; cases h
  · rw [hm.unique hl, ← ht, strOf_list]
    exact ⟨rfl, hx2⟩
set_option maxRecDepth 100000 in
set_option maxHeartbeats 16000000 in
theorem QBack (r : Rq) (T : ByteArray) (at0 : Int) (nn : UInt8) (w : World) (hok : RqOk r) (hT : T.size ≤ maxLen) (hg : Cells w ⟨0, 0, none⟩ turnsC) :
    Calls Tryd.prog 4 #[.agg (rqC r).toArray, .string T, .int .i64 at0, .int .u8 (nn.toNat : Int)] w fun e w' => e = .returned (.bool true) ∧ Ext w w' := by
  have hzr := zR_zero
  have HZL := Lib.hid (rqC_length zR_ok)
  obtain ⟨ZR, hZR⟩ : ∃ ZR, ZR = rqC zR := ⟨_, rfl⟩
  rw [← hZR] at hzr HZL
  clear hZR
  have HB0 := Lib.hid (show Blk (w.alloc (.cells (rqC r).toArray 25)) w.heap.size 25 (rqC r) from Blk.new _ _ _)
  have HX0 := Lib.hid (show Ext w (w.alloc (.cells (rqC r).toArray 25)) from (Ext.refl w).alloc _)
  have h35 := (HB0.out.cell 35).trans (rqC_note hok)
  have HCL := Lib.hid (rqC_length hok)
  have HCO := Lib.hid (rqC_one r)
  have HG := Lib.hid (show ∀ W, Ext w W → Cells W ⟨0, 0, none⟩ turnsC from fun W h => hg.keep (h.block 0 (hg.lt (by decide)) (by simp)))
  have HTO := Lib.hid (fun W => QTo r W hok)
  have HTX := Lib.hid (fun W h => QText r W hok h)
  have HFR := Lib.hid (fun W => QFrom r W hok)
  have HNE := Lib.hid (fun o a w K Q x y t' => @wp_neRq r hok o a w K Q x y t')
  have HFS := Lib.hid (fun l hr hf => @fives_size r l hok hr hf)
  have HP1 := Lib.hid (fun l W hr hf hg => QParseText r l W hok hr hf hg)
  have HP2 := Lib.hid (fun l j m W hr hf hj hm hg => QParseTurned r l j m W hok hr hf hj hm hg)
  have HP3 := Lib.hid (fun W (h : Ext w W) => QParseAny T W hT (HG.out W h) (fun W' => Ext w W') (fun W' h => HG.out W' h))
  have hn := hok.note
  clear hok hg hT
  generalize rqC r = C at *
  generalize rightR r = rt at *
  generalize bytesR r = BR at *
  generalize r.2.2.2.2 = note at *
  go_enter Tryd.func4, Tryd.ntmps4
  by_cases h5 : 5000 < note.size
  · clear HTX HTO HFR HP1 HP2 HP3 HNE HFS
    go_wp2_with fail
    refine (QAwake _ (HG.out _ HX0.out)).mono ?_
    rintro e w1 ⟨rfl, hx1⟩
    go_wp2
    go_ret
    exact ⟨rfl, HX0.out.trans hx1⟩
  have h5' : note.size ≤ 5000 := by omega
  clear h5
  go_wp2_with (first
    | ((with_reducible refine wpDst 28 rfl ?_); refine wpList_load_agg _ rfl _ _ rfl _ rfl C _ Tryd.underlying25 rfl (szRqR HCL.out) HB0.out.cells ?_)
    | fail)
  refine (HTO.out _).mono ?_
  rintro e w1 ⟨rfl, hx1⟩
  have HX1 := Lib.hid (HX0.out.trans hx1)
  have HB1 := Lib.hid (HB0.out.keep hx1 (by simp))
  clear hx1 HX0 HB0 h35
  go_wp2_with fail
  refine (HTX.out _ (HG.out _ HX1.out)).mono ?_
  rintro e w2 ⟨hs2, hx2⟩
  obtain ⟨X, c, rfl, hX⟩ := TextSaid.open hs2
  have HX2 := Lib.hid (HX1.out.trans hx2)
  have HB2 := Lib.hid (HB1.out.keep hx2 (by simp))
  clear hs2 hx2 HX1 HB1 HTX HTO
  rcases hX with ⟨hrt, rfl, rfl⟩ | ⟨hrt, rfl, l, hl, rfl⟩
  · clear HP1 HP2 HFR HNE HFS HB2 hrt
    go_wp2_with fail
    refine (HP3.out _ (by exact HX2.out)).mono ?_
    rintro e wsa ⟨Ysa, xsa, rfl, hlsa, hosa, hzsa, hxsa⟩
    have HXsa := Lib.hid (HX2.out.trans hxsa)
    have HYLsa := Lib.hid hlsa
    have HYOsa := Lib.hid hosa
    have HZsa := Lib.hid hzsa
    clear hlsa hosa hzsa hxsa
    by_cases hx0 : xsa = 0
    · subst hx0
      have HTTsa := Lib.hid (HZsa.out rfl)
      clear HZsa
      go_wp2_with (first
        | ((with_reducible refine wpDst 18 rfl ?_); refine wpList_alloc _ rfl 31 rfl _ hzr ?_)
        | ((with_reducible refine wpSto 18 93 rfl ?_); refine wpList_storeN rfl 31 (.tmp 18) (.tmp 93) rfl wsa rfl ZR Ysa 31 rfl rfl (szRq HYLsa.out) (by rw [HYLsa.out, HZL.out]) HYOsa.out ?_)
        | ((with_reducible refine wpDst 98 rfl ?_); refine wpList_load_agg _ rfl _ _ rfl _ rfl Ysa _ Tryd.underlying31 rfl (szRq HYLsa.out) (Blk.cells (Blk.new wsa 31 Ysa)) ?_)
        | fail)
      have HXta := Lib.hid (Ext.alloc HXsa.out (.cells Ysa.toArray 31))
      refine (HTTsa.out _ (by exact HXta.out)).mono ?_
      rintro e wta ⟨rfl, hxta⟩
      have HXua := Lib.hid (HXta.out.trans hxta)
      clear hxta HXta HXsa
      go_wp2_with fail
      refine (QAwake _ (HG.out _ HXua.out)).mono ?_
      rintro e wua ⟨rfl, hxua⟩
      go_wp2
      go_ret
      exact ⟨rfl, HXua.out.trans hxua⟩
    · have hx1 : (xsa == (0 : Int)) = false := by simpa using hx0
      go_wp2_with (first
        | ((with_reducible refine wpDst 18 rfl ?_); refine wpList_alloc _ rfl 31 rfl _ hzr ?_)
        | ((with_reducible refine wpSto 18 93 rfl ?_); refine wpList_storeN rfl 31 (.tmp 18) (.tmp 93) rfl wsa rfl ZR Ysa 31 rfl rfl (szRq HYLsa.out) (by rw [HYLsa.out, HZL.out]) HYOsa.out ?_)
        | fail)
      have HXta := Lib.hid (Ext.alloc HXsa.out (.cells Ysa.toArray 31))
      refine (QAwake _ (HG.out _ HXta.out)).mono ?_
      rintro e wua ⟨rfl, hxua⟩
      go_wp2
      go_ret
      exact ⟨rfl, HXta.out.trans hxua⟩
  · have HTL := Lib.hid (show 11 ≤ (textR l).length ∧ (textR l).length ≤ 300 by have := HFS.out l hrt hl; rw [textR_length]; omega)
    have HPA := Lib.hid (fun W hg => HP1.out l W hrt hl hg)
    have HPB := Lib.hid (show ∀ (j m : Nat) (W : World), j < (textR l).length - 5 → m < 32 → _ → _ from fun j m W hj hm hg => HP2.out l j m W hrt hl (by rw [textR_length] at hj; omega) hm hg)
    clear HP1 HP2 HFS hl hrt
    generalize textR l = tx at *
    clear l
    go_wp2_with fail
    refine (HPA.out _ (HG.out _ HX2.out)).mono ?_
    rintro e w3 ⟨rfl, hx3⟩
    have HX3 := Lib.hid (HX2.out.trans hx3)
    have HB3 := Lib.hid (HB2.out.keep hx3 (by simp))
    clear hx3 HX2 HB2 HPA
    have HB4 := Lib.hid (show Blk (w3.alloc (.cells C.toArray 31)).drew w.heap.size 25 C from HB3.out.keep (((Ext.refl _).alloc _).drew) (by simp))
    have HB11 := Lib.hid (show Blk (w3.alloc (.cells C.toArray 31)).drew w3.heap.size 31 C from (Blk.new w3 31 C).keep ((Ext.refl _).drew) (by simp))
    have HX4 := Lib.hid (show Ext w (w3.alloc (.cells C.toArray 31)).drew from (HX3.out.alloc _).drew)
    go_wp2_with (first
      | ((with_reducible refine wpDst 11 rfl ?_); refine wpList_alloc _ rfl 31 rfl _ hzr ?_)
      | ((with_reducible refine wpSto 11 38 rfl ?_); refine wpList_storeN rfl 31 (.tmp 11) (.tmp 38) rfl w3 rfl ZR C 31 rfl rfl (szRq HCL.out) (by rw [HCL.out, HZL.out]) HCO.out ?_)
      | fail)
    refine stab_plain Ext ext_refl ext_trans [[0], [0, 1], [0, 1, 2], [0, 1, 2, 3], [0, 1, 2, 3, 4], [0, 1, 2, 5], [0, 1, 2, 3, 4, 5, 6], [0, 1, 2, 3, 4, 5, 6, 7], [0, 1, 2, 3, 4, 5, 6, 7, 8], [0, 1, 2, 3, 4, 5, 6, 7, 8, 9], [0, 1, 2, 3, 4, 5, 6, 7, 8, 9, 10], [0, 1, 2, 3, 4, 5, 6, 7, 8, 9, 10, 11], [0, 1, 2, 3, 4, 5, 6, 7, 8, 9, 10, 11, 12]] (fun i v wv => match i with | 0 => v = .int .i64 0 | 1 => v = .bool false | 2 => v = .bool false | 3 => v = .agg C.toArray | 4 => v = .agg C.toArray | 5 => v = .agg C.toArray | 6 => v = .bool false | 7 => v = .bool false | 8 => v = .bool false | 9 => v = .string ⟨tx.toArray⟩ | 10 => v = .int .i64 (tx.length : Int) | 11 => v = .bool false | 12 => v = .bool false | _ => True) (by kernel_rfl) (by kernel_rfl) (by kernel_rfl) ?_ ?_ ?_
    · intro i v w1 w2 h hx
      match i, h with
      | 0, h => exact h
      | 1, h => exact h
      | 2, h => exact h
      | 3, h => exact h
      | 4, h => exact h
      | 5, h => exact h
      | 6, h => exact h
      | 7, h => exact h
      | 8, h => exact h
      | 9, h => exact h
      | 10, h => exact h
      | 11, h => exact h
      | 12, h => exact h
      | i + 13, h => trivial
    · intro i hi o ho
      match i, hi, ho with
      | 0, _, ho =>
        obtain rfl := Option.some.inj ho
        intro s W hX hd K hK
        rw [if_pos (wanted_plain rfl)]
        clear hd
        replace hK : ∀ (v : Value) (W' : World), Ext W W' → (v = .int .i64 0) → _ := hK
        simp only [mkOf, List.map_cons, List.map_nil, Act.put, List.setIfInBounds_toArray, List.set_cons_succ, List.set_cons_zero, Nat.reduceAdd, Nat.zero_add] at hK ⊢
        go_simp
        exact hK _ _ (Ext.refl _) rfl
      | 1, _, ho =>
        obtain rfl := Option.some.inj ho
        intro s W hX hd K hK
        rw [if_pos (wanted_plain rfl)]
        have d40 : (s 0) = .int .i64 0 := hd 0 (by decide) (by decide)
        clear hd
        replace hK : ∀ (v : Value) (W' : World), Ext W W' → (v = .bool false) → _ := hK
        simp only [mkOf, List.map_cons, List.map_nil, Act.put, List.setIfInBounds_toArray, List.set_cons_succ, List.set_cons_zero, Nat.reduceAdd, Nat.zero_add] at hK ⊢
        simp only [d40] at hK ⊢
        go_simp
        exact hK _ _ (Ext.refl _) rfl
      | 2, _, ho =>
        obtain rfl := Option.some.inj ho
        intro s W hX hd K hK
        rw [if_pos (wanted_plain rfl)]
        have d41 : (s 1) = .bool false := hd 1 (by decide) (by decide)
        clear hd
        replace hK : ∀ (v : Value) (W' : World), Ext W W' → (v = .bool false) → _ := hK
        simp only [mkOf, List.map_cons, List.map_nil, Act.put, List.setIfInBounds_toArray, List.set_cons_succ, List.set_cons_zero, Nat.reduceAdd, Nat.zero_add] at hK ⊢
        simp only [d41] at hK ⊢
        go_simp
        exact hK _ _ (Ext.refl _) rfl
      | 3, _, ho =>
        obtain rfl := Option.some.inj ho
        intro s W hX hd K hK
        have d42 : (s 2) = .bool false := hd 2 (by decide) (by decide)
        clear hd
        replace hK : ∀ (v : Value) (W' : World), Ext W W' → (v = .agg C.toArray) → _ := hK
        simp only [mkOf, List.map_cons, List.map_nil, Act.put, List.setIfInBounds_toArray, List.set_cons_succ, List.set_cons_zero, Nat.reduceAdd, Nat.zero_add] at hK ⊢
        simp only [d42] at hK ⊢
        rw [if_pos (by kernel_rfl)]
        refine wp_load_aggQ 31 (.tmp 11) rfl _ rfl C _ Tryd.underlying31 rfl (szRq HCL.out) (HB11.out.keep hX (by simp)).cells ?_
        exact hK _ _ (Ext.refl _) rfl
      | 4, _, ho =>
        obtain rfl := Option.some.inj ho
        intro s W hX hd K hK
        have d42 : (s 2) = .bool false := hd 2 (by decide) (by decide)
        have d43 : (s 3) = .agg C.toArray := hd 3 (by decide) (by decide)
        clear hd
        replace hK : ∀ (v : Value) (W' : World), Ext W W' → (v = .agg C.toArray) → _ := hK
        simp only [mkOf, List.map_cons, List.map_nil, Act.put, List.setIfInBounds_toArray, List.set_cons_succ, List.set_cons_zero, Nat.reduceAdd, Nat.zero_add] at hK ⊢
        simp only [d42, d43] at hK ⊢
        rw [if_pos (by kernel_rfl)]
        go_simp
        refine (HFR.out _).mono ?_
        rintro e w' ⟨rfl, hx⟩
        exact hK _ _ hx rfl
      | 5, _, ho =>
        obtain rfl := Option.some.inj ho
        intro s W hX hd K hK
        have d42 : (s 2) = .bool false := hd 2 (by decide) (by decide)
        clear hd
        replace hK : ∀ (v : Value) (W' : World), Ext W W' → (v = .agg C.toArray) → _ := hK
        simp only [mkOf, List.map_cons, List.map_nil, Act.put, List.setIfInBounds_toArray, List.set_cons_succ, List.set_cons_zero, Nat.reduceAdd, Nat.zero_add] at hK ⊢
        simp only [d42] at hK ⊢
        rw [if_pos (by kernel_rfl)]
        refine wp_load_aggQ 25 (.tmp 4) rfl _ rfl C _ Tryd.underlying25 rfl (szRqR HCL.out) (HB4.out.keep hX (by simp)).cells ?_
        exact hK _ _ (Ext.refl _) rfl
      | 6, _, ho =>
        obtain rfl := Option.some.inj ho
        intro s W hX hd K hK
        have d42 : (s 2) = .bool false := hd 2 (by decide) (by decide)
        have d44 : (s 4) = .agg C.toArray := hd 4 (by decide) (by decide)
        have d45 : (s 5) = .agg C.toArray := hd 5 (by decide) (by decide)
        clear hd
        replace hK : ∀ (v : Value) (W' : World), Ext W W' → (v = .bool false) → _ := hK
        simp only [mkOf, List.map_cons, List.map_nil, Act.put, List.setIfInBounds_toArray, List.set_cons_succ, List.set_cons_zero, Nat.reduceAdd, Nat.zero_add] at hK ⊢
        simp only [d42, d44, d45] at hK ⊢
        rw [if_pos (by kernel_rfl)]
        refine HNE.out _ _ _ _ _ (.tmp 44) (.tmp 45) _ rfl rfl rfl ?_
        exact hK _ _ (Ext.refl _) rfl
      | 7, _, ho =>
        obtain rfl := Option.some.inj ho
        intro s W hX hd K hK
        rw [if_pos (wanted_plain rfl)]
        have d42 : (s 2) = .bool false := hd 2 (by decide) (by decide)
        have d46 : (s 6) = .bool false := hd 6 (by decide) (by decide)
        clear hd
        replace hK : ∀ (v : Value) (W' : World), Ext W W' → (v = .bool false) → _ := hK
        simp only [mkOf, List.map_cons, List.map_nil, Act.put, List.setIfInBounds_toArray, List.set_cons_succ, List.set_cons_zero, Nat.reduceAdd, Nat.zero_add] at hK ⊢
        simp only [d42, d46] at hK ⊢
        go_simp
        exact hK _ _ (Ext.refl _) rfl
      | 8, _, ho =>
        obtain rfl := Option.some.inj ho
        intro s W hX hd K hK
        rw [if_pos (wanted_plain rfl)]
        have d47 : (s 7) = .bool false := hd 7 (by decide) (by decide)
        clear hd
        replace hK : ∀ (v : Value) (W' : World), Ext W W' → (v = .bool false) → _ := hK
        simp only [mkOf, List.map_cons, List.map_nil, Act.put, List.setIfInBounds_toArray, List.set_cons_succ, List.set_cons_zero, Nat.reduceAdd, Nat.zero_add] at hK ⊢
        simp only [d47] at hK ⊢
        go_simp
        exact hK _ _ (Ext.refl _) rfl
      | 9, _, ho =>
        obtain rfl := Option.some.inj ho
        intro s W hX hd K hK
        have d48 : (s 8) = .bool false := hd 8 (by decide) (by decide)
        clear hd
        replace hK : ∀ (v : Value) (W' : World), Ext W W' → (v = .string ⟨tx.toArray⟩) → _ := hK
        simp only [mkOf, List.map_cons, List.map_nil, Act.put, List.setIfInBounds_toArray, List.set_cons_succ, List.set_cons_zero, Nat.reduceAdd, Nat.zero_add] at hK ⊢
        simp only [d48] at hK ⊢
        rw [if_pos (by kernel_rfl)]
        go_simp
        exact hK _ _ (Ext.refl _) rfl
      | 10, _, ho =>
        obtain rfl := Option.some.inj ho
        intro s W hX hd K hK
        have d48 : (s 8) = .bool false := hd 8 (by decide) (by decide)
        have d49 : (s 9) = .string ⟨tx.toArray⟩ := hd 9 (by decide) (by decide)
        clear hd
        replace hK : ∀ (v : Value) (W' : World), Ext W W' → (v = .int .i64 (tx.length : Int)) → _ := hK
        simp only [mkOf, List.map_cons, List.map_nil, Act.put, List.setIfInBounds_toArray, List.set_cons_succ, List.set_cons_zero, Nat.reduceAdd, Nat.zero_add] at hK ⊢
        simp only [d48, d49] at hK ⊢
        rw [if_pos (by kernel_rfl)]
        go_simp
        exact hK _ _ (Ext.refl _) rfl
      | 11, _, ho =>
        obtain rfl := Option.some.inj ho
        intro s W hX hd K hK
        have d48 : (s 8) = .bool false := hd 8 (by decide) (by decide)
        have d50 : (s 10) = .int .i64 (tx.length : Int) := hd 10 (by decide) (by decide)
        clear hd
        replace hK : ∀ (v : Value) (W' : World), Ext W W' → (v = .bool false) → _ := hK
        simp only [mkOf, List.map_cons, List.map_nil, Act.put, List.setIfInBounds_toArray, List.set_cons_succ, List.set_cons_zero, Nat.reduceAdd, Nat.zero_add] at hK ⊢
        simp only [d48, d50] at hK ⊢
        rw [if_pos (by kernel_rfl)]
        go_simp
        exact hK _ _ (Ext.refl _) (by rw [decide_eq_false (show ¬ ((tx.length : Int) < 6) by have := HTL.out; omega)])
      | 12, _, ho =>
        obtain rfl := Option.some.inj ho
        intro s W hX hd K hK
        rw [if_pos (wanted_plain rfl)]
        have d48 : (s 8) = .bool false := hd 8 (by decide) (by decide)
        have d51 : (s 11) = .bool false := hd 11 (by decide) (by decide)
        clear hd
        replace hK : ∀ (v : Value) (W' : World), Ext W W' → (v = .bool false) → _ := hK
        simp only [mkOf, List.map_cons, List.map_nil, Act.put, List.setIfInBounds_toArray, List.set_cons_succ, List.set_cons_zero, Nat.reduceAdd, Nat.zero_add] at hK ⊢
        simp only [d48, d51] at hK ⊢
        go_simp
        exact hK _ _ (Ext.refl _) rfl
      | i + 13, hi, _ => exact absurd hi (by simp)
    · intro s W hX hd
      have d40 : (s 0) = .int .i64 0 := hd 0 (by decide)
      have d41 : (s 1) = .bool false := hd 1 (by decide)
      have d42 : (s 2) = .bool false := hd 2 (by decide)
      have d43 : (s 3) = .agg C.toArray := hd 3 (by decide)
      have d44 : (s 4) = .agg C.toArray := hd 4 (by decide)
      have d45 : (s 5) = .agg C.toArray := hd 5 (by decide)
      have d46 : (s 6) = .bool false := hd 6 (by decide)
      have d47 : (s 7) = .bool false := hd 7 (by decide)
      have d48 : (s 8) = .bool false := hd 8 (by decide)
      have d49 : (s 9) = .string ⟨tx.toArray⟩ := hd 9 (by decide)
      have d50 : (s 10) = .int .i64 (tx.length : Int) := hd 10 (by decide)
      have d51 : (s 11) = .bool false := hd 11 (by decide)
      have d52 : (s 12) = .bool false := hd 12 (by decide)
      clear hd
      simp only [mkOf, List.map_cons, List.map_nil, Act.put, List.setIfInBounds_toArray, List.set_cons_succ, List.set_cons_zero, Nat.reduceAdd, Nat.zero_add]
      have HX5 := Lib.hid (HX4.out.trans hX)
      obtain ⟨w5, rfl⟩ : ∃ w5, w5 = W := ⟨_, rfl⟩
      clear hX HB4 HB11 HX4 HB3 HX3 HFR HNE
      simp only [d52, d51, d50, d49, d48, d47, d46, d45, d44, d43, d42, d41, d40]
      clear d52 d51 d50 d49 d48 d47 d46 d45 d44 d43 d42 d41 d40
      obtain ⟨U, hU⟩ : ∃ U : Nat, U = (at0 % 18446744073709551616).toNat := ⟨_, rfl⟩
      have HUL := Lib.hid (show U < 18446744073709551616 by omega)
      have HQ56 := Lib.hid (show ∀ W, (convert 3 41 (.int .i64 at0)).run Tryd.prog W = .ok (.int .u64 (U : Int)) W by subst hU; exact fun W => conv_iu Tryd.prog at0 _ _ Tryd.underlying3 Tryd.underlying41 W)
      clear hU
      have hnl := HTL.out
      obtain ⟨N5, hN5⟩ : ∃ N5, N5 = tx.length - 5 := ⟨_, rfl⟩
      have HQ59 := Lib.hid (show ∀ W, (binOp .sub 3 (.int .i64 (tx.length : Int)) (.int .i64 ((5 : Nat) : Int))).run Tryd.prog W = .ok (.int .i64 (N5 : Int)) W by subst hN5; exact fun W => run_subN Tryd.prog _ tx.length 5 (by omega) (by omega) W)
      have HQ60 := Lib.hid (fun W => conv_iuN Tryd.prog N5 (by omega) 3 41 Tryd.underlying3 Tryd.underlying41 W)
      obtain ⟨j, hj⟩ : ∃ j, j = U % N5 := ⟨_, rfl⟩
      have hjl : j < N5 := by subst hj; exact Nat.mod_lt _ (by omega)
      have HQ61 := Lib.hid (show ∀ W, (binOp .rem 41 (.int .u64 (U : Int)) (.int .u64 (N5 : Int))).run Tryd.prog W = .ok (.int .u64 (j : Int)) W by subst hj; exact fun W => run_remU Tryd.prog _ U N5 (by omega) HUL.out W)
      have HQ62 := Lib.hid (fun W => conv_ui Tryd.prog j (by omega) 41 3 Tryd.underlying41 Tryd.underlying3 W)
      obtain ⟨i, hi5⟩ : ∃ i, i = 5 + j := ⟨_, rfl⟩
      have HQ63 := Lib.hid (show ∀ W, (binOp .add 3 (.int .i64 ((5 : Nat) : Int)) (.int .i64 (j : Int))).run Tryd.prog W = .ok (.int .i64 (i : Int)) W by subst hi5; exact fun W => run_addN Tryd.prog _ 5 j (by omega) W)
      have hil : i < tx.length := by omega
      obtain ⟨k, hk⟩ : ∃ k, k = nn.toNat % 32 := ⟨_, rfl⟩
      have hk32 : k < 32 := by omega
      have HQ71 := Lib.hid (show ∀ W, (binOp .rem 5 (.int .u8 (nn.toNat : Int)) (.int .u8 ((32 : Nat) : Int))).run Tryd.prog W = .ok (.int .u8 (k : Int)) W by subst hk; exact fun W => run_rem8 Tryd.prog _ nn.toNat nn.toNat_lt W)
      have HLT := Lib.hid (lettersK_at k hk32)
      have HPC := Lib.hid (show ∀ W, Cells W ⟨0, 0, none⟩ turnsC → Calls Tryd.prog 10 #[.string (strOf (tx.set i (letter k)))] W fun e w' => ∃ (Y : List Value) (x : Int), e = .returned (.tuple #[.agg Y.toArray, .int .i64 x]) ∧ Y.length = 36 ∧ (∀ u ∈ Y, u.oneCell' = true) ∧ (tx[i]? ≠ some (letter k) → x = 20) ∧ Ext W w' by subst hi5; exact fun W hg => HPB.out j k W (by omega) hk32 hg)
      obtain ⟨was, hwas⟩ : ∃ was, tx[i]? = some was := ⟨_, List.getElem?_eq_getElem hil⟩
      have HWAS := Lib.hid hwas
      rw [hwas] at HPC
      have hb1 : (bv tx)[i]? = some (.int .u8 (was.toNat : Int)) := by simp [bv, hwas]
      have HB1 := Lib.hid hb1
      clear hwas hk hj hjl hN5 hi5 HPB hb1
      generalize letter k = m at *
      (try simp only [Exit.then])
      go_wp2_with (first
        | ((with_reducible refine wpDst 54 rfl ?_)
           refine wpList_bytesOf rfl _ _ _ rfl Tryd.underlying9 Tryd.underlying40 _ rfl (by have h1 := HTL.out; have h2 : (⟨tx.toArray⟩ : ByteArray).size = tx.length := List.size_toArray; unfold maxLen; omega) ?_
           intro cap w6 hc1 hc2 hby hx6
           have hby : ByAt w6 w5.heap.size tx := hby
           rw [show (⟨tx.toArray⟩ : ByteArray).size = tx.length from List.size_toArray] at hc1 ⊢
           obtain ⟨ad, hAd⟩ : ∃ ad : Addr, ad = ⟨w5.heap.size, 0, none⟩ := ⟨_, rfl⟩
           have hai : ad.add i = ⟨w5.heap.size, i, none⟩ := by rw [hAd, addr_atQ]
           have h67 : w6.cell? (ad.add i) = some (.int .u8 (was.toNat : Int)) := by rw [hAd]; exact hby.cells i _ HB1.out
           have hfr : w6.frozen? (ad.add i) = false := by rw [hai]; exact hby.free hil
           have HB7 := Lib.hid (show ByAt (w6.setCell (ad.add i) (.int .u8 (m.toNat : Int))) w5.heap.size (tx.set i m) by rw [hai]; exact hby.set i m hil)
           have HX7 := Lib.hid (show Ext w (w6.setCell (ad.add i) (.int .u8 (m.toNat : Int))) from ((HX5.out.trans hx6).setCell (by rw [hai]; exact HX5.out.size) _))
           have HC7 := Lib.hid (show Cells (w6.setCell (ad.add i) (.int .u8 (m.toNat : Int))) ad (bv (tx.set i m)) by have h := HB7.out.cells; rw [← hAd] at h; exact h)
           have HAd := Lib.hid hAd
           rw [← hAd]
           clear hby hx6 hAd hai HX5)
        | ((with_reducible refine wpDst 56 rfl ?_); refine wpList_convV rfl _ _ _ rfl (.int .i64 at0) _ rfl (HQ56.out _) ?_)
        | ((with_reducible refine wpDst 59 rfl ?_); refine wpList_binV (.inl rfl) .sub 3 _ _ rfl (.int .i64 (tx.length : Int)) (.int .i64 ((5 : Nat) : Int)) rfl rfl rfl (HQ59.out _) ?_)
        | ((with_reducible refine wpDst 60 rfl ?_); refine wpList_convV rfl _ _ _ rfl (.int .i64 (N5 : Int)) _ rfl (HQ60.out _) ?_)
        | ((with_reducible refine wpDst 61 rfl ?_); refine wpList_binV (.inl rfl) .rem 41 _ _ rfl (.int .u64 (U : Int)) (.int .u64 (N5 : Int)) rfl rfl rfl (HQ61.out _) ?_)
        | ((with_reducible refine wpDst 62 rfl ?_); refine wpList_convV rfl _ _ _ rfl (.int .u64 (j : Int)) _ rfl (HQ62.out _) ?_)
        | ((with_reducible refine wpDst 63 rfl ?_); refine wpList_binV (.inl rfl) .add 3 _ _ rfl (.int .i64 ((5 : Nat) : Int)) (.int .i64 (j : Int)) rfl rfl rfl (HQ63.out _) ?_)
        | ((with_reducible refine wpDst 71 rfl ?_); refine wpList_binV (.inl rfl) .rem 5 _ _ rfl (.int .u8 (nn.toNat : Int)) (.int .u8 ((32 : Nat) : Int)) rfl rfl rfl (HQ71.out _) ?_)
        | ((with_reducible refine wpDst 72 rfl ?_); refine wpList_idxK rfl .u8 9 _ _ rfl Tryd.underlying9 ⟨#[113, 112, 122, 114, 121, 57, 120, 56, 103, 102, 50, 116, 118, 100, 119, 48, 115, 51, 106, 110, 53, 52, 107, 104, 99, 101, 54, 109, 117, 97, 55, 108]⟩ k rfl rfl m HLT.out ?_)
        | ((with_reducible refine wpDst 76 rfl ?_); refine wpList_str _ rfl _ _ _ rfl 5 Tryd.underlying40 Tryd.underlying5 Tryd.underlying9 (some ad) cap (tx.set i m) (by rw [List.length_set]; rfl) (fun _ => ⟨ad, rfl, HC7.out⟩) ?_)
        | fail)
      refine (HPC.out _ (HG.out _ (by exact HX7.out))).mono ?_
      rintro e w8 ⟨Y, x8, rfl, hy1, hy2, hx20, hx8⟩
      have HYL := Lib.hid hy1
      have HYO := Lib.hid hy2
      have HX8 := Lib.hid (HX7.out.trans hx8)
      have HB8 := Lib.hid (HB7.out.keep hx8)
      have h83 : (w8.alloc (.cells Y.toArray 31)).cell? (ad.add i) = some (.int .u8 (m.toNat : Int)) := by
        rw [HAd.out]
        exact (HB8.out.keep ((Ext.refl _).alloc _)).cells i _ (by unfold bv; rw [List.getElem?_map, List.getElem?_set_self hil]; rfl)
      have HX9 := Lib.hid (Ext.alloc HX8.out (.cells Y.toArray 31))
      clear hy1 hy2 hx8 HX7 HB7 h67 hfr
      by_cases hm : m = was
      · subst hm
        clear hx20
        go_wp2_with (first
          | ((with_reducible refine wpDst 16 rfl ?_); refine wpList_alloc _ rfl 31 rfl _ hzr ?_)
          | ((with_reducible refine wpSto 16 78 rfl ?_); refine wpList_storeN rfl 31 (.tmp 16) (.tmp 78) rfl w8 rfl ZR Y 31 rfl rfl (szRq HYL.out) (by rw [HYL.out, HZL.out]) HYO.out ?_)
          | fail)
        refine (HP3.out _ (by exact HX9.out)).mono ?_
        rintro e wsb ⟨Ysb, xsb, rfl, hlsb, hosb, hzsb, hxsb⟩
        have HXsb := Lib.hid (HX9.out.trans hxsb)
        have HYLsb := Lib.hid hlsb
        have HYOsb := Lib.hid hosb
        have HZsb := Lib.hid hzsb
        clear hlsb hosb hzsb hxsb
        by_cases hx0 : xsb = 0
        · subst hx0
          have HTTsb := Lib.hid (HZsb.out rfl)
          clear HZsb
          go_wp2_with (first
            | ((with_reducible refine wpDst 18 rfl ?_); refine wpList_alloc _ rfl 31 rfl _ hzr ?_)
            | ((with_reducible refine wpSto 18 93 rfl ?_); refine wpList_storeN rfl 31 (.tmp 18) (.tmp 93) rfl wsb rfl ZR Ysb 31 rfl rfl (szRq HYLsb.out) (by rw [HYLsb.out, HZL.out]) HYOsb.out ?_)
            | ((with_reducible refine wpDst 98 rfl ?_); refine wpList_load_agg _ rfl _ _ rfl _ rfl Ysb _ Tryd.underlying31 rfl (szRq HYLsb.out) (Blk.cells (Blk.new wsb 31 Ysb)) ?_)
            | fail)
          have HXtb := Lib.hid (Ext.alloc HXsb.out (.cells Ysb.toArray 31))
          refine (HTTsb.out _ (by exact HXtb.out)).mono ?_
          rintro e wtb ⟨rfl, hxtb⟩
          have HXub := Lib.hid (HXtb.out.trans hxtb)
          clear hxtb HXtb HXsb
          go_wp2_with fail
          refine (QAwake _ (HG.out _ HXub.out)).mono ?_
          rintro e wub ⟨rfl, hxub⟩
          go_wp2
          go_ret
          exact ⟨rfl, HXub.out.trans hxub⟩
        · have hx1 : (xsb == (0 : Int)) = false := by simpa using hx0
          go_wp2_with (first
            | ((with_reducible refine wpDst 18 rfl ?_); refine wpList_alloc _ rfl 31 rfl _ hzr ?_)
            | ((with_reducible refine wpSto 18 93 rfl ?_); refine wpList_storeN rfl 31 (.tmp 18) (.tmp 93) rfl wsb rfl ZR Ysb 31 rfl rfl (szRq HYLsb.out) (by rw [HYLsb.out, HZL.out]) HYOsb.out ?_)
            | fail)
          have HXtb := Lib.hid (Ext.alloc HXsb.out (.cells Ysb.toArray 31))
          refine (QAwake _ (HG.out _ HXtb.out)).mono ?_
          rintro e wub ⟨rfl, hxub⟩
          go_wp2
          go_ret
          exact ⟨rfl, HXtb.out.trans hxub⟩
      · obtain rfl := hx20 (by simpa using Ne.symm hm)
        have hm1 : ((m.toNat : Int) == (was.toNat : Int)) = false := by
          rw [beq_eq_false_iff_ne]; intro h; exact hm (UInt8.toNat_inj.1 (by exact_mod_cast h))
        have hm2 : ((m.toNat : Int) != (was.toNat : Int)) = true := by rw [bne, hm1]; rfl
        go_wp2_with (first
          | ((with_reducible refine wpDst 16 rfl ?_); refine wpList_alloc _ rfl 31 rfl _ hzr ?_)
          | ((with_reducible refine wpSto 16 78 rfl ?_); refine wpList_storeN rfl 31 (.tmp 16) (.tmp 78) rfl w8 rfl ZR Y 31 rfl rfl (szRq HYL.out) (by rw [HYL.out, HZL.out]) HYO.out ?_)
          | fail)
        refine (HP3.out _ (by exact HX9.out)).mono ?_
        rintro e wsc ⟨Ysc, xsc, rfl, hlsc, hosc, hzsc, hxsc⟩
        have HXsc := Lib.hid (HX9.out.trans hxsc)
        have HYLsc := Lib.hid hlsc
        have HYOsc := Lib.hid hosc
        have HZsc := Lib.hid hzsc
        clear hlsc hosc hzsc hxsc
        by_cases hx0 : xsc = 0
        · subst hx0
          have HTTsc := Lib.hid (HZsc.out rfl)
          clear HZsc
          go_wp2_with (first
            | ((with_reducible refine wpDst 18 rfl ?_); refine wpList_alloc _ rfl 31 rfl _ hzr ?_)
            | ((with_reducible refine wpSto 18 93 rfl ?_); refine wpList_storeN rfl 31 (.tmp 18) (.tmp 93) rfl wsc rfl ZR Ysc 31 rfl rfl (szRq HYLsc.out) (by rw [HYLsc.out, HZL.out]) HYOsc.out ?_)
            | ((with_reducible refine wpDst 98 rfl ?_); refine wpList_load_agg _ rfl _ _ rfl _ rfl Ysc _ Tryd.underlying31 rfl (szRq HYLsc.out) (Blk.cells (Blk.new wsc 31 Ysc)) ?_)
            | fail)
          have HXtc := Lib.hid (Ext.alloc HXsc.out (.cells Ysc.toArray 31))
          refine (HTTsc.out _ (by exact HXtc.out)).mono ?_
          rintro e wtc ⟨rfl, hxtc⟩
          have HXuc := Lib.hid (HXtc.out.trans hxtc)
          clear hxtc HXtc HXsc
          go_wp2_with fail
          refine (QAwake _ (HG.out _ HXuc.out)).mono ?_
          rintro e wuc ⟨rfl, hxuc⟩
          go_wp2
          go_ret
          exact ⟨rfl, HXuc.out.trans hxuc⟩
        · have hx1 : (xsc == (0 : Int)) = false := by simpa using hx0
          go_wp2_with (first
            | ((with_reducible refine wpDst 18 rfl ?_); refine wpList_alloc _ rfl 31 rfl _ hzr ?_)
            | ((with_reducible refine wpSto 18 93 rfl ?_); refine wpList_storeN rfl 31 (.tmp 18) (.tmp 93) rfl wsc rfl ZR Ysc 31 rfl rfl (szRq HYLsc.out) (by rw [HYLsc.out, HZL.out]) HYOsc.out ?_)
            | fail)
          have HXtc := Lib.hid (Ext.alloc HXsc.out (.cells Ysc.toArray 31))
          refine (QAwake _ (HG.out _ HXtc.out)).mono ?_
          rintro e wuc ⟨rfl, hxuc⟩
          go_wp2
          go_ret
          exact ⟨rfl, HXtc.out.trans hxuc⟩
end Go.Proofs.YtchnjcghbbacoaaDoor

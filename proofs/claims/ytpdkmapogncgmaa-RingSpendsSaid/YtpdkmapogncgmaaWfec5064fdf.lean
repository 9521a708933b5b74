/- Walks and plain laws, put together in build order. Conditions: what each of them names. -/
import Derived.Test.YtpdkmapogncgmaaW9cf066e92e
set_option linter.unusedVariables false
set_option linter.unusedSimpArgs false
set_option linter.unnecessarySimpa false
namespace Go.Proofs.Ytpdkmapogncgmaa
section
open Go.RowKit

theorem exec_d1 : ∃ d : Dg, List.length (α := UInt8) d = 32 ∧ ∀ (o : Oper) (a : Act) (w : World), o.op = .build 55 #[(0, .const (.int .u8 1))] → (execOp a.eval o).run Try.prog w = .ok (.value (.agg (bv d).toArray)) w := by
  refine ⟨1 :: List.replicate 31 0, by decide, fun o a w ho => ?_⟩
  have hb : Try.prog.built 55 [(0, .int .u8 1)] = some (bv (1 :: List.replicate 31 0)).toArray := by kernel_rfl
  unfold execOp
  simp only [ho]
  rw [Sem.run_bind, run_build w _ _ _ (by simpa [Act.eval] using hb)]
  simp
set_option maxRecDepth 100000 in
set_option maxHeartbeats 8000000 in
theorem Awake05 (w : World) : Calls Try.prog 9 #[] w fun e w' => e = .returned (.bool true) ∧ Ext w w' := by
  obtain ⟨zeroS, hzs, hzb⟩ : ∃ zs : List UInt8, zs.length = 32 ∧ Try.prog.built 31 [] = some (bv zs).toArray := ⟨List.replicate 32 0, by simp, by kernel_rfl⟩
  obtain ⟨oneD, hol, hD1⟩ := exec_d1
  have hnew := Ring_New zeroS hzs 0 (by decide) w
  have hk0 : (0 : Nat) < 2 ^ 0 := by decide
  have hsign := fun (g tb : Nat) (F : Fp) (R : Value) (W : World) (h : RingAt W g tb F R zeroS 0 (List.replicate (2 ^ 0) false)) => Ring_Sign h 0 (by decide) hk0 (by rfl) oneD hol
  have hno := fun (g tb : Nat) (F : Fp) (R : Value) (W : World) (h : RingAt W g tb F R zeroS 0 ((List.replicate (2 ^ 0) false).set 0 true)) => Ring_Sign_no h 0 (by decide) hk0 (by rfl) oneD
  have hright := fun (u : Value) (F : Fp) (W : World) (hc : Ways W F u (wayM zeroS 0 0)) (hF : ∀ b, F b → b < W.heap.size) => Right (signM zeroS 0 oneD) (signM_length _ _ _) 0 u (wayM zeroS 0 0) (rootM zeroS 0) (rootM_length _ _) oneD hol F W hc hF (by rw [wayM_length]; decide) (by decide) 0 (by decide) 0 (by decide)
  have hrt : rightM (signM zeroS 0 oneD) 0 (wayM zeroS 0 0) (rootM zeroS 0) 0 0 oneD = true := right_signed zeroS 0 0 oneD hk0
  rw [hrt] at hright
  have hwl : List.length (α := Dg) (wayM zeroS 0 0) = 0 := wayM_length _ _ _
  have hgl : (bv (signM zeroS 0 oneD)).length = 1024 := by rw [bv_length]; exact signM_length _ _ _
  have hgo := bv_one (signM zeroS 0 oneD)
  have hroot := fun (g tb : Nat) (F : Fp) (R : Value) (W : World) (tk : List Bool) (h : RingAt W g tb F R zeroS 0 tk) => Ring_Root h
  have hzr := zSig_zero
  have hzl := zSig_len
  have hzo := zSig_one
  obtain ⟨D1, hDe⟩ : ∃ D1, D1 = bv oneD := ⟨_, rfl⟩
  rw [← hDe] at hsign hno hright hD1
  obtain ⟨ZR, hZR⟩ : ∃ ZR, ZR = zSig := ⟨_, rfl⟩
  rw [← hZR] at hno hzr hzl hzo
  obtain ⟨RT, hRT⟩ : ∃ RT, RT = bv (rootM zeroS 0) := ⟨_, rfl⟩
  rw [← hRT] at hroot hright
  obtain ⟨SG, hSG⟩ : ∃ SG, SG = bv (signM zeroS 0 oneD) := ⟨_, rfl⟩
  rw [← hSG] at hsign hright hgl hgo
  obtain ⟨ZS, hZS⟩ : ∃ ZS, ZS = bv zeroS := ⟨_, rfl⟩
  rw [← hZS] at hzb hnew
  have HNEW := Lib.hid hnew
  have HZB := Lib.hid hzb
  have HSIGN := Lib.hid hsign
  have HNO := Lib.hid hno
  have HR0 := Lib.hid hright
  have HWL := Lib.hid hwl
  have HGL := Lib.hid hgl
  have HRT0 := Lib.hid hroot
  have HZL := Lib.hid hzl
  have HD1 := Lib.hid hD1
  clear hnew hzb hsign hno hright hrt hwl hgl hroot hzl hD1 hDe hZR hRT hSG hZS hk0
  go_enter Try.func9, Try.ntmps9
  go_wp2_with (first
    | ((with_reducible refine wpDst 8 rfl ?_); refine wpList_build (.inl rfl) 31 #[] rfl (.agg ZS.toArray) (exec_build0 _ _ rfl HZB.out) ?_)
    | (go_at_call 14; refine HNEW.out.mono ?_; rintro e w1 ⟨g, tb, F, R, rfl, hring, hx1, hg1, htb1, hF1⟩
       have HRING := Lib.hid hring
       have HX1 := Lib.hid hx1
       clear hring hx1)
    | ((with_reducible refine wpDst 14 rfl ?_); refine wpList_build (.inl rfl) 55 #[(0, .const (.int .u8 1))] rfl (.agg D1.toArray) (HD1.out _ _ _ rfl) ?_)
    | (go_at_call 15; refine (HSIGN.out _ _ _ _ _ HRING.out).mono ?_; rintro e w2 ⟨v, rfl, hov, hring2, hg2, hvn⟩
       clear HRING
       obtain ⟨A, c, hv⟩ := hov.2.form
       rw [HWL.out] at hv
       have hsw := sigC_way HGL.out 0 v
       have hml := sigC_len HGL.out 0 v
       have hmo : ∀ u ∈ sigC SG 0 v, u.oneCell' = true := by rw [hv]; exact sigC_one hgo _ _ _ _
       have HRI := Lib.hid (fun (W : World) (h : Ext w2 W) => HR0.out v _ W ((hov.ext h).holds) (fun b hb => Nat.lt_of_lt_of_le (hov.lt b hb) h.size))
       obtain ⟨M, hM⟩ : ∃ M, M = sigC SG 0 v := ⟨_, rfl⟩
       rw [← hM] at hsw hml hmo HRI ⊢
       rw [hv] at hsw
       have HSW := Lib.hid hsw
       have HML := Lib.hid hml
       have HRING2 := Lib.hid hring2
       have HX2 : Hid (Ext w w2) := Lib.hid (grown_then HX1.out hg2 (.inr (by rintro b ⟨⟩; omega)))
       have hsb : Blk (w2.alloc (.cells M.toArray 39)) w2.heap.size 39 M := Blk.new _ _ _
       have HSB0 := Lib.hid hsb
       clear hsw hml hring2 hg2 hvn hM hv hov hsb)
    | ((with_reducible refine wpDst 3 rfl ?_); refine wpList_alloc _ rfl 39 rfl _ hzr ?_)
    | ((with_reducible refine wpSto 3 16 rfl ?_); refine wpList_storeN rfl 39 (.tmp 3) (.tmp 16) rfl w2 rfl ZR M 39 rfl rfl (szOutTo05 HML.out) (by rw [HML.out, HZL.out]) hmo ?_)
    | ((with_reducible refine wpDst 20 rfl ?_); refine wpList_build (.inl rfl) 55 #[(0, .const (.int .u8 1))] rfl (.agg D1.toArray) (HD1.out _ _ _ rfl) ?_)
    | fail)
  refine (HNO.out _ _ _ _ _ (HRING2.out.ext ((Ext.refl w2).alloc _))).mono ?_
  rintro e w4 ⟨rfl, hx4⟩
  have hx5 : Ext (w2.alloc (.cells M.toArray 39)) (w4.alloc (.cells ZR.toArray 39)) := hx4.alloc _
  have HX5 := Lib.hid hx5
  clear hx4 hx5
  go_wp2_with (first
    | ((with_reducible refine wpDst 5 rfl ?_); refine wpList_alloc _ rfl 39 rfl _ hzr ?_)
    | ((with_reducible refine wpSto 5 22 rfl ?_); refine wpList_storeN rfl 39 (.tmp 5) (.tmp 22) rfl w4 rfl ZR ZR 39 rfl rfl (szOutTo05 HZL.out) rfl hzo ?_)
    | fail)
  have HSB : Hid (Blk (w4.alloc (.cells ZR.toArray 39)).drew w2.heap.size 39 M) := Lib.hid ((HSB0.out.keep HX5.out (by simp)).keep (Ext.refl _).drew (by simp))
  have hx6 : Ext w2 (w4.alloc (.cells ZR.toArray 39)).drew := (((Ext.refl w2).alloc _).trans HX5.out).trans (Ext.refl _).drew
  have HROOT : Hid (∀ W', Ext (w4.alloc (.cells ZR.toArray 39)).drew W' → _) := Lib.hid fun W' h => HRT0.out g tb F R W' _ (HRING2.out.ext (hx6.trans h))
  have HRIGHT : Hid (∀ W', Ext (w4.alloc (.cells ZR.toArray 39)).drew W' → _) := Lib.hid fun W' h => HRI.out W' (hx6.trans h)
  have HX6 := Lib.hid hx6
  clear hx6 HX5 HSB0
  generalize (w4.alloc (.cells ZR.toArray 39)) = w5 at *
  refine stab_plain Ext ext_refl ext_trans [[0], [0, 1], [0, 1, 2], [0, 1, 2, 3], [0, 1, 2, 3, 4], [0, 1, 2, 3, 4, 5], [0, 1, 2, 3, 4, 5, 6], [0, 1, 2, 3, 4, 5, 6, 7], [0, 1, 2, 3, 4, 5, 6, 7, 8], [0, 1, 2, 3, 4, 5, 6, 7, 8, 9], [0, 1, 2, 3, 4, 5, 6, 7, 8, 9, 10], [0, 1, 2, 3, 4, 5, 6, 7, 8, 9, 10, 11], [0, 1, 2, 3, 4, 5, 6, 7, 8, 9, 10, 11, 12], [0, 1, 2, 3, 4, 5, 6, 7, 8, 9, 10, 11, 12, 13], [0, 1, 2, 3, 4, 5, 6, 7, 8, 9, 10, 11, 12, 13, 14], [0, 1, 2, 3, 4, 5, 6, 7, 8, 9, 10, 11, 12, 13, 14, 15], [0, 1, 2, 3, 4, 5, 6, 7, 8, 9, 10, 11, 12, 13, 14, 15, 16], [0, 1, 2, 3, 4, 5, 6, 7, 8, 9, 10, 11, 12, 13, 14, 15, 16, 17], [0, 1, 2, 3, 4, 5, 6, 7, 8, 9, 10, 11, 12, 13, 14, 15, 16, 18], [0, 1, 2, 3, 4, 5, 6, 7, 8, 9, 10, 11, 12, 13, 14, 15, 16, 18, 19], [0, 1, 2, 3, 4, 5, 6, 7, 8, 9, 10, 11, 12, 13, 14, 15, 16, 20], [0, 1, 2, 3, 4, 5, 6, 7, 8, 9, 10, 11, 12, 13, 14, 15, 16, 17, 18, 19, 20, 21], [0, 1, 2, 3, 4, 5, 6, 7, 8, 9, 10, 11, 12, 13, 14, 15, 16, 17, 18, 19, 20, 21, 22], [0, 1, 2, 3, 4, 5, 6, 7, 8, 9, 10, 11, 12, 13, 14, 15, 16, 17, 18, 19, 20, 21, 22, 23]] (fun i v wv => match i with | 0 => v = .int .i64 0 | 1 => v = .bool true | 2 => v = .bool true | 3 => v = .int .i64 0 | 4 => v = .bool true | 5 => v = .bool true | 6 => v = .bool true | 7 => v = .int .i64 21 | 8 => v = .bool true | 9 => v = .bool true | 10 => v = .bool true | 11 => v = .pointer (some ⟨w2.heap.size, 1025, none⟩) | 12 => v = .slice A 0 c | 13 => v = .int .i64 0 | 14 => v = .bool true | 15 => v = .bool true | 16 => v = .bool true | 17 => v = .agg M.toArray | 18 => v = .pointer (some ⟨g, 0, none⟩) | 19 => v = .agg RT.toArray | 20 => v = .agg D1.toArray | 21 => v = .bool true | 22 => v = .bool true | 23 => v = .bool true | _ => True) (by kernel_rfl) (by kernel_rfl) (by kernel_rfl) ?_ ?_ ?_
  · intro i v w1 w2 h hx
    match i, h with
    | 0, h => exact h
    | 1, h => exact h
    | 2, h => exact h
    | 3, h => exact h
    | 4, h => exact h
    | 5, h => exact h
    | 6, h => exact h
    | 7, h => exact h
    | 8, h => exact h
    | 9, h => exact h
    | 10, h => exact h
    | 11, h => exact h
    | 12, h => exact h
    | 13, h => exact h
    | 14, h => exact h
    | 15, h => exact h
    | 16, h => exact h
    | 17, h => exact h
    | 18, h => exact h
    | 19, h => exact h
    | 20, h => exact h
    | 21, h => exact h
    | 22, h => exact h
    | 23, h => exact h
    | i + 24, h => trivial
  · intro i hi o ho
    match i, hi, ho with
    | 0, _, ho =>
      obtain rfl := Option.some.inj ho
      intro s W hX hd K hK
      rw [if_pos (wanted_plain rfl)]
      clear hd
      replace hK : ∀ (v : Value) (W' : World), Ext W W' → (v = .int .i64 0) → _ := hK
      simp only [mkOf, List.map_cons, List.map_nil, Act.put, List.setIfInBounds_toArray, List.set_cons_succ, List.set_cons_zero, Nat.reduceAdd, Nat.zero_add] at hK ⊢
      go_simp
      exact hK _ _ (Ext.refl _) rfl
    | 1, _, ho =>
      obtain rfl := Option.some.inj ho
      intro s W hX hd K hK
      rw [if_pos (wanted_plain rfl)]
      have d24 : (s 0) = .int .i64 0 := hd 0 (by decide) (by decide)
      clear hd
      replace hK : ∀ (v : Value) (W' : World), Ext W W' → (v = .bool true) → _ := hK
      simp only [mkOf, List.map_cons, List.map_nil, Act.put, List.setIfInBounds_toArray, List.set_cons_succ, List.set_cons_zero, Nat.reduceAdd, Nat.zero_add] at hK ⊢
      simp only [d24] at hK ⊢
      go_simp
      exact hK _ _ (Ext.refl _) rfl
    | 2, _, ho =>
      obtain rfl := Option.some.inj ho
      intro s W hX hd K hK
      rw [if_pos (wanted_plain rfl)]
      have d25 : (s 1) = .bool true := hd 1 (by decide) (by decide)
      clear hd
      replace hK : ∀ (v : Value) (W' : World), Ext W W' → (v = .bool true) → _ := hK
      simp only [mkOf, List.map_cons, List.map_nil, Act.put, List.setIfInBounds_toArray, List.set_cons_succ, List.set_cons_zero, Nat.reduceAdd, Nat.zero_add] at hK ⊢
      simp only [d25] at hK ⊢
      go_simp
      exact hK _ _ (Ext.refl _) rfl
    | 3, _, ho =>
      obtain rfl := Option.some.inj ho
      intro s W hX hd K hK
      have d26 : (s 2) = .bool true := hd 2 (by decide) (by decide)
      clear hd
      replace hK : ∀ (v : Value) (W' : World), Ext W W' → (v = .int .i64 0) → _ := hK
      simp only [mkOf, List.map_cons, List.map_nil, Act.put, List.setIfInBounds_toArray, List.set_cons_succ, List.set_cons_zero, Nat.reduceAdd, Nat.zero_add] at hK ⊢
      simp only [d26] at hK ⊢
      rw [if_pos (by kernel_rfl)]
      go_simp
      exact hK _ _ (Ext.refl _) rfl
    | 4, _, ho =>
      obtain rfl := Option.some.inj ho
      intro s W hX hd K hK
      have d26 : (s 2) = .bool true := hd 2 (by decide) (by decide)
      have d27 : (s 3) = .int .i64 0 := hd 3 (by decide) (by decide)
      clear hd
      replace hK : ∀ (v : Value) (W' : World), Ext W W' → (v = .bool true) → _ := hK
      simp only [mkOf, List.map_cons, List.map_nil, Act.put, List.setIfInBounds_toArray, List.set_cons_succ, List.set_cons_zero, Nat.reduceAdd, Nat.zero_add] at hK ⊢
      simp only [d26, d27] at hK ⊢
      rw [if_pos (by kernel_rfl)]
      go_simp
      exact hK _ _ (Ext.refl _) rfl
    | 5, _, ho =>
      obtain rfl := Option.some.inj ho
      intro s W hX hd K hK
      rw [if_pos (wanted_plain rfl)]
      have d26 : (s 2) = .bool true := hd 2 (by decide) (by decide)
      have d28 : (s 4) = .bool true := hd 4 (by decide) (by decide)
      clear hd
      replace hK : ∀ (v : Value) (W' : World), Ext W W' → (v = .bool true) → _ := hK
      simp only [mkOf, List.map_cons, List.map_nil, Act.put, List.setIfInBounds_toArray, List.set_cons_succ, List.set_cons_zero, Nat.reduceAdd, Nat.zero_add] at hK ⊢
      simp only [d26, d28] at hK ⊢
      go_simp
      exact hK _ _ (Ext.refl _) rfl
    | 6, _, ho =>
      obtain rfl := Option.some.inj ho
      intro s W hX hd K hK
      rw [if_pos (wanted_plain rfl)]
      have d29 : (s 5) = .bool true := hd 5 (by decide) (by decide)
      clear hd
      replace hK : ∀ (v : Value) (W' : World), Ext W W' → (v = .bool true) → _ := hK
      simp only [mkOf, List.map_cons, List.map_nil, Act.put, List.setIfInBounds_toArray, List.set_cons_succ, List.set_cons_zero, Nat.reduceAdd, Nat.zero_add] at hK ⊢
      simp only [d29] at hK ⊢
      go_simp
      exact hK _ _ (Ext.refl _) rfl
    | 7, _, ho =>
      obtain rfl := Option.some.inj ho
      intro s W hX hd K hK
      have d30 : (s 6) = .bool true := hd 6 (by decide) (by decide)
      clear hd
      replace hK : ∀ (v : Value) (W' : World), Ext W W' → (v = .int .i64 21) → _ := hK
      simp only [mkOf, List.map_cons, List.map_nil, Act.put, List.setIfInBounds_toArray, List.set_cons_succ, List.set_cons_zero, Nat.reduceAdd, Nat.zero_add] at hK ⊢
      simp only [d30] at hK ⊢
      rw [if_pos (by kernel_rfl)]
      go_simp
      exact hK _ _ (Ext.refl _) rfl
    | 8, _, ho =>
      obtain rfl := Option.some.inj ho
      intro s W hX hd K hK
      have d30 : (s 6) = .bool true := hd 6 (by decide) (by decide)
      have d31 : (s 7) = .int .i64 21 := hd 7 (by decide) (by decide)
      clear hd
      replace hK : ∀ (v : Value) (W' : World), Ext W W' → (v = .bool true) → _ := hK
      simp only [mkOf, List.map_cons, List.map_nil, Act.put, List.setIfInBounds_toArray, List.set_cons_succ, List.set_cons_zero, Nat.reduceAdd, Nat.zero_add] at hK ⊢
      simp only [d30, d31] at hK ⊢
      rw [if_pos (by kernel_rfl)]
      go_simp
      exact hK _ _ (Ext.refl _) rfl
    | 9, _, ho =>
      obtain rfl := Option.some.inj ho
      intro s W hX hd K hK
      rw [if_pos (wanted_plain rfl)]
      have d30 : (s 6) = .bool true := hd 6 (by decide) (by decide)
      have d32 : (s 8) = .bool true := hd 8 (by decide) (by decide)
      clear hd
      replace hK : ∀ (v : Value) (W' : World), Ext W W' → (v = .bool true) → _ := hK
      simp only [mkOf, List.map_cons, List.map_nil, Act.put, List.setIfInBounds_toArray, List.set_cons_succ, List.set_cons_zero, Nat.reduceAdd, Nat.zero_add] at hK ⊢
      simp only [d30, d32] at hK ⊢
      go_simp
      exact hK _ _ (Ext.refl _) rfl
    | 10, _, ho =>
      obtain rfl := Option.some.inj ho
      intro s W hX hd K hK
      rw [if_pos (wanted_plain rfl)]
      have d33 : (s 9) = .bool true := hd 9 (by decide) (by decide)
      clear hd
      replace hK : ∀ (v : Value) (W' : World), Ext W W' → (v = .bool true) → _ := hK
      simp only [mkOf, List.map_cons, List.map_nil, Act.put, List.setIfInBounds_toArray, List.set_cons_succ, List.set_cons_zero, Nat.reduceAdd, Nat.zero_add] at hK ⊢
      simp only [d33] at hK ⊢
      go_simp
      exact hK _ _ (Ext.refl _) rfl
    | 11, _, ho =>
      obtain rfl := Option.some.inj ho
      intro s W hX hd K hK
      have d34 : (s 10) = .bool true := hd 10 (by decide) (by decide)
      clear hd
      replace hK : ∀ (v : Value) (W' : World), Ext W W' → (v = .pointer (some ⟨w2.heap.size, 1025, none⟩)) → _ := hK
      simp only [mkOf, List.map_cons, List.map_nil, Act.put, List.setIfInBounds_toArray, List.set_cons_succ, List.set_cons_zero, Nat.reduceAdd, Nat.zero_add] at hK ⊢
      simp only [d34] at hK ⊢
      rw [if_pos (by kernel_rfl)]
      go_simp
      exact hK _ _ (Ext.refl _) rfl
    | 12, _, ho =>
      obtain rfl := Option.some.inj ho
      intro s W hX hd K hK
      have d34 : (s 10) = .bool true := hd 10 (by decide) (by decide)
      have d35 : (s 11) = .pointer (some ⟨w2.heap.size, 1025, none⟩) := hd 11 (by decide) (by decide)
      clear hd
      replace hK : ∀ (v : Value) (W' : World), Ext W W' → (v = .slice A 0 c) → _ := hK
      simp only [mkOf, List.map_cons, List.map_nil, Act.put, List.setIfInBounds_toArray, List.set_cons_succ, List.set_cons_zero, Nat.reduceAdd, Nat.zero_add] at hK ⊢
      simp only [d34, d35] at hK ⊢
      rw [if_pos (by kernel_rfl)]
      have c25 := (HSB.out.keep hX (by simp)).cell 1025
      rw [HSW.out] at c25
      go_simp
      exact hK _ _ (Ext.refl _) rfl
    | 13, _, ho =>
      obtain rfl := Option.some.inj ho
      intro s W hX hd K hK
      have d34 : (s 10) = .bool true := hd 10 (by decide) (by decide)
      have d36 : (s 12) = .slice A 0 c := hd 12 (by decide) (by decide)
      clear hd
      replace hK : ∀ (v : Value) (W' : World), Ext W W' → (v = .int .i64 0) → _ := hK
      simp only [mkOf, List.map_cons, List.map_nil, Act.put, List.setIfInBounds_toArray, List.set_cons_succ, List.set_cons_zero, Nat.reduceAdd, Nat.zero_add] at hK ⊢
      simp only [d34, d36] at hK ⊢
      rw [if_pos (by kernel_rfl)]
      go_simp
      exact hK _ _ (Ext.refl _) rfl
    | 14, _, ho =>
      obtain rfl := Option.some.inj ho
      intro s W hX hd K hK
      have d34 : (s 10) = .bool true := hd 10 (by decide) (by decide)
      have d37 : (s 13) = .int .i64 0 := hd 13 (by decide) (by decide)
      clear hd
      replace hK : ∀ (v : Value) (W' : World), Ext W W' → (v = .bool true) → _ := hK
      simp only [mkOf, List.map_cons, List.map_nil, Act.put, List.setIfInBounds_toArray, List.set_cons_succ, List.set_cons_zero, Nat.reduceAdd, Nat.zero_add] at hK ⊢
      simp only [d34, d37] at hK ⊢
      rw [if_pos (by kernel_rfl)]
      go_simp
      exact hK _ _ (Ext.refl _) rfl
    | 15, _, ho =>
      obtain rfl := Option.some.inj ho
      intro s W hX hd K hK
      rw [if_pos (wanted_plain rfl)]
      have d34 : (s 10) = .bool true := hd 10 (by decide) (by decide)
      have d38 : (s 14) = .bool true := hd 14 (by decide) (by decide)
      clear hd
      replace hK : ∀ (v : Value) (W' : World), Ext W W' → (v = .bool true) → _ := hK
      simp only [mkOf, List.map_cons, List.map_nil, Act.put, List.setIfInBounds_toArray, List.set_cons_succ, List.set_cons_zero, Nat.reduceAdd, Nat.zero_add] at hK ⊢
      simp only [d34, d38] at hK ⊢
      go_simp
      exact hK _ _ (Ext.refl _) rfl
    | 16, _, ho =>
      obtain rfl := Option.some.inj ho
      intro s W hX hd K hK
      rw [if_pos (wanted_plain rfl)]
      have d39 : (s 15) = .bool true := hd 15 (by decide) (by decide)
      clear hd
      replace hK : ∀ (v : Value) (W' : World), Ext W W' → (v = .bool true) → _ := hK
      simp only [mkOf, List.map_cons, List.map_nil, Act.put, List.setIfInBounds_toArray, List.set_cons_succ, List.set_cons_zero, Nat.reduceAdd, Nat.zero_add] at hK ⊢
      simp only [d39] at hK ⊢
      go_simp
      exact hK _ _ (Ext.refl _) rfl
    | 17, _, ho =>
      obtain rfl := Option.some.inj ho
      intro s W hX hd K hK
      have d40 : (s 16) = .bool true := hd 16 (by decide) (by decide)
      clear hd
      replace hK : ∀ (v : Value) (W' : World), Ext W W' → (v = .agg M.toArray) → _ := hK
      simp only [mkOf, List.map_cons, List.map_nil, Act.put, List.setIfInBounds_toArray, List.set_cons_succ, List.set_cons_zero, Nat.reduceAdd, Nat.zero_add] at hK ⊢
      simp only [d40] at hK ⊢
      rw [if_pos (by kernel_rfl)]
      refine wp_load_agg 39 (.tmp 3) rfl _ rfl M _ Try.underlying39 rfl (szOutTo05 HML.out) (HSB.out.keep hX (by simp)).cells ?_
      exact hK _ _ (Ext.refl _) rfl
    | 18, _, ho =>
      obtain rfl := Option.some.inj ho
      intro s W hX hd K hK
      have d40 : (s 16) = .bool true := hd 16 (by decide) (by decide)
      clear hd
      replace hK : ∀ (v : Value) (W' : World), Ext W W' → (v = .pointer (some ⟨g, 0, none⟩)) → _ := hK
      simp only [mkOf, List.map_cons, List.map_nil, Act.put, List.setIfInBounds_toArray, List.set_cons_succ, List.set_cons_zero, Nat.reduceAdd, Nat.zero_add] at hK ⊢
      simp only [d40] at hK ⊢
      rw [if_pos (by kernel_rfl)]
      go_simp
      exact hK _ _ (Ext.refl _) rfl
    | 19, _, ho =>
      obtain rfl := Option.some.inj ho
      intro s W hX hd K hK
      have d40 : (s 16) = .bool true := hd 16 (by decide) (by decide)
      have d42 : (s 18) = .pointer (some ⟨g, 0, none⟩) := hd 18 (by decide) (by decide)
      clear hd
      replace hK : ∀ (v : Value) (W' : World), Ext W W' → (v = .agg RT.toArray) → _ := hK
      simp only [mkOf, List.map_cons, List.map_nil, Act.put, List.setIfInBounds_toArray, List.set_cons_succ, List.set_cons_zero, Nat.reduceAdd, Nat.zero_add] at hK ⊢
      simp only [d40, d42] at hK ⊢
      rw [if_pos (by kernel_rfl)]
      go_simp
      refine (HROOT.out _ hX).mono ?_
      rintro e w' ⟨rfl, hx⟩
      exact hK _ _ hx rfl
    | 20, _, ho =>
      obtain rfl := Option.some.inj ho
      intro s W hX hd K hK
      have d40 : (s 16) = .bool true := hd 16 (by decide) (by decide)
      clear hd
      replace hK : ∀ (v : Value) (W' : World), Ext W W' → (v = .agg D1.toArray) → _ := hK
      simp only [mkOf, List.map_cons, List.map_nil, Act.put, List.setIfInBounds_toArray, List.set_cons_succ, List.set_cons_zero, Nat.reduceAdd, Nat.zero_add] at hK ⊢
      simp only [d40] at hK ⊢
      rw [if_pos (by kernel_rfl)]
      refine wp_known _ (HD1.out _ _ W rfl) ?_
      exact hK _ _ (Ext.refl _) rfl
    | 21, _, ho =>
      obtain rfl := Option.some.inj ho
      intro s W hX hd K hK
      have d40 : (s 16) = .bool true := hd 16 (by decide) (by decide)
      have d41 : (s 17) = .agg M.toArray := hd 17 (by decide) (by decide)
      have d43 : (s 19) = .agg RT.toArray := hd 19 (by decide) (by decide)
      have d44 : (s 20) = .agg D1.toArray := hd 20 (by decide) (by decide)
      clear hd
      replace hK : ∀ (v : Value) (W' : World), Ext W W' → (v = .bool true) → _ := hK
      simp only [mkOf, List.map_cons, List.map_nil, Act.put, List.setIfInBounds_toArray, List.set_cons_succ, List.set_cons_zero, Nat.reduceAdd, Nat.zero_add] at hK ⊢
      simp only [d40, d41, d43, d44] at hK ⊢
      rw [if_pos (by kernel_rfl)]
      go_simp
      refine (HRIGHT.out _ hX).mono ?_
      rintro e w' ⟨rfl, hx⟩
      exact hK _ _ hx rfl
    | 22, _, ho =>
      obtain rfl := Option.some.inj ho
      intro s W hX hd K hK
      rw [if_pos (wanted_plain rfl)]
      have d40 : (s 16) = .bool true := hd 16 (by decide) (by decide)
      have d45 : (s 21) = .bool true := hd 21 (by decide) (by decide)
      clear hd
      replace hK : ∀ (v : Value) (W' : World), Ext W W' → (v = .bool true) → _ := hK
      simp only [mkOf, List.map_cons, List.map_nil, Act.put, List.setIfInBounds_toArray, List.set_cons_succ, List.set_cons_zero, Nat.reduceAdd, Nat.zero_add] at hK ⊢
      simp only [d40, d45] at hK ⊢
      go_simp
      exact hK _ _ (Ext.refl _) rfl
    | 23, _, ho =>
      obtain rfl := Option.some.inj ho
      intro s W hX hd K hK
      rw [if_pos (wanted_plain rfl)]
      have d46 : (s 22) = .bool true := hd 22 (by decide) (by decide)
      clear hd
      replace hK : ∀ (v : Value) (W' : World), Ext W W' → (v = .bool true) → _ := hK
      simp only [mkOf, List.map_cons, List.map_nil, Act.put, List.setIfInBounds_toArray, List.set_cons_succ, List.set_cons_zero, Nat.reduceAdd, Nat.zero_add] at hK ⊢
      simp only [d46] at hK ⊢
      go_simp
      exact hK _ _ (Ext.refl _) rfl
    | i + 24, hi, _ => exact absurd hi (by simp)
  · intro s W hX hd
    have d24 : (s 0) = .int .i64 0 := hd 0 (by decide)
    have d25 : (s 1) = .bool true := hd 1 (by decide)
    have d26 : (s 2) = .bool true := hd 2 (by decide)
    have d27 : (s 3) = .int .i64 0 := hd 3 (by decide)
    have d28 : (s 4) = .bool true := hd 4 (by decide)
    have d29 : (s 5) = .bool true := hd 5 (by decide)
    have d30 : (s 6) = .bool true := hd 6 (by decide)
    have d31 : (s 7) = .int .i64 21 := hd 7 (by decide)
    have d32 : (s 8) = .bool true := hd 8 (by decide)
    have d33 : (s 9) = .bool true := hd 9 (by decide)
    have d34 : (s 10) = .bool true := hd 10 (by decide)
    have d35 : (s 11) = .pointer (some ⟨w2.heap.size, 1025, none⟩) := hd 11 (by decide)
    have d36 : (s 12) = .slice A 0 c := hd 12 (by decide)
    have d37 : (s 13) = .int .i64 0 := hd 13 (by decide)
    have d38 : (s 14) = .bool true := hd 14 (by decide)
    have d39 : (s 15) = .bool true := hd 15 (by decide)
    have d40 : (s 16) = .bool true := hd 16 (by decide)
    have d41 : (s 17) = .agg M.toArray := hd 17 (by decide)
    have d42 : (s 18) = .pointer (some ⟨g, 0, none⟩) := hd 18 (by decide)
    have d43 : (s 19) = .agg RT.toArray := hd 19 (by decide)
    have d44 : (s 20) = .agg D1.toArray := hd 20 (by decide)
    have d45 : (s 21) = .bool true := hd 21 (by decide)
    have d46 : (s 22) = .bool true := hd 22 (by decide)
    have d0 : (s 23) = .bool true := hd 23 (by decide)
    clear hd
    simp only [mkOf, List.map_cons, List.map_nil, Act.put, List.setIfInBounds_toArray, List.set_cons_succ, List.set_cons_zero, Nat.reduceAdd, Nat.zero_add]
    (try simp only [Exit.then])
    go_wp2_with fail
    go_ret
    exact ⟨by simp [d0], HX2.out.trans (HX6.out.trans hX)⟩
end
section
open Go.RowKit

theorem wpList_bin2G {P : Program} {w : World} {ops : Array Oper} {rest : List Oper} {o : Oper} {a : Act} {Q : Exit → Act → World → Prop} (hgd : o.guard = none ∨ Region.wanted o (yielded ops a.tmps) = true) (op : BinOp) (t : TypeId) {t' : TypeId} (x y : Operand) (ho : o.op = .binOp op t x y t') (u v : Value) {r : Value} (hx : a.eval x = u) (hy : a.eval y = v)
    (hg : (eqGuard op t x y u v).run P w = .ok () w) (hb : (binOp op t u v).run P w = .ok r w) (h : wpList P ops Q rest (a.put o.dst r) w) : wpList P ops Q (o :: rest) a w :=
  wpList_want hgd fun K hK => wp_bin2 op t x y ho u v hx hy hg hb (hK _ _ h)
set_option maxRecDepth 100000 in
set_option maxHeartbeats 8000000 in
theorem Nil05 (key : Nat) (hkey : (Lit.int .u32 (key : Int)).wf = true) (d : Dg) (hd : List.length (α := UInt8) d = 32) (w : World) : Calls Try.prog 7 #[.int .u32 (key : Int), .agg (bv d).toArray] w fun e w' => e = .returned (.bool true) ∧ Ext w w' := by
  have hsg := fun W => Ring_Sign_nil key d W
  have hag := fun W => Ring_Again_nil key d W
  have hrt := fun W => Ring_Root_nil W
  have hbd : (Try.prog.built 55 []) = some (bv (List.replicate 32 0)).toArray := by kernel_rfl
  have heq := eqD_self (List.replicate 32 0) (by simp)
  have hzr := zSig_zero
  have hzl := zSig_len
  have hzo := zSig_one
  have hdl : (bv d).length = 32 := by rw [bv_length]; exact hd
  obtain ⟨ZR, hZR⟩ : ∃ ZR, ZR = zSig := ⟨_, rfl⟩
  rw [← hZR] at hsg hag hzr hzl hzo
  obtain ⟨D, hD⟩ : ∃ D, D = bv (List.replicate 32 0) := ⟨_, rfl⟩
  rw [← hD] at hrt hbd heq
  have hx0 : Ext w (w.alloc (.cells (bv d).toArray 31)) := (Ext.refl w).alloc _
  have hb0 : Blk (w.alloc (.cells (bv d).toArray 31)) w.heap.size 31 (bv d) := Blk.new _ _ _
  generalize bv d = DC at *
  have HSG := Lib.hid hsg
  have HAG := Lib.hid hag
  have HRT := Lib.hid hrt
  have HBD := Lib.hid hbd
  have HEQ := Lib.hid heq
  have HZL := Lib.hid hzl
  have HDL := Lib.hid hdl
  have HX0 := Lib.hid hx0
  have HB0 := Lib.hid hb0
  clear hsg hag hrt hbd heq hzl hdl hx0 hb0 hZR hD
  go_enter Try.func7, Try.ntmps7
  go_wp2_with (first
    | ((with_reducible refine wpDst 13 rfl ?_); refine wpList_load_agg _ rfl 31 (.tmp 3) rfl _ rfl DC _ Try.underlying31 rfl (szElTo05 HDL.out) (by exact HB0.out.cells) ?_)
    | (go_at_call 15; refine (HSG.out _).mono ?_; rintro e w1 ⟨rfl, hx1⟩
       have hx2 := hx1.alloc (.cells ZR.toArray 39)
       have HX2 := Lib.hid (HX0.out.trans hx2)
       have HB2 := Lib.hid (HB0.out.keep hx2 (by simp))
       clear hx1 hx2)
    | ((with_reducible refine wpDst 6 rfl ?_); refine wpList_alloc _ rfl 39 rfl _ hzr ?_)
    | ((with_reducible refine wpSto 6 15 rfl ?_); refine wpList_storeN rfl 39 (.tmp 6) (.tmp 15) rfl w1 rfl ZR ZR 39 rfl rfl (szOutTo05 HZL.out) rfl hzo ?_)
    | ((with_reducible refine wpDst 20 rfl ?_); refine wpList_load_agg _ rfl 31 (.tmp 3) rfl _ rfl DC _ Try.underlying31 rfl (szElTo05 HDL.out) (by exact HB2.out.cells) ?_)
    | (go_at_call 16; refine (HAG.out _).mono ?_; rintro e w3 ⟨rfl, hx3⟩
       have HX3 := Lib.hid (HX2.out.trans (hx3.alloc (.cells ZR.toArray 39)))
       clear hx3)
    | ((with_reducible refine wpDst 8 rfl ?_); refine wpList_alloc _ rfl 39 rfl _ hzr ?_)
    | ((with_reducible refine wpSto 8 22 rfl ?_); refine wpList_storeN rfl 39 (.tmp 8) (.tmp 22) rfl w3 rfl ZR ZR 39 rfl rfl (szOutTo05 HZL.out) rfl hzo ?_)
    | (go_at_call 9; refine (Awake05 _).mono ?_; rintro e w4 ⟨rfl, hx4⟩)
    | (go_at_call 21; refine (Ring_Spend_nil key _).mono ?_; rintro e w5 ⟨rfl, hx5⟩)
    | (go_at_call 19; refine (HRT.out _).mono ?_; rintro e w6 ⟨rfl, hx6⟩)
    | ((with_reducible refine wpDst 42 rfl ?_); go_must (refine wpList_build (.inr rfl) 55 #[] rfl (.agg D.toArray) (exec_build0 _ _ rfl HBD.out) ?_))
    | ((with_reducible refine wpDst 43 rfl ?_); go_must (refine wpList_bin2G (.inr rfl) .eql 55 (.tmp 41) (.tmp 42) rfl _ _ rfl rfl (HEQ.out.1 _ _ _) (HEQ.out.2 _) ?_))
    | (go_at_call 24; refine (Ring_Tall_nil _).mono ?_; rintro e w7 ⟨rfl, hx7⟩)
    | (go_at_call 20; refine (Ring_Taken_nil key _).mono ?_; rintro e w8 ⟨rfl, hx8⟩)
    | fail)
  go_ret
  exact ⟨rfl, HX3.out.trans (hx4.trans (hx5.trans (hx6.trans (hx7.trans hx8))))⟩
end
end Go.Proofs.Ytpdkmapogncgmaa

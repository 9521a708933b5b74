/- Walks and plain laws, put together in build order. Conditions: what each of them names. -/
import Derived.Test.YtpdkmapogncgmaaWfec5064fdf
set_option linter.unusedVariables false
set_option linter.unusedSimpArgs false
set_option linter.unnecessarySimpa false
namespace Go.Proofs.Ytpdkmapogncgmaa
section
open Go.RowKit

theorem rem_four (P : Program) (t : TypeId) {x : Nat} (w : World) : (binOp .rem t (.int .u8 (x : Int)) (.int .u8 4)).run P w = .ok (.int .u8 ((x % 4 : Nat) : Int)) w := by
  have h : (x : Int).tmod 4 = ((x % 4 : Nat) : Int) := by rw [Int.tmod_eq_emod_of_nonneg (by omega)]; rfl
  rw [← h]; rfl
theorem taken_self {tk : List Bool} {k : Nat} (h : k < tk.length) : takenM (tk.set k true) k = true := by simp [takenM, List.getD, h]
theorem taken_else {tk : List Bool} {k o : Nat} (h : k ≠ o) : takenM (tk.set k true) o = takenM tk o := by simp [takenM, List.getD, h]
theorem taken_none (n o : Nat) : takenM (List.replicate n false) o = false := by
  unfold takenM
  by_cases h : o < n
  · simp [List.getD, h]
  · simp [List.getD, h]
set_option maxRecDepth 100000 in
set_option maxHeartbeats 8000000 in
theorem Spends05 (seed : List UInt8) (hs : seed.length = 32) (x y : Nat) (d : Dg) (hd : List.length (α := UInt8) d = 32) (ed : Dg) (he : List.length (α := UInt8) ed = 32) (w : World) :
    Calls Try.prog 5 #[.agg (bv seed).toArray, .int .u8 (x : Int), .int .u8 (y : Int), .agg (bv d).toArray, .agg (bv ed).toArray] w fun e w' => e = .returned (.bool true) ∧ Ext w w' := by
  obtain ⟨kk, hkk⟩ : ∃ kk, kk = x % 4 := ⟨_, rfl⟩
  obtain ⟨oo, hoo⟩ : ∃ oo, oo = y % 4 := ⟨_, rfl⟩
  have hk4 : kk < 2 ^ 2 := by rw [hkk]; exact Nat.mod_lt _ (by decide)
  have ho4 : oo < 2 ^ 2 := by rw [hoo]; exact Nat.mod_lt _ (by decide)
  have hkw : (Lit.int .u32 (kk : Int)).wf = true := by simp [Lit.wf, IntKind.bits, IntKind.signed, IntKind.min, IntKind.max]; omega
  have how : (Lit.int .u32 (oo : Int)).wf = true := by simp [Lit.wf, IntKind.bits, IntKind.signed, IntKind.min, IntKind.max]; omega
  have hrk : ∀ (P : Program) (t : TypeId) (w : World), (binOp .rem t (.int .u8 (x : Int)) (.int .u8 4)).run P w = .ok (.int .u8 (kk : Int)) w := fun P t w => by rw [hkk]; exact rem_four P t w
  have hro : ∀ (P : Program) (t : TypeId) (w : World), (binOp .rem t (.int .u8 (y : Int)) (.int .u8 4)).run P w = .ok (.int .u8 (oo : Int)) w := fun P t w => by rw [hoo]; exact rem_four P t w
  clear hkk hoo
  have hnew := fun W => Ring_New seed hs 2 (by decide) W
  have hsp := fun (W : World) (g tb : Nat) (F : Fp) (R : Value) (tk : List Bool) (h : RingAt W g tb F R seed 2 tk) => Ring_Spend h kk hkw hk4
  have hno := fun (W : World) (g tb : Nat) (F : Fp) (R : Value) (tk : List Bool) (h : RingAt W g tb F R seed 2 (tk.set kk true)) (hl : tk.length = 4) => Ring_Sign_no h kk hkw hk4 (taken_self (by rw [hl]; exact hk4)) d
  have hag := fun (W : World) (g tb : Nat) (F : Fp) (R : Value) (tk : List Bool) (h : RingAt W g tb F R seed 2 (tk.set kk true)) (hl : tk.length = 4) => Ring_Again h kk hkw hk4 (taken_self (by rw [hl]; exact hk4)) ed he
  have hr1 := fun (u : Value) (F : Fp) (W : World) (hc : Ways W F u (wayM seed 2 kk)) (hF : ∀ b, F b → b < W.heap.size) => Right (signM seed kk ed) (signM_length _ _ _) kk u (wayM seed 2 kk) (rootM seed 2) (rootM_length _ _) ed he F W hc hF (by rw [wayM_length]; decide) hkw 2 (by decide) kk hkw
  have hrt1 : rightM (signM seed kk ed) kk (wayM seed 2 kk) (rootM seed 2) 2 kk ed = true := right_signed seed 2 kk ed hk4
  rw [hrt1] at hr1
  have hr2 := fun (u : Value) (F : Fp) (W : World) (hc : Ways W F u (wayM seed 2 oo)) (hF : ∀ b, F b → b < W.heap.size) => Right (signM seed oo d) (signM_length _ _ _) oo u (wayM seed 2 oo) (rootM seed 2) (rootM_length _ _) d hd F W hc hF (by rw [wayM_length]; decide) how 2 (by decide) oo how
  have hrt2 : rightM (signM seed oo d) oo (wayM seed 2 oo) (rootM seed 2) 2 oo d = true := right_signed seed 2 oo d ho4
  rw [hrt2] at hr2
  have hso := fun (W : World) (g tb : Nat) (F : Fp) (R : Value) (tk : List Bool) (h : RingAt W g tb F R seed 2 tk) (ht : takenM tk oo = false) => Ring_Sign h oo how ho4 ht d hd
  have hgl1 : (bv (signM seed kk ed)).length = 1024 := by rw [bv_length]; exact signM_length _ _ _
  have hgo1 := bv_one (signM seed kk ed)
  have hgl2 : (bv (signM seed oo d)).length = 1024 := by rw [bv_length]; exact signM_length _ _ _
  have hgo2 := bv_one (signM seed oo d)
  have hroot := fun (g tb : Nat) (F : Fp) (R : Value) (W : World) (tk : List Bool) (h : RingAt W g tb F R seed 2 tk) => Ring_Root h
  have hzr := zSig_zero
  have hzl := zSig_len
  have hzo := zSig_one
  have hsl : (bv seed).length = 32 := by rw [bv_length]; exact hs
  have hdl : (bv d).length = 32 := by rw [bv_length]; exact hd
  have hel : (bv ed).length = 32 := by rw [bv_length]; exact he
  obtain ⟨ZR, hZR⟩ : ∃ ZR, ZR = zSig := ⟨_, rfl⟩
  rw [← hZR] at hno hzr hzl hzo
  obtain ⟨RT, hRT⟩ : ∃ RT, RT = bv (rootM seed 2) := ⟨_, rfl⟩
  rw [← hRT] at hroot hr1 hr2
  obtain ⟨SG1, hSG1⟩ : ∃ SG, SG = bv (signM seed kk ed) := ⟨_, rfl⟩
  rw [← hSG1] at hag hr1 hgl1 hgo1
  obtain ⟨SG2, hSG2⟩ : ∃ SG, SG = bv (signM seed oo d) := ⟨_, rfl⟩
  rw [← hSG2] at hso hr2 hgl2 hgo2
  generalize bv seed = SC at *
  generalize bv d = DC at *
  generalize bv ed = EC at *
  have hx0 : Ext w (((w.alloc (.cells SC.toArray 31)).alloc (.cells DC.toArray 31)).alloc (.cells EC.toArray 31)) := (((Ext.refl w).alloc _).alloc _).alloc _
  have hbs : Blk (((w.alloc (.cells SC.toArray 31)).alloc (.cells DC.toArray 31)).alloc (.cells EC.toArray 31)) w.heap.size 31 SC := ((Blk.new _ _ _).keep ((Ext.refl _).alloc _) (by simp)).keep ((Ext.refl _).alloc _) (by simp)
  have hbd : Blk (((w.alloc (.cells SC.toArray 31)).alloc (.cells DC.toArray 31)).alloc (.cells EC.toArray 31)) (w.heap.size + 1) 31 DC := (Blk.fresh (by simp) _ _).keep ((Ext.refl _).alloc _) (by simp)
  have hbe : Blk (((w.alloc (.cells SC.toArray 31)).alloc (.cells DC.toArray 31)).alloc (.cells EC.toArray 31)) (w.heap.size + 2) 31 EC := Blk.fresh (by simp) _ _
  have hsz : (((w.alloc (.cells SC.toArray 31)).alloc (.cells DC.toArray 31)).alloc (.cells EC.toArray 31)).heap.size = w.heap.size + 3 := by simp
  have HNEW := Lib.hid hnew
  have HSP := Lib.hid hsp
  have HNO := Lib.hid hno
  have HAG := Lib.hid hag
  have HR1 := Lib.hid hr1
  have HR2 := Lib.hid hr2
  have HSO := Lib.hid hso
  have HGL1 := Lib.hid hgl1
  have HGL2 := Lib.hid hgl2
  have HRT0 := Lib.hid hroot
  have HZL := Lib.hid hzl
  have HSL := Lib.hid hsl
  have HDL := Lib.hid hdl
  have HEL := Lib.hid hel
  have HX0 := Lib.hid hx0
  have HBS := Lib.hid hbs
  have HBD := Lib.hid hbd
  have HBE := Lib.hid hbe
  have HRK := Lib.hid hrk
  have HRO := Lib.hid hro
  have HOW := Lib.hid how
  have HSZ := Lib.hid hsz
  clear hnew hsp hno hag hr1 hr2 hso hgl1 hgl2 hroot hzl hsl hdl hel hx0 hbs hbd hbe hrt1 hrt2 hZR hRT hSG1 hSG2 hrk hro hkw how hd he hsz
  have hk4' : kk < 4 := hk4
  have ho4' : oo < 4 := ho4
  clear hk4 ho4
  go_enter Try.func5, Try.ntmps5
  go_wp2_with (first
    | ((with_reducible refine wpDst 22 rfl ?_); refine wpList_load_agg _ rfl 31 (.tmp 5) rfl _ rfl SC _ Try.underlying31 rfl (szElTo05 HSL.out) (by exact HBS.out.cells) ?_)
    | (go_at_call 14; refine (HNEW.out _).mono ?_; rintro e w1 ⟨g, tb, F, R, rfl, hring, hx1, hg1, htb1, hF1⟩
       have HRING := Lib.hid hring
       have HX1 := Lib.hid (HX0.out.trans hx1)
       have HBD1 := Lib.hid (HBD.out.keep hx1 (by simp))
       have HBE1 := Lib.hid (HBE.out.keep hx1 (by simp))
       have HTB : Hid (w.heap.size + 3 ≤ tb) := Lib.hid (by have h1 := HSZ.out; omega)
       clear hring hx1 hg1 htb1 hF1)
    | ((with_reducible refine wpDst 27 rfl ?_); refine wpList_bin2 rfl .rem 5 (.tmp 26) _ rfl (.int .u8 (x : Int)) (.int .u8 4) rfl rfl rfl (HRK.out _ _ _) ?_)
    | ((with_reducible refine wpDst 30 rfl ?_); refine wpList_bin2 rfl .rem 5 (.tmp 29) _ rfl (.int .u8 (y : Int)) (.int .u8 4) rfl rfl rfl (HRO.out _ _ _) ?_)
    | (go_at_call 21; refine (HSP.out _ _ _ _ _ _ HRING.out).mono ?_; rintro e w2 ⟨rfl, hring2, hg2⟩
       have HRING2 := Lib.hid hring2
       have HX2 : Hid (Ext w w2) := Lib.hid (grown_then HX1.out hg2 (.inr (by rintro b ⟨⟩; have := HTB.out; omega)))
       have HBD2 := Lib.hid (HBD1.out.keep hg2 (by have := HTB.out; simp; omega))
       have HBE2 := Lib.hid (HBE1.out.keep hg2 (by have := HTB.out; simp; omega))
       clear hring2 hg2)
    | ((with_reducible refine wpDst 43 rfl ?_); refine wpList_load_agg _ rfl 31 (.tmp 8) rfl _ rfl DC _ Try.underlying31 rfl (szElTo05 HDL.out) (by exact HBD2.out.cells) ?_)
    | fail)
  refine (HNO.out _ _ _ _ _ _ HRING2.out (by simp)).mono ?_
  rintro e w3 ⟨rfl, hx3⟩
  have hx4 : Ext w2 (w3.alloc (.cells ZR.toArray 39)) := hx3.alloc _
  have HRING4 := Lib.hid (HRING2.out.ext hx4)
  have HX4 := Lib.hid (HX2.out.trans hx4)
  have HBD4 := Lib.hid (HBD2.out.keep hx4 (by simp))
  have HBE4 := Lib.hid (HBE2.out.keep hx4 (by simp))
  clear hx3 hx4 HRING2 HX2 HBD2 HBE2
  go_wp2_with (first
    | ((with_reducible refine wpDst 15 rfl ?_); refine wpList_alloc _ rfl 39 rfl _ hzr ?_)
    | ((with_reducible refine wpSto 15 45 rfl ?_); refine wpList_storeN rfl 39 (.tmp 15) (.tmp 45) rfl w3 rfl ZR ZR 39 rfl rfl (szOutTo05 HZL.out) rfl hzo ?_)
    | ((with_reducible refine wpDst 50 rfl ?_); refine wpList_load_agg _ rfl 31 (.tmp 9) rfl _ rfl EC _ Try.underlying31 rfl (szElTo05 HEL.out) (by exact HBE4.out.cells) ?_)
    | fail)
  refine (HAG.out _ _ _ _ _ _ HRING4.out (by simp)).mono ?_
  rintro e w5 ⟨v, rfl, hov, hx5, hvn⟩
  obtain ⟨A1, c1, hv1⟩ := hov.2.form
  have hml1 := sigC_len HGL1.out kk v
  have hmo1 : ∀ u ∈ sigC SG1 kk v, u.oneCell' = true := by rw [hv1]; exact sigC_one hgo1 _ _ _ _
  have HRI1 := Lib.hid (fun (W' : World) (h : Ext w5 W') => HR1.out v _ W' ((hov.ext h).holds) (fun b hb => Nat.lt_of_lt_of_le (hov.lt b hb) h.size))
  obtain ⟨M1, hM1⟩ : ∃ M, M = sigC SG1 kk v := ⟨_, rfl⟩
  rw [← hM1] at hml1 hmo1 HRI1 ⊢
  have HM1L := Lib.hid hml1
  clear hml1 hM1 hv1
  have hx6 : Ext w5 (w5.alloc (.cells M1.toArray 39)).drew := ((Ext.refl w5).alloc _).trans (Ext.refl _).drew
  have HM1B : Hid (Blk (w5.alloc (.cells M1.toArray 39)).drew w5.heap.size 39 M1) := Lib.hid ((Blk.new _ _ _).keep (Ext.refl _).drew (by simp))
  have HBE7 := Lib.hid (HBE4.out.keep (hx5.trans hx6) (by simp))
  have HBD7 := Lib.hid (HBD4.out.keep (hx5.trans hx6) (by simp))
  have HRING7 := Lib.hid (HRING4.out.ext (hx5.trans hx6))
  have HX7 := Lib.hid (HX4.out.trans (hx5.trans hx6))
  have HRIGHT7 : Hid (∀ W', Ext (w5.alloc (.cells M1.toArray 39)).drew W' → _) := Lib.hid fun W' h => HRI1.out W' (hx6.trans h)
  have HROOT7 : Hid (∀ W', Ext (w5.alloc (.cells M1.toArray 39)).drew W' → _) := Lib.hid fun W' h => HRT0.out g tb F R W' _ (HRING7.out.ext h)
  clear hov hx5 hvn hx6 HRI1 HRING4 HX4 HBD4 HBE4
  go_wp2_with (first
    | ((with_reducible refine wpDst 17 rfl ?_); refine wpList_alloc _ rfl 39 rfl _ hzr ?_)
    | ((with_reducible refine wpSto 17 52 rfl ?_); refine wpList_storeN rfl 39 (.tmp 17) (.tmp 52) rfl w5 rfl ZR M1 39 rfl rfl (szOutTo05 HM1L.out) (by rw [HM1L.out, HZL.out]) hmo1 ?_)
    | fail)
  refine stab_plain Ext ext_refl ext_trans [[0], [0, 1], [0, 1, 2], [0, 1, 2, 3], [0, 1, 2, 3, 4], [0, 1, 2, 3, 4, 5], [0, 1, 2, 3, 4, 5, 6], [0, 1, 2, 3, 4, 5, 6, 7], [0, 1, 2, 3, 4, 5, 6, 8], [0, 1, 2, 3, 4, 5, 6, 8, 9], [0, 1, 2, 3, 4, 5, 6, 10], [0, 1, 2, 3, 4, 5, 6, 11], [0, 1, 2, 3, 4, 5, 6, 7, 8, 9, 10, 11, 12], [0, 1, 2, 3, 4, 5, 6, 7, 8, 9, 10, 11, 12, 13], [0, 1, 2, 3, 4, 5, 6, 7, 8, 9, 10, 11, 12, 13, 14]] (fun i v wv => match i with | 0 => v = .int .i64 21 | 1 => v = .bool false | 2 => v = .bool false | 3 => v = .int .i64 0 | 4 => v = .bool false | 5 => v = .bool false | 6 => v = .bool false | 7 => v = .agg M1.toArray | 8 => v = .pointer (some ⟨g, 0, none⟩) | 9 => v = .agg RT.toArray | 10 => v = .int .u32 (kk : Int) | 11 => v = .agg EC.toArray | 12 => v = .bool true | 13 => v = .bool false | 14 => v = .bool false | _ => True) (by kernel_rfl) (by kernel_rfl) (by kernel_rfl) ?_ ?_ ?_
  · intro i v w1 w2 h hx
    match i, h with
    | 0, h => exact h
    | 1, h => exact h
    | 2, h => exact h
    | 3, h => exact h
    | 4, h => exact h
    | 5, h => exact h
    | 6, h => exact h
    | 7, h => exact h
    | 8, h => exact h
    | 9, h => exact h
    | 10, h => exact h
    | 11, h => exact h
    | 12, h => exact h
    | 13, h => exact h
    | 14, h => exact h
    | i + 15, h => trivial
  · intro i hi o ho
    match i, hi, ho with
    | 0, _, ho =>
      obtain rfl := Option.some.inj ho
      intro s W hX hd K hK
      rw [if_pos (wanted_plain rfl)]
      clear hd
      replace hK : ∀ (v : Value) (W' : World), Ext W W' → (v = .int .i64 21) → _ := hK
      simp only [mkOf, List.map_cons, List.map_nil, Act.put, List.setIfInBounds_toArray, List.set_cons_succ, List.set_cons_zero, Nat.reduceAdd, Nat.zero_add] at hK ⊢
      go_simp
      exact hK _ _ (Ext.refl _) rfl
    | 1, _, ho =>
      obtain rfl := Option.some.inj ho
      intro s W hX hd K hK
      rw [if_pos (wanted_plain rfl)]
      have d54 : (s 0) = .int .i64 21 := hd 0 (by decide) (by decide)
      clear hd
      replace hK : ∀ (v : Value) (W' : World), Ext W W' → (v = .bool false) → _ := hK
      simp only [mkOf, List.map_cons, List.map_nil, Act.put, List.setIfInBounds_toArray, List.set_cons_succ, List.set_cons_zero, Nat.reduceAdd, Nat.zero_add] at hK ⊢
      simp only [d54] at hK ⊢
      go_simp
      exact hK _ _ (Ext.refl _) rfl
    | 2, _, ho =>
      obtain rfl := Option.some.inj ho
      intro s W hX hd K hK
      rw [if_pos (wanted_plain rfl)]
      have d55 : (s 1) = .bool false := hd 1 (by decide) (by decide)
      clear hd
      replace hK : ∀ (v : Value) (W' : World), Ext W W' → (v = .bool false) → _ := hK
      simp only [mkOf, List.map_cons, List.map_nil, Act.put, List.setIfInBounds_toArray, List.set_cons_succ, List.set_cons_zero, Nat.reduceAdd, Nat.zero_add] at hK ⊢
      simp only [d55] at hK ⊢
      go_simp
      exact hK _ _ (Ext.refl _) rfl
    | 3, _, ho =>
      obtain rfl := Option.some.inj ho
      intro s W hX hd K hK
      have d56 : (s 2) = .bool false := hd 2 (by decide) (by decide)
      clear hd
      replace hK : ∀ (v : Value) (W' : World), Ext W W' → (v = .int .i64 0) → _ := hK
      simp only [mkOf, List.map_cons, List.map_nil, Act.put, List.setIfInBounds_toArray, List.set_cons_succ, List.set_cons_zero, Nat.reduceAdd, Nat.zero_add] at hK ⊢
      simp only [d56] at hK ⊢
      rw [if_pos (by kernel_rfl)]
      go_simp
      exact hK _ _ (Ext.refl _) rfl
    | 4, _, ho =>
      obtain rfl := Option.some.inj ho
      intro s W hX hd K hK
      have d56 : (s 2) = .bool false := hd 2 (by decide) (by decide)
      have d57 : (s 3) = .int .i64 0 := hd 3 (by decide) (by decide)
      clear hd
      replace hK : ∀ (v : Value) (W' : World), Ext W W' → (v = .bool false) → _ := hK
      simp only [mkOf, List.map_cons, List.map_nil, Act.put, List.setIfInBounds_toArray, List.set_cons_succ, List.set_cons_zero, Nat.reduceAdd, Nat.zero_add] at hK ⊢
      simp only [d56, d57] at hK ⊢
      rw [if_pos (by kernel_rfl)]
      go_simp
      exact hK _ _ (Ext.refl _) rfl
    | 5, _, ho =>
      obtain rfl := Option.some.inj ho
      intro s W hX hd K hK
      rw [if_pos (wanted_plain rfl)]
      have d56 : (s 2) = .bool false := hd 2 (by decide) (by decide)
      have d58 : (s 4) = .bool false := hd 4 (by decide) (by decide)
      clear hd
      replace hK : ∀ (v : Value) (W' : World), Ext W W' → (v = .bool false) → _ := hK
      simp only [mkOf, List.map_cons, List.map_nil, Act.put, List.setIfInBounds_toArray, List.set_cons_succ, List.set_cons_zero, Nat.reduceAdd, Nat.zero_add] at hK ⊢
      simp only [d56, d58] at hK ⊢
      go_simp
      exact hK _ _ (Ext.refl _) rfl
    | 6, _, ho =>
      obtain rfl := Option.some.inj ho
      intro s W hX hd K hK
      rw [if_pos (wanted_plain rfl)]
      have d59 : (s 5) = .bool false := hd 5 (by decide) (by decide)
      clear hd
      replace hK : ∀ (v : Value) (W' : World), Ext W W' → (v = .bool false) → _ := hK
      simp only [mkOf, List.map_cons, List.map_nil, Act.put, List.setIfInBounds_toArray, List.set_cons_succ, List.set_cons_zero, Nat.reduceAdd, Nat.zero_add] at hK ⊢
      simp only [d59] at hK ⊢
      go_simp
      exact hK _ _ (Ext.refl _) rfl
    | 7, _, ho =>
      obtain rfl := Option.some.inj ho
      intro s W hX hd K hK
      have d60 : (s 6) = .bool false := hd 6 (by decide) (by decide)
      clear hd
      replace hK : ∀ (v : Value) (W' : World), Ext W W' → (v = .agg M1.toArray) → _ := hK
      simp only [mkOf, List.map_cons, List.map_nil, Act.put, List.setIfInBounds_toArray, List.set_cons_succ, List.set_cons_zero, Nat.reduceAdd, Nat.zero_add] at hK ⊢
      simp only [d60] at hK ⊢
      rw [if_pos (by kernel_rfl)]
      refine wp_load_agg 39 (.tmp 17) rfl _ rfl M1 _ Try.underlying39 rfl (szOutTo05 HM1L.out) (HM1B.out.keep hX (by simp)).cells ?_
      exact hK _ _ (Ext.refl _) rfl
    | 8, _, ho =>
      obtain rfl := Option.some.inj ho
      intro s W hX hd K hK
      have d60 : (s 6) = .bool false := hd 6 (by decide) (by decide)
      clear hd
      replace hK : ∀ (v : Value) (W' : World), Ext W W' → (v = .pointer (some ⟨g, 0, none⟩)) → _ := hK
      simp only [mkOf, List.map_cons, List.map_nil, Act.put, List.setIfInBounds_toArray, List.set_cons_succ, List.set_cons_zero, Nat.reduceAdd, Nat.zero_add] at hK ⊢
      simp only [d60] at hK ⊢
      rw [if_pos (by kernel_rfl)]
      go_simp
      exact hK _ _ (Ext.refl _) rfl
    | 9, _, ho =>
      obtain rfl := Option.some.inj ho
      intro s W hX hd K hK
      have d60 : (s 6) = .bool false := hd 6 (by decide) (by decide)
      have d62 : (s 8) = .pointer (some ⟨g, 0, none⟩) := hd 8 (by decide) (by decide)
      clear hd
      replace hK : ∀ (v : Value) (W' : World), Ext W W' → (v = .agg RT.toArray) → _ := hK
      simp only [mkOf, List.map_cons, List.map_nil, Act.put, List.setIfInBounds_toArray, List.set_cons_succ, List.set_cons_zero, Nat.reduceAdd, Nat.zero_add] at hK ⊢
      simp only [d60, d62] at hK ⊢
      rw [if_pos (by kernel_rfl)]
      go_simp
      refine (HROOT7.out _ hX).mono ?_
      rintro e w' ⟨rfl, hx⟩
      exact hK _ _ hx rfl
    | 10, _, ho =>
      obtain rfl := Option.some.inj ho
      intro s W hX hd K hK
      have d60 : (s 6) = .bool false := hd 6 (by decide) (by decide)
      clear hd
      replace hK : ∀ (v : Value) (W' : World), Ext W W' → (v = .int .u32 (kk : Int)) → _ := hK
      simp only [mkOf, List.map_cons, List.map_nil, Act.put, List.setIfInBounds_toArray, List.set_cons_succ, List.set_cons_zero, Nat.reduceAdd, Nat.zero_add] at hK ⊢
      simp only [d60] at hK ⊢
      rw [if_pos (by kernel_rfl)]
      go_simp
      exact hK _ _ (Ext.refl _) rfl
    | 11, _, ho =>
      obtain rfl := Option.some.inj ho
      intro s W hX hd K hK
      have d60 : (s 6) = .bool false := hd 6 (by decide) (by decide)
      clear hd
      replace hK : ∀ (v : Value) (W' : World), Ext W W' → (v = .agg EC.toArray) → _ := hK
      simp only [mkOf, List.map_cons, List.map_nil, Act.put, List.setIfInBounds_toArray, List.set_cons_succ, List.set_cons_zero, Nat.reduceAdd, Nat.zero_add] at hK ⊢
      simp only [d60] at hK ⊢
      rw [if_pos (by kernel_rfl)]
      refine wp_load_agg 31 (.tmp 9) rfl _ rfl EC _ Try.underlying31 rfl (szElTo05 HEL.out) (HBE7.out.keep hX (by simp)).cells ?_
      exact hK _ _ (Ext.refl _) rfl
    | 12, _, ho =>
      obtain rfl := Option.some.inj ho
      intro s W hX hd K hK
      have d60 : (s 6) = .bool false := hd 6 (by decide) (by decide)
      have d61 : (s 7) = .agg M1.toArray := hd 7 (by decide) (by decide)
      have d63 : (s 9) = .agg RT.toArray := hd 9 (by decide) (by decide)
      have d64 : (s 10) = .int .u32 (kk : Int) := hd 10 (by decide) (by decide)
      have d65 : (s 11) = .agg EC.toArray := hd 11 (by decide) (by decide)
      clear hd
      replace hK : ∀ (v : Value) (W' : World), Ext W W' → (v = .bool true) → _ := hK
      simp only [mkOf, List.map_cons, List.map_nil, Act.put, List.setIfInBounds_toArray, List.set_cons_succ, List.set_cons_zero, Nat.reduceAdd, Nat.zero_add] at hK ⊢
      simp only [d60, d61, d63, d64, d65] at hK ⊢
      rw [if_pos (by kernel_rfl)]
      go_simp
      refine (HRIGHT7.out _ hX).mono ?_
      rintro e w' ⟨rfl, hx⟩
      exact hK _ _ hx rfl
    | 13, _, ho =>
      obtain rfl := Option.some.inj ho
      intro s W hX hd K hK
      have d60 : (s 6) = .bool false := hd 6 (by decide) (by decide)
      have d66 : (s 12) = .bool true := hd 12 (by decide) (by decide)
      clear hd
      replace hK : ∀ (v : Value) (W' : World), Ext W W' → (v = .bool false) → _ := hK
      simp only [mkOf, List.map_cons, List.map_nil, Act.put, List.setIfInBounds_toArray, List.set_cons_succ, List.set_cons_zero, Nat.reduceAdd, Nat.zero_add] at hK ⊢
      simp only [d60, d66] at hK ⊢
      rw [if_pos (by kernel_rfl)]
      go_simp
      exact hK _ _ (Ext.refl _) rfl
    | 14, _, ho =>
      obtain rfl := Option.some.inj ho
      intro s W hX hd K hK
      rw [if_pos (wanted_plain rfl)]
      have d60 : (s 6) = .bool false := hd 6 (by decide) (by decide)
      have d67 : (s 13) = .bool false := hd 13 (by decide) (by decide)
      clear hd
      replace hK : ∀ (v : Value) (W' : World), Ext W W' → (v = .bool false) → _ := hK
      simp only [mkOf, List.map_cons, List.map_nil, Act.put, List.setIfInBounds_toArray, List.set_cons_succ, List.set_cons_zero, Nat.reduceAdd, Nat.zero_add] at hK ⊢
      simp only [d60, d67] at hK ⊢
      go_simp
      exact hK _ _ (Ext.refl _) rfl
    | i + 15, hi, _ => exact absurd hi (by simp)
  · intro s W hX hd
    have d54 : (s 0) = .int .i64 21 := hd 0 (by decide)
    have d55 : (s 1) = .bool false := hd 1 (by decide)
    have d56 : (s 2) = .bool false := hd 2 (by decide)
    have d57 : (s 3) = .int .i64 0 := hd 3 (by decide)
    have d58 : (s 4) = .bool false := hd 4 (by decide)
    have d59 : (s 5) = .bool false := hd 5 (by decide)
    have d60 : (s 6) = .bool false := hd 6 (by decide)
    have d61 : (s 7) = .agg M1.toArray := hd 7 (by decide)
    have d62 : (s 8) = .pointer (some ⟨g, 0, none⟩) := hd 8 (by decide)
    have d63 : (s 9) = .agg RT.toArray := hd 9 (by decide)
    have d64 : (s 10) = .int .u32 (kk : Int) := hd 10 (by decide)
    have d65 : (s 11) = .agg EC.toArray := hd 11 (by decide)
    have d66 : (s 12) = .bool true := hd 12 (by decide)
    have d67 : (s 13) = .bool false := hd 13 (by decide)
    have d68 : (s 14) = .bool false := hd 14 (by decide)
    clear hd
    simp only [mkOf, List.map_cons, List.map_nil, Act.put, List.setIfInBounds_toArray, List.set_cons_succ, List.set_cons_zero, Nat.reduceAdd, Nat.zero_add]
    have HRINGW := Lib.hid (HRING7.out.ext hX)
    have HXW := Lib.hid (HX7.out.trans hX)
    have HBDW := Lib.hid (HBD7.out.keep hX (by simp))
    clear d54 d55 d56 d57 d58 d59 d60 d61 d62 d63 d64 d65 d66 d67 hX HM1B HBE7 HBD7 HRING7 HX7 HRIGHT7 HROOT7
    (try simp only [Exit.then])
    simp only [d68]
    by_cases hko : kk = oo
    · subst hko
      have HTK := Lib.hid (fun (W' : World) (h : Ext W W') => Ring_Taken (HRINGW.out.ext h) kk HOW.out)
      have HTE : Hid (takenM ((List.replicate (2 ^ 2) false).set kk true) kk = true) := Lib.hid (taken_self (by simp; omega))
      go_wp2_with (first
        | (go_at_call 9; refine (Awake05 _).mono ?_; rintro e w8 ⟨rfl, hx8⟩)
        | (go_at_call 20; refine (HTK.out _ hx8).mono ?_; rintro e w9 ⟨rfl, hx9⟩; rw [HTE.out])
        | fail)
      go_ret
      exact ⟨rfl, HXW.out.trans (hx8.trans hx9)⟩
    · have hko' : (kk : Int) ≠ (oo : Int) := by omega
      have HTK := Lib.hid (fun (W' : World) (h : Ext W W') => Ring_Taken (HRINGW.out.ext h) oo HOW.out)
      have HTE : Hid (takenM ((List.replicate (2 ^ 2) false).set kk true) oo = false) := Lib.hid ((taken_else hko).trans (taken_none _ _))
      go_wp2_with (first
        | (go_at_call 20; refine (HTK.out _ (Ext.refl W)).mono ?_; rintro e w9 ⟨rfl, hx9⟩; rw [HTE.out]
           have HBD9a := Lib.hid (HBDW.out.keep hx9 (by simp))
           have HRING9a := Lib.hid (HRINGW.out.ext hx9))
        | ((with_reducible refine wpDst 84 rfl ?_); refine wpList_load_agg _ rfl 31 (.tmp 8) rfl _ rfl DC _ Try.underlying31 rfl (szElTo05 HDL.out) (by exact HBD9a.out.cells) ?_)
        | fail)
      refine (HSO.out _ _ _ _ _ _ HRING9a.out HTE.out).mono ?_
      rintro e wa ⟨v2, rfl, hov2, hringa, hga, hvn2⟩
      obtain ⟨A2, c2, hv2⟩ := hov2.2.form
      have hml2 := sigC_len HGL2.out oo v2
      have hmo2 : ∀ u ∈ sigC SG2 oo v2, u.oneCell' = true := by rw [hv2]; exact sigC_one hgo2 _ _ _ _
      have HRI2 := Lib.hid (fun (W' : World) (h : Ext wa W') => HR2.out v2 _ W' ((hov2.ext h).holds) (fun b hb => Nat.lt_of_lt_of_le (hov2.lt b hb) h.size))
      obtain ⟨M2, hM2⟩ : ∃ M, M = sigC SG2 oo v2 := ⟨_, rfl⟩
      rw [← hM2] at hml2 hmo2 HRI2 ⊢
      have HM2L := Lib.hid hml2
      clear hml2 hM2 hv2
      have hxb : Ext wa (wa.alloc (.cells M2.toArray 39)).drew := ((Ext.refl wa).alloc _).trans (Ext.refl _).drew
      have HM2B : Hid (Blk (wa.alloc (.cells M2.toArray 39)).drew wa.heap.size 39 M2) := Lib.hid ((Blk.new _ _ _).keep (Ext.refl _).drew (by simp))
      have HBD9 := Lib.hid ((HBD9a.out.keep hga (by have := HTB.out; simp; omega)).keep hxb (by simp))
      have HRING9 := Lib.hid (hringa.ext hxb)
      have HX9 : Hid (Ext w (wa.alloc (.cells M2.toArray 39)).drew) := Lib.hid ((grown_then (HXW.out.trans hx9) hga (.inr (by rintro b ⟨⟩; have := HTB.out; omega)) : Ext w wa).trans hxb)
      have HRIGHT9 : Hid (∀ W', Ext (wa.alloc (.cells M2.toArray 39)).drew W' → _) := Lib.hid fun W' h => HRI2.out W' (hxb.trans h)
      have HROOT9 : Hid (∀ W', Ext (wa.alloc (.cells M2.toArray 39)).drew W' → _) := Lib.hid fun W' h => HRT0.out g tb F R W' _ (HRING9.out.ext h)
      have HTAK9 : Hid (∀ W', Ext (wa.alloc (.cells M2.toArray 39)).drew W' → Calls Try.prog 20 #[.pointer (some ⟨g, 0, none⟩), .int .u32 4] W' fun e w' => e = .returned (.bool false) ∧ Ext W' w') := Lib.hid fun W' h => by
        have h1 := Ring_Taken (HRING9.out.ext h) 4 (by decide)
        rw [taken_out (HRING9.out.ext h) (by decide)] at h1
        exact h1
      have HSPA9 : Hid (∀ W', Ext (wa.alloc (.cells M2.toArray 39)).drew W' → Calls Try.prog 21 #[.pointer (some ⟨g, 0, none⟩), .int .u32 4] W' fun e w' => e = .returned (.int .i64 1) ∧ Ext W' w') := Lib.hid fun W' h => Ring_Spend_arg (HRING9.out.ext h) 4 (by decide) (by decide)
      clear hov2 hringa hga hvn2 hxb HRI2
      go_wp2_with (first
        | ((with_reducible refine wpDst 19 rfl ?_); refine wpList_alloc _ rfl 39 rfl _ hzr ?_)
        | ((with_reducible refine wpSto 19 86 rfl ?_); refine wpList_storeN rfl 39 (.tmp 19) (.tmp 86) rfl wa rfl ZR M2 39 rfl rfl (szOutTo05 HM2L.out) (by rw [HM2L.out, HZL.out]) hmo2 ?_)
        | fail)
      refine stab_plain Ext ext_refl ext_trans [[0], [0, 1], [0, 1, 2], [0, 1, 2, 3], [0, 1, 2, 3, 4], [0, 1, 2, 3, 4, 5], [0, 1, 2, 3, 4, 5, 6], [0, 1, 2, 3, 4, 5, 7], [0, 1, 2, 3, 4, 5, 7, 8], [0, 1, 2, 3, 4, 5, 9], [0, 1, 2, 3, 4, 5, 10], [0, 1, 2, 3, 4, 5, 6, 7, 8, 9, 10, 11], [0, 1, 2, 3, 4, 5, 6, 7, 8, 9, 10, 11, 12], [0, 1, 2, 3, 4, 5, 6, 7, 8, 9, 10, 11, 12, 13], [0, 1, 2, 3, 4, 5, 6, 7, 8, 9, 10, 11, 12, 13, 14], [0, 1, 2, 3, 4, 5, 6, 7, 8, 9, 10, 11, 12, 13, 14, 15], [0, 1, 2, 3, 4, 5, 6, 7, 8, 9, 10, 11, 12, 13, 14, 15, 16], [0, 1, 2, 3, 4, 5, 6, 7, 8, 9, 10, 11, 12, 13, 14, 15, 16, 17], [0, 1, 2, 3, 4, 5, 6, 7, 8, 9, 10, 11, 12, 13, 14, 15, 16, 17, 18], [0, 1, 2, 3, 4, 5, 6, 7, 8, 9, 10, 11, 12, 13, 14, 15, 16, 17, 18, 19], [0, 1, 2, 3, 4, 5, 6, 7, 8, 9, 10, 11, 12, 13, 14, 15, 16, 17, 18, 19, 20], [0, 1, 2, 3, 4, 5, 6, 7, 8, 9, 10, 11, 12, 13, 14, 15, 16, 17, 18, 19, 20, 21], [0, 1, 2, 3, 4, 5, 6, 7, 8, 9, 10, 11, 12, 13, 14, 15, 16, 17, 18, 19, 20, 21, 22], [0, 1, 2, 3, 4, 5, 6, 7, 8, 9, 10, 11, 12, 13, 14, 15, 16, 17, 18, 19, 20, 21, 22, 23]] (fun i v wv => match i with | 0 => v = .bool true | 1 => v = .bool true | 2 => v = .int .i64 0 | 3 => v = .bool true | 4 => v = .bool true | 5 => v = .bool true | 6 => v = .agg M2.toArray | 7 => v = .pointer (some ⟨g, 0, none⟩) | 8 => v = .agg RT.toArray | 9 => v = .int .u32 (oo : Int) | 10 => v = .agg DC.toArray | 11 => v = .bool true | 12 => v = .bool true | 13 => v = .bool true | 14 => v = .pointer (some ⟨g, 0, none⟩) | 15 => v = .bool false | 16 => v = .bool true | 17 => v = .bool true | 18 => v = .bool true | 19 => v = .pointer (some ⟨g, 0, none⟩) | 20 => v = .int .i64 1 | 21 => v = .bool true | 22 => v = .bool true | 23 => v = .bool true | _ => True) (by kernel_rfl) (by kernel_rfl) (by kernel_rfl) ?_ ?_ ?_
      · intro i v w1 w2 h hx
        match i, h with
        | 0, h => exact h
        | 1, h => exact h
        | 2, h => exact h
        | 3, h => exact h
        | 4, h => exact h
        | 5, h => exact h
        | 6, h => exact h
        | 7, h => exact h
        | 8, h => exact h
        | 9, h => exact h
        | 10, h => exact h
        | 11, h => exact h
        | 12, h => exact h
        | 13, h => exact h
        | 14, h => exact h
        | 15, h => exact h
        | 16, h => exact h
        | 17, h => exact h
        | 18, h => exact h
        | 19, h => exact h
        | 20, h => exact h
        | 21, h => exact h
        | 22, h => exact h
        | 23, h => exact h
        | i + 24, h => trivial
      · intro i hi o ho
        match i, hi, ho with
        | 0, _, ho =>
          obtain rfl := Option.some.inj ho
          intro s W hX hd K hK
          rw [if_pos (wanted_plain rfl)]
          clear hd
          replace hK : ∀ (v : Value) (W' : World), Ext W W' → (v = .bool true) → _ := hK
          simp only [mkOf, List.map_cons, List.map_nil, Act.put, List.setIfInBounds_toArray, List.set_cons_succ, List.set_cons_zero, Nat.reduceAdd, Nat.zero_add] at hK ⊢
          go_simp
          refine (Awake05 _).mono ?_
          rintro e w' ⟨rfl, hx⟩
          exact hK _ _ hx rfl
        | 1, _, ho =>
          obtain rfl := Option.some.inj ho
          intro s W hX hd K hK
          rw [if_pos (wanted_plain rfl)]
          have d88 : (s 0) = .bool true := hd 0 (by decide) (by decide)
          clear hd
          replace hK : ∀ (v : Value) (W' : World), Ext W W' → (v = .bool true) → _ := hK
          simp only [mkOf, List.map_cons, List.map_nil, Act.put, List.setIfInBounds_toArray, List.set_cons_succ, List.set_cons_zero, Nat.reduceAdd, Nat.zero_add] at hK ⊢
          simp only [d88] at hK ⊢
          go_simp
          exact hK _ _ (Ext.refl _) rfl
        | 2, _, ho =>
          obtain rfl := Option.some.inj ho
          intro s W hX hd K hK
          have d89 : (s 1) = .bool true := hd 1 (by decide) (by decide)
          clear hd
          replace hK : ∀ (v : Value) (W' : World), Ext W W' → (v = .int .i64 0) → _ := hK
          simp only [mkOf, List.map_cons, List.map_nil, Act.put, List.setIfInBounds_toArray, List.set_cons_succ, List.set_cons_zero, Nat.reduceAdd, Nat.zero_add] at hK ⊢
          simp only [d89] at hK ⊢
          rw [if_pos (by kernel_rfl)]
          go_simp
          exact hK _ _ (Ext.refl _) rfl
        | 3, _, ho =>
          obtain rfl := Option.some.inj ho
          intro s W hX hd K hK
          have d89 : (s 1) = .bool true := hd 1 (by decide) (by decide)
          have d90 : (s 2) = .int .i64 0 := hd 2 (by decide) (by decide)
          clear hd
          replace hK : ∀ (v : Value) (W' : World), Ext W W' → (v = .bool true) → _ := hK
          simp only [mkOf, List.map_cons, List.map_nil, Act.put, List.setIfInBounds_toArray, List.set_cons_succ, List.set_cons_zero, Nat.reduceAdd, Nat.zero_add] at hK ⊢
          simp only [d89, d90] at hK ⊢
          rw [if_pos (by kernel_rfl)]
          go_simp
          exact hK _ _ (Ext.refl _) rfl
        | 4, _, ho =>
          obtain rfl := Option.some.inj ho
          intro s W hX hd K hK
          rw [if_pos (wanted_plain rfl)]
          have d89 : (s 1) = .bool true := hd 1 (by decide) (by decide)
          have d91 : (s 3) = .bool true := hd 3 (by decide) (by decide)
          clear hd
          replace hK : ∀ (v : Value) (W' : World), Ext W W' → (v = .bool true) → _ := hK
          simp only [mkOf, List.map_cons, List.map_nil, Act.put, List.setIfInBounds_toArray, List.set_cons_succ, List.set_cons_zero, Nat.reduceAdd, Nat.zero_add] at hK ⊢
          simp only [d89, d91] at hK ⊢
          go_simp
          exact hK _ _ (Ext.refl _) rfl
        | 5, _, ho =>
          obtain rfl := Option.some.inj ho
          intro s W hX hd K hK
          rw [if_pos (wanted_plain rfl)]
          have d92 : (s 4) = .bool true := hd 4 (by decide) (by decide)
          clear hd
          replace hK : ∀ (v : Value) (W' : World), Ext W W' → (v = .bool true) → _ := hK
          simp only [mkOf, List.map_cons, List.map_nil, Act.put, List.setIfInBounds_toArray, List.set_cons_succ, List.set_cons_zero, Nat.reduceAdd, Nat.zero_add] at hK ⊢
          simp only [d92] at hK ⊢
          go_simp
          exact hK _ _ (Ext.refl _) rfl
        | 6, _, ho =>
          obtain rfl := Option.some.inj ho
          intro s W hX hd K hK
          have d93 : (s 5) = .bool true := hd 5 (by decide) (by decide)
          clear hd
          replace hK : ∀ (v : Value) (W' : World), Ext W W' → (v = .agg M2.toArray) → _ := hK
          simp only [mkOf, List.map_cons, List.map_nil, Act.put, List.setIfInBounds_toArray, List.set_cons_succ, List.set_cons_zero, Nat.reduceAdd, Nat.zero_add] at hK ⊢
          simp only [d93] at hK ⊢
          rw [if_pos (by kernel_rfl)]
          refine wp_load_agg 39 (.tmp 19) rfl _ rfl M2 _ Try.underlying39 rfl (szOutTo05 HM2L.out) (HM2B.out.keep hX (by simp)).cells ?_
          exact hK _ _ (Ext.refl _) rfl
        | 7, _, ho =>
          obtain rfl := Option.some.inj ho
          intro s W hX hd K hK
          have d93 : (s 5) = .bool true := hd 5 (by decide) (by decide)
          clear hd
          replace hK : ∀ (v : Value) (W' : World), Ext W W' → (v = .pointer (some ⟨g, 0, none⟩)) → _ := hK
          simp only [mkOf, List.map_cons, List.map_nil, Act.put, List.setIfInBounds_toArray, List.set_cons_succ, List.set_cons_zero, Nat.reduceAdd, Nat.zero_add] at hK ⊢
          simp only [d93] at hK ⊢
          rw [if_pos (by kernel_rfl)]
          go_simp
          exact hK _ _ (Ext.refl _) rfl
        | 8, _, ho =>
          obtain rfl := Option.some.inj ho
          intro s W hX hd K hK
          have d93 : (s 5) = .bool true := hd 5 (by decide) (by decide)
          have d95 : (s 7) = .pointer (some ⟨g, 0, none⟩) := hd 7 (by decide) (by decide)
          clear hd
          replace hK : ∀ (v : Value) (W' : World), Ext W W' → (v = .agg RT.toArray) → _ := hK
          simp only [mkOf, List.map_cons, List.map_nil, Act.put, List.setIfInBounds_toArray, List.set_cons_succ, List.set_cons_zero, Nat.reduceAdd, Nat.zero_add] at hK ⊢
          simp only [d93, d95] at hK ⊢
          rw [if_pos (by kernel_rfl)]
          go_simp
          refine (HROOT9.out _ hX).mono ?_
          rintro e w' ⟨rfl, hx⟩
          exact hK _ _ hx rfl
        | 9, _, ho =>
          obtain rfl := Option.some.inj ho
          intro s W hX hd K hK
          have d93 : (s 5) = .bool true := hd 5 (by decide) (by decide)
          clear hd
          replace hK : ∀ (v : Value) (W' : World), Ext W W' → (v = .int .u32 (oo : Int)) → _ := hK
          simp only [mkOf, List.map_cons, List.map_nil, Act.put, List.setIfInBounds_toArray, List.set_cons_succ, List.set_cons_zero, Nat.reduceAdd, Nat.zero_add] at hK ⊢
          simp only [d93] at hK ⊢
          rw [if_pos (by kernel_rfl)]
          go_simp
          exact hK _ _ (Ext.refl _) rfl
        | 10, _, ho =>
          obtain rfl := Option.some.inj ho
          intro s W hX hd K hK
          have d93 : (s 5) = .bool true := hd 5 (by decide) (by decide)
          clear hd
          replace hK : ∀ (v : Value) (W' : World), Ext W W' → (v = .agg DC.toArray) → _ := hK
          simp only [mkOf, List.map_cons, List.map_nil, Act.put, List.setIfInBounds_toArray, List.set_cons_succ, List.set_cons_zero, Nat.reduceAdd, Nat.zero_add] at hK ⊢
          simp only [d93] at hK ⊢
          rw [if_pos (by kernel_rfl)]
          refine wp_load_agg 31 (.tmp 8) rfl _ rfl DC _ Try.underlying31 rfl (szElTo05 HDL.out) (HBD9.out.keep hX (by simp)).cells ?_
          exact hK _ _ (Ext.refl _) rfl
        | 11, _, ho =>
          obtain rfl := Option.some.inj ho
          intro s W hX hd K hK
          have d93 : (s 5) = .bool true := hd 5 (by decide) (by decide)
          have d94 : (s 6) = .agg M2.toArray := hd 6 (by decide) (by decide)
          have d96 : (s 8) = .agg RT.toArray := hd 8 (by decide) (by decide)
          have d97 : (s 9) = .int .u32 (oo : Int) := hd 9 (by decide) (by decide)
          have d98 : (s 10) = .agg DC.toArray := hd 10 (by decide) (by decide)
          clear hd
          replace hK : ∀ (v : Value) (W' : World), Ext W W' → (v = .bool true) → _ := hK
          simp only [mkOf, List.map_cons, List.map_nil, Act.put, List.setIfInBounds_toArray, List.set_cons_succ, List.set_cons_zero, Nat.reduceAdd, Nat.zero_add] at hK ⊢
          simp only [d93, d94, d96, d97, d98] at hK ⊢
          rw [if_pos (by kernel_rfl)]
          go_simp
          refine (HRIGHT9.out _ hX).mono ?_
          rintro e w' ⟨rfl, hx⟩
          exact hK _ _ hx rfl
        | 12, _, ho =>
          obtain rfl := Option.some.inj ho
          intro s W hX hd K hK
          rw [if_pos (wanted_plain rfl)]
          have d93 : (s 5) = .bool true := hd 5 (by decide) (by decide)
          have d99 : (s 11) = .bool true := hd 11 (by decide) (by decide)
          clear hd
          replace hK : ∀ (v : Value) (W' : World), Ext W W' → (v = .bool true) → _ := hK
          simp only [mkOf, List.map_cons, List.map_nil, Act.put, List.setIfInBounds_toArray, List.set_cons_succ, List.set_cons_zero, Nat.reduceAdd, Nat.zero_add] at hK ⊢
          simp only [d93, d99] at hK ⊢
          go_simp
          exact hK _ _ (Ext.refl _) rfl
        | 13, _, ho =>
          obtain rfl := Option.some.inj ho
          intro s W hX hd K hK
          rw [if_pos (wanted_plain rfl)]
          have d100 : (s 12) = .bool true := hd 12 (by decide) (by decide)
          clear hd
          replace hK : ∀ (v : Value) (W' : World), Ext W W' → (v = .bool true) → _ := hK
          simp only [mkOf, List.map_cons, List.map_nil, Act.put, List.setIfInBounds_toArray, List.set_cons_succ, List.set_cons_zero, Nat.reduceAdd, Nat.zero_add] at hK ⊢
          simp only [d100] at hK ⊢
          go_simp
          exact hK _ _ (Ext.refl _) rfl
        | 14, _, ho =>
          obtain rfl := Option.some.inj ho
          intro s W hX hd K hK
          have d101 : (s 13) = .bool true := hd 13 (by decide) (by decide)
          clear hd
          replace hK : ∀ (v : Value) (W' : World), Ext W W' → (v = .pointer (some ⟨g, 0, none⟩)) → _ := hK
          simp only [mkOf, List.map_cons, List.map_nil, Act.put, List.setIfInBounds_toArray, List.set_cons_succ, List.set_cons_zero, Nat.reduceAdd, Nat.zero_add] at hK ⊢
          simp only [d101] at hK ⊢
          rw [if_pos (by kernel_rfl)]
          go_simp
          exact hK _ _ (Ext.refl _) rfl
        | 15, _, ho =>
          obtain rfl := Option.some.inj ho
          intro s W hX hd K hK
          have d101 : (s 13) = .bool true := hd 13 (by decide) (by decide)
          have d102 : (s 14) = .pointer (some ⟨g, 0, none⟩) := hd 14 (by decide) (by decide)
          clear hd
          replace hK : ∀ (v : Value) (W' : World), Ext W W' → (v = .bool false) → _ := hK
          simp only [mkOf, List.map_cons, List.map_nil, Act.put, List.setIfInBounds_toArray, List.set_cons_succ, List.set_cons_zero, Nat.reduceAdd, Nat.zero_add] at hK ⊢
          simp only [d101, d102] at hK ⊢
          rw [if_pos (by kernel_rfl)]
          go_simp
          refine (HTAK9.out _ hX).mono ?_
          rintro e w' ⟨rfl, hx⟩
          exact hK _ _ hx rfl
        | 16, _, ho =>
          obtain rfl := Option.some.inj ho
          intro s W hX hd K hK
          have d101 : (s 13) = .bool true := hd 13 (by decide) (by decide)
          have d103 : (s 15) = .bool false := hd 15 (by decide) (by decide)
          clear hd
          replace hK : ∀ (v : Value) (W' : World), Ext W W' → (v = .bool true) → _ := hK
          simp only [mkOf, List.map_cons, List.map_nil, Act.put, List.setIfInBounds_toArray, List.set_cons_succ, List.set_cons_zero, Nat.reduceAdd, Nat.zero_add] at hK ⊢
          simp only [d101, d103] at hK ⊢
          rw [if_pos (by kernel_rfl)]
          go_simp
          exact hK _ _ (Ext.refl _) rfl
        | 17, _, ho =>
          obtain rfl := Option.some.inj ho
          intro s W hX hd K hK
          rw [if_pos (wanted_plain rfl)]
          have d101 : (s 13) = .bool true := hd 13 (by decide) (by decide)
          have d104 : (s 16) = .bool true := hd 16 (by decide) (by decide)
          clear hd
          replace hK : ∀ (v : Value) (W' : World), Ext W W' → (v = .bool true) → _ := hK
          simp only [mkOf, List.map_cons, List.map_nil, Act.put, List.setIfInBounds_toArray, List.set_cons_succ, List.set_cons_zero, Nat.reduceAdd, Nat.zero_add] at hK ⊢
          simp only [d101, d104] at hK ⊢
          go_simp
          exact hK _ _ (Ext.refl _) rfl
        | 18, _, ho =>
          obtain rfl := Option.some.inj ho
          intro s W hX hd K hK
          rw [if_pos (wanted_plain rfl)]
          have d105 : (s 17) = .bool true := hd 17 (by decide) (by decide)
          clear hd
          replace hK : ∀ (v : Value) (W' : World), Ext W W' → (v = .bool true) → _ := hK
          simp only [mkOf, List.map_cons, List.map_nil, Act.put, List.setIfInBounds_toArray, List.set_cons_succ, List.set_cons_zero, Nat.reduceAdd, Nat.zero_add] at hK ⊢
          simp only [d105] at hK ⊢
          go_simp
          exact hK _ _ (Ext.refl _) rfl
        | 19, _, ho =>
          obtain rfl := Option.some.inj ho
          intro s W hX hd K hK
          have d106 : (s 18) = .bool true := hd 18 (by decide) (by decide)
          clear hd
          replace hK : ∀ (v : Value) (W' : World), Ext W W' → (v = .pointer (some ⟨g, 0, none⟩)) → _ := hK
          simp only [mkOf, List.map_cons, List.map_nil, Act.put, List.setIfInBounds_toArray, List.set_cons_succ, List.set_cons_zero, Nat.reduceAdd, Nat.zero_add] at hK ⊢
          simp only [d106] at hK ⊢
          rw [if_pos (by kernel_rfl)]
          go_simp
          exact hK _ _ (Ext.refl _) rfl
        | 20, _, ho =>
          obtain rfl := Option.some.inj ho
          intro s W hX hd K hK
          have d106 : (s 18) = .bool true := hd 18 (by decide) (by decide)
          have d107 : (s 19) = .pointer (some ⟨g, 0, none⟩) := hd 19 (by decide) (by decide)
          clear hd
          replace hK : ∀ (v : Value) (W' : World), Ext W W' → (v = .int .i64 1) → _ := hK
          simp only [mkOf, List.map_cons, List.map_nil, Act.put, List.setIfInBounds_toArray, List.set_cons_succ, List.set_cons_zero, Nat.reduceAdd, Nat.zero_add] at hK ⊢
          simp only [d106, d107] at hK ⊢
          rw [if_pos (by kernel_rfl)]
          go_simp
          refine (HSPA9.out _ hX).mono ?_
          rintro e w' ⟨rfl, hx⟩
          exact hK _ _ hx rfl
        | 21, _, ho =>
          obtain rfl := Option.some.inj ho
          intro s W hX hd K hK
          have d106 : (s 18) = .bool true := hd 18 (by decide) (by decide)
          have d108 : (s 20) = .int .i64 1 := hd 20 (by decide) (by decide)
          clear hd
          replace hK : ∀ (v : Value) (W' : World), Ext W W' → (v = .bool true) → _ := hK
          simp only [mkOf, List.map_cons, List.map_nil, Act.put, List.setIfInBounds_toArray, List.set_cons_succ, List.set_cons_zero, Nat.reduceAdd, Nat.zero_add] at hK ⊢
          simp only [d106, d108] at hK ⊢
          rw [if_pos (by kernel_rfl)]
          go_simp
          exact hK _ _ (Ext.refl _) rfl
        | 22, _, ho =>
          obtain rfl := Option.some.inj ho
          intro s W hX hd K hK
          rw [if_pos (wanted_plain rfl)]
          have d106 : (s 18) = .bool true := hd 18 (by decide) (by decide)
          have d109 : (s 21) = .bool true := hd 21 (by decide) (by decide)
          clear hd
          replace hK : ∀ (v : Value) (W' : World), Ext W W' → (v = .bool true) → _ := hK
          simp only [mkOf, List.map_cons, List.map_nil, Act.put, List.setIfInBounds_toArray, List.set_cons_succ, List.set_cons_zero, Nat.reduceAdd, Nat.zero_add] at hK ⊢
          simp only [d106, d109] at hK ⊢
          go_simp
          exact hK _ _ (Ext.refl _) rfl
        | 23, _, ho =>
          obtain rfl := Option.some.inj ho
          intro s W hX hd K hK
          rw [if_pos (wanted_plain rfl)]
          have d110 : (s 22) = .bool true := hd 22 (by decide) (by decide)
          clear hd
          replace hK : ∀ (v : Value) (W' : World), Ext W W' → (v = .bool true) → _ := hK
          simp only [mkOf, List.map_cons, List.map_nil, Act.put, List.setIfInBounds_toArray, List.set_cons_succ, List.set_cons_zero, Nat.reduceAdd, Nat.zero_add] at hK ⊢
          simp only [d110] at hK ⊢
          go_simp
          exact hK _ _ (Ext.refl _) rfl
        | i + 24, hi, _ => exact absurd hi (by simp)
      · intro s W hX hd
        have d88 : (s 0) = .bool true := hd 0 (by decide)
        have d89 : (s 1) = .bool true := hd 1 (by decide)
        have d90 : (s 2) = .int .i64 0 := hd 2 (by decide)
        have d91 : (s 3) = .bool true := hd 3 (by decide)
        have d92 : (s 4) = .bool true := hd 4 (by decide)
        have d93 : (s 5) = .bool true := hd 5 (by decide)
        have d94 : (s 6) = .agg M2.toArray := hd 6 (by decide)
        have d95 : (s 7) = .pointer (some ⟨g, 0, none⟩) := hd 7 (by decide)
        have d96 : (s 8) = .agg RT.toArray := hd 8 (by decide)
        have d97 : (s 9) = .int .u32 (oo : Int) := hd 9 (by decide)
        have d98 : (s 10) = .agg DC.toArray := hd 10 (by decide)
        have d99 : (s 11) = .bool true := hd 11 (by decide)
        have d100 : (s 12) = .bool true := hd 12 (by decide)
        have d101 : (s 13) = .bool true := hd 13 (by decide)
        have d102 : (s 14) = .pointer (some ⟨g, 0, none⟩) := hd 14 (by decide)
        have d103 : (s 15) = .bool false := hd 15 (by decide)
        have d104 : (s 16) = .bool true := hd 16 (by decide)
        have d105 : (s 17) = .bool true := hd 17 (by decide)
        have d106 : (s 18) = .bool true := hd 18 (by decide)
        have d107 : (s 19) = .pointer (some ⟨g, 0, none⟩) := hd 19 (by decide)
        have d108 : (s 20) = .int .i64 1 := hd 20 (by decide)
        have d109 : (s 21) = .bool true := hd 21 (by decide)
        have d110 : (s 22) = .bool true := hd 22 (by decide)
        have d10 : (s 23) = .bool true := hd 23 (by decide)
        clear hd
        simp only [mkOf, List.map_cons, List.map_nil, Act.put, List.setIfInBounds_toArray, List.set_cons_succ, List.set_cons_zero, Nat.reduceAdd, Nat.zero_add]
        (try simp only [Exit.then])
        go_wp2_with fail
        go_ret
        exact ⟨by simp [d10], HX9.out.trans hX⟩
end
end Go.Proofs.Ytpdkmapogncgmaa

/- Walks and plain laws, put together in build order. Conditions: what each of them names. -/
import Derived.Test.YtpdkmapogncgmaaWa453aa2cee
set_option linter.unusedVariables false
set_option linter.unusedSimpArgs false
set_option linter.unnecessarySimpa false
namespace Go.Proofs.Ytpdkmapogncgmaa
section
open Go.RowKit

theorem rem_four (P : Program) (t : TypeId) {x : Nat} (w : World) : (binOp .rem t (.int .u8 (x : Int)) (.int .u8 4)).run P w = .ok (.int .u8 ((x % 4 : Nat) : Int)) w := by
  have h : (x : Int).tmod 4 = ((x % 4 : Nat) : Int) := by rw [Int.tmod_eq_emod_of_nonneg (by omega)]; rfl
  rw [← h]; rfl
theorem taken_self {tk : List Bool} {k : Nat} (h : k < tk.length) : takenM (tk.set k true) k = true := by simp [takenM, List.getD, h]
theorem taken_else {tk : List Bool} {k o : Nat} (h : k ≠ o) : takenM (tk.set k true) o = takenM tk o := by simp [takenM, List.getD, h]
theorem taken_none (n o : Nat) : takenM (List.replicate n false) o = false := by
  unfold takenM
  by_cases h : o < n
  · simp [List.getD, h]
  · simp [List.getD, h]
set_option maxRecDepth 100000 in
set_option maxHeartbeats 8000000 in
theorem Spends05 (seed : List UInt8) (hs : seed.length = 32) (x y : Nat) (d : Dg) (hd : List.length (α := UInt8) d = 32) (ed : Dg) (he : List.length (α := UInt8) ed = 32) (w : World) :
    Calls Try.prog 5 #[.agg (bv seed).toArray, .int .u8 (x : Int), .int .u8 (y : Int), .agg (bv d).toArray, .agg (bv ed).toArray] w fun e w' => e = .returned (.bool true) ∧ Ext w w' := by
  obtain ⟨kk, hkk⟩ : ∃ kk, kk = x % 4 := ⟨_, rfl⟩
  obtain ⟨oo, hoo⟩ : ∃ oo, oo = y % 4 := ⟨_, rfl⟩
  have hk4 : kk < 2 ^ 2 := by rw [hkk]; exact Nat.mod_lt _ (by decide)
  have ho4 : oo < 2 ^ 2 := by rw [hoo]; exact Nat.mod_lt _ (by decide)
  have hkw : (Lit.int .u32 (kk : Int)).wf = true := by simp [Lit.wf, IntKind.bits, IntKind.signed, IntKind.min, IntKind.max]; omega
  have how : (Lit.int .u32 (oo : Int)).wf = true := by simp [Lit.wf, IntKind.bits, IntKind.signed, IntKind.min, IntKind.max]; omega
  have hrk : ∀ (P : Program) (t : TypeId) (w : World), (binOp .rem t (.int .u8 (x : Int)) (.int .u8 4)).run P w = .ok (.int .u8 (kk : Int)) w := fun P t w => by rw [hkk]; exact rem_four P t w
  have hro : ∀ (P : Program) (t : TypeId) (w : World), (binOp .rem t (.int .u8 (y : Int)) (.int .u8 4)).run P w = .ok (.int .u8 (oo : Int)) w := fun P t w => by rw [hoo]; exact rem_four P t w
  clear hkk hoo
  have hnew := fun W => Ring_New seed hs 2 (by decide) W
  have hsp := fun (W : World) (g tb : Nat) (F : Fp) (R : Value) (tk : List Bool) (h : RingAt W g tb F R seed 2 tk) => Ring_Spend h kk hkw hk4
  have hno := fun (W : World) (g tb : Nat) (F : Fp) (R : Value) (tk : List Bool) (h : RingAt W g tb F R seed 2 (tk.set kk true)) (hl : tk.length = 4) => Ring_Sign_no h kk hkw hk4 (taken_self (by rw [hl]; exact hk4)) d
  have hag := fun (W : World) (g tb : Nat) (F : Fp) (R : Value) (tk : List Bool) (h : RingAt W g tb F R seed 2 (tk.set kk true)) (hl : tk.length = 4) => Ring_Again h kk hkw hk4 (taken_self (by rw [hl]; exact hk4)) ed he
  have hr1 := fun (u : Value) (F : Fp) (W : World) (hc : Ways W F u (wayM seed 2 kk)) (hF : ∀ b, F b → b < W.heap.size) => Right (signM seed kk ed) (signM_length _ _ _) kk u (wayM seed 2 kk) (rootM seed 2) (rootM_length _ _) ed he F W hc hF (by rw [wayM_length]; decide) hkw 2 (by decide) kk hkw
  have hrt1 : rightM (signM seed kk ed) kk (wayM seed 2 kk) (rootM seed 2) 2 kk ed = true := right_signed seed 2 kk ed hk4
  rw [hrt1] at hr1
  have hr2 := fun (u : Value) (F : Fp) (W : World) (hc : Ways W F u (wayM seed 2 oo)) (hF : ∀ b, F b → b < W.heap.size) => Right (signM seed oo d) (signM_length _ _ _) oo u (wayM seed 2 oo) (rootM seed 2) (rootM_length _ _) d hd F W hc hF (by rw [wayM_length]; decide) how 2 (by decide) oo how
  have hrt2 : rightM (signM seed oo d) oo (wayM seed 2 oo) (rootM seed 2) 2 oo d = true := right_signed seed 2 oo d ho4
  rw [hrt2] at hr2
  have hso := fun (W : World) (g tb : Nat) (F : Fp) (R : Value) (tk : List Bool) (h : RingAt W g tb F R seed 2 tk) (ht : takenM tk oo = false) => Ring_Sign h oo how ho4 ht d hd
  have hgl1 : (bv (signM seed kk ed)).length = 1024 := by rw [bv_length]; exact signM_length _ _ _
  have hgo1 := bv_one (signM seed kk ed)
  have hgl2 : (bv (signM seed oo d)).length = 1024 := by rw [bv_length]; exact signM_length _ _ _
  have hgo2 := bv_one (signM seed oo d)
  have hroot := fun (g tb : Nat) (F : Fp) (R : Value) (W : World) (tk : List Bool) (h : RingAt W g tb F R seed 2 tk) => Ring_Root h
  have hzr := zSig_zero
  have hzl := zSig_len
  have hzo := zSig_one
  have hsl : (bv seed).length = 32 := by rw [bv_length]; exact hs
  have hdl : (bv d).length = 32 := by rw [bv_length]; exact hd
  have hel : (bv ed).length = 32 := by rw [bv_length]; exact he
  obtain ⟨ZR, hZR⟩ : ∃ ZR, ZR = zSig := ⟨_, rfl⟩
  rw [← hZR] at hno hzr hzl hzo
  obtain ⟨RT, hRT⟩ : ∃ RT, RT = bv (rootM seed 2) := ⟨_, rfl⟩
  rw [← hRT] at hroot hr1 hr2
  obtain ⟨SG1, hSG1⟩ : ∃ SG, SG = bv (signM seed kk ed) := ⟨_, rfl⟩
  rw [← hSG1] at hag hr1 hgl1 hgo1
  obtain ⟨SG2, hSG2⟩ : ∃ SG, SG = bv (signM seed oo d) := ⟨_, rfl⟩
  rw [← hSG2] at hso hr2 hgl2 hgo2
  generalize bv seed = SC at *
  generalize bv d = DC at *
  generalize bv ed = EC at *
  have hx0 : Ext w (((w.alloc (.cells SC.toArray 31)).alloc (.cells DC.toArray 31)).alloc (.cells EC.toArray 31)) := (((Ext.refl w).alloc _).alloc _).alloc _
  have hbs : Blk (((w.alloc (.cells SC.toArray 31)).alloc (.cells DC.toArray 31)).alloc (.cells EC.toArray 31)) w.heap.size 31 SC := ((Blk.new _ _ _).keep ((Ext.refl _).alloc _) (by simp)).keep ((Ext.refl _).alloc _) (by simp)
  have hbd : Blk (((w.alloc (.cells SC.toArray 31)).alloc (.cells DC.toArray 31)).alloc (.cells EC.toArray 31)) (w.heap.size + 1) 31 DC := (Blk.fresh (by simp) _ _).keep ((Ext.refl _).alloc _) (by simp)
  have hbe : Blk (((w.alloc (.cells SC.toArray 31)).alloc (.cells DC.toArray 31)).alloc (.cells EC.toArray 31)) (w.heap.size + 2) 31 EC := Blk.fresh (by simp) _ _
  have hsz : (((w.alloc (.cells SC.toArray 31)).alloc (.cells DC.toArray 31)).alloc (.cells EC.toArray 31)).heap.size = w.heap.size + 3 := by simp
  have HNEW := Lib.hid hnew
  have HSP := Lib.hid hsp
  have HNO := Lib.hid hno
  have HAG := Lib.hid hag
  have HR1 := Lib.hid hr1
  have HR2 := Lib.hid hr2
  have HSO := Lib.hid hso
  have HGL1 := Lib.hid hgl1
  have HGL2 := Lib.hid hgl2
  have HRT0 := Lib.hid hroot
  have HZL := Lib.hid hzl
  have HSL := Lib.hid hsl
  have HDL := Lib.hid hdl
  have HEL := Lib.hid hel
  have HX0 := Lib.hid hx0
  have HBS := Lib.hid hbs
  have HBD := Lib.hid hbd
  have HBE := Lib.hid hbe
  have HRK := Lib.hid hrk
  have HRO := Lib.hid hro
  have HOW := Lib.hid how
  have HSZ := Lib.hid hsz
  clear hnew hsp hno hag hr1 hr2 hso hgl1 hgl2 hroot hzl hsl hdl hel hx0 hbs hbd hbe hrt1 hrt2 hZR hRT hSG1 hSG2 hrk hro hkw how hd he hsz
  have hk4' : kk < 4 := hk4
  have ho4' : oo < 4 := ho4
  clear hk4 ho4
  go_enter Try.func5, Try.ntmps5
  go_wp2_with (first
    | ((with_reducible refine wpDst 22 rfl ?_); refine wpList_load_agg _ rfl 31 (.tmp 5) rfl _ rfl SC _ Try.underlying31 rfl (szElTo05 HSL.out) (by exact HBS.out.cells) ?_)
    | (go_at_call 14; refine (HNEW.out _).mono ?_; rintro e w1 ⟨g, tb, F, R, rfl, hring, hx1, hg1, htb1, hF1⟩
       have HRING := Lib.hid hring
       have HX1 := Lib.hid (HX0.out.trans hx1)
       have HBD1 := Lib.hid (HBD.out.keep hx1 (by simp))
       have HBE1 := Lib.hid (HBE.out.keep hx1 (by simp))
       have HTB : Hid (w.heap.size + 3 ≤ tb) := Lib.hid (by have h1 := HSZ.out; omega)
       clear hring hx1 hg1 htb1 hF1)
    | ((with_reducible refine wpDst 27 rfl ?_); refine wpList_bin2 rfl .rem 5 (.tmp 26) _ rfl (.int .u8 (x : Int)) (.int .u8 4) rfl rfl rfl (HRK.out _ _ _) ?_)
    | ((with_reducible refine wpDst 30 rfl ?_); refine wpList_bin2 rfl .rem 5 (.tmp 29) _ rfl (.int .u8 (y : Int)) (.int .u8 4) rfl rfl rfl (HRO.out _ _ _) ?_)
    | (go_at_call 21; refine (HSP.out _ _ _ _ _ _ HRING.out).mono ?_; rintro e w2 ⟨rfl, hring2, hg2⟩
       have HRING2 := Lib.hid hring2
       have HX2 : Hid (Ext w w2) := Lib.hid (grown_then HX1.out hg2 (.inr (by rintro b ⟨⟩; have := HTB.out; omega)))
       have HBD2 := Lib.hid (HBD1.out.keep hg2 (by have := HTB.out; simp; omega))
       have HBE2 := Lib.hid (HBE1.out.keep hg2 (by have := HTB.out; simp; omega))
       clear hring2 hg2)
    | ((with_reducible refine wpDst 43 rfl ?_); refine wpList_load_agg _ rfl 31 (.tmp 8) rfl _ rfl DC _ Try.underlying31 rfl (szElTo05 HDL.out) (by exact HBD2.out.cells) ?_)
    | fail)
  refine (HNO.out _ _ _ _ _ _ HRING2.out (by simp)).mono ?_
  rintro e w3 ⟨rfl, hx3⟩
  have hx4 : Ext w2 (w3.alloc (.cells ZR.toArray 39)) := hx3.alloc _
  have HRING4 := Lib.hid (HRING2.out.ext hx4)
  have HX4 := Lib.hid (HX2.out.trans hx4)
  have HBD4 := Lib.hid (HBD2.out.keep hx4 (by simp))
  have HBE4 := Lib.hid (HBE2.out.keep hx4 (by simp))
  clear hx3 hx4 HRING2 HX2 HBD2 HBE2
  go_wp2_with (first
    | ((with_reducible refine wpDst 15 rfl ?_); refine wpList_alloc _ rfl 39 rfl _ hzr ?_)
    | ((with_reducible refine wpSto 15 45 rfl ?_); refine wpList_storeN rfl 39 (.tmp 15) (.tmp 45) rfl w3 rfl ZR ZR 39 rfl rfl (szOutTo05 HZL.out) rfl hzo ?_)
    | ((with_reducible refine wpDst 50 rfl ?_); refine wpList_load_agg _ rfl 31 (.tmp 9) rfl _ rfl EC _ Try.underlying31 rfl (szElTo05 HEL.out) (by exact HBE4.out.cells) ?_)
    | fail)
  refine (HAG.out _ _ _ _ _ _ HRING4.out (by simp)).mono ?_
  rintro e w5 ⟨v, rfl, hov, hx5, hvn⟩
  obtain ⟨A1, c1, hv1⟩ := hov.2.form
  have hml1 := sigC_len HGL1.out kk v
  have hmo1 : ∀ u ∈ sigC SG1 kk v, u.oneCell' = true := by rw [hv1]; exact sigC_one hgo1 _ _ _ _
  have HRI1 := Lib.hid (fun (W' : World) (h : Ext w5 W') => HR1.out v _ W' ((hov.ext h).holds) (fun b hb => Nat.lt_of_lt_of_le (hov.lt b hb) h.size))
  obtain ⟨M1, hM1⟩ : ∃ M, M = sigC SG1 kk v := ⟨_, rfl⟩
  rw [← hM1] at hml1 hmo1 HRI1 ⊢
  have HM1L := Lib.hid hml1
  clear hml1 hM1 hv1
  have hx6 : Ext w5 (w5.alloc (.cells M1.toArray 39)).drew := ((Ext.refl w5).alloc _).trans (Ext.refl _).drew
  have HM1B : Hid (Blk (w5.alloc (.cells M1.toArray 39)).drew w5.heap.size 39 M1) := Lib.hid ((Blk.new _ _ _).keep (Ext.refl _).drew (by simp))
  have HBE7 := Lib.hid (HBE4.out.keep (hx5.trans hx6) (by simp))
  have HBD7 := Lib.hid (HBD4.out.keep (hx5.trans hx6) (by simp))
  have HRING7 := Lib.hid (HRING4.out.ext (hx5.trans hx6))
  have HX7 := Lib.hid (HX4.out.trans (hx5.trans hx6))
  have HRIGHT7 : Hid (∀ W', Ext (w5.alloc (.cells M1.toArray 39)).drew W' → _) := Lib.hid fun W' h => HRI1.out W' (hx6.trans h)
  have HROOT7 : Hid (∀ W', Ext (w5.alloc (.cells M1.toArray 39)).drew W' → _) := Lib.hid fun W' h => HRT0.out g tb F R W' _ (HRING7.out.ext h)
  clear hov hx5 hvn hx6 HRI1 HRING4 HX4 HBD4 HBE4
  go_wp2_with (first
    | ((with_reducible refine wpDst 17 rfl ?_); refine wpList_alloc _ rfl 39 rfl _ hzr ?_)
    | ((with_reducible refine wpSto 17 52 rfl ?_); refine wpList_storeN rfl 39 (.tmp 17) (.tmp 52) rfl w5 rfl ZR M1 39 rfl rfl (szOutTo05 HM1L.out) (by rw [HM1L.out, HZL.out]) hmo1 ?_)
    | fail)
  refine stab_plain Ext ext_refl ext_trans [[0], [0, 1], [0, 1, 2], [0, 1, 2, 3], [0, 1, 2, 3, 4], [0, 1, 2, 3, 4, 5], [0, 1, 2, 3, 4, 5, 6], [0, 1, 2, 3, 4, 5, 6, 7], [0, 1, 2, 3, 4, 5, 6, 8], [0, 1, 2, 3, 4, 5, 6, 8, 9], [0, 1, 2, 3, 4, 5, 6, 10], [0, 1, 2, 3, 4, 5, 6, 11], [0, 1, 2, 3, 4, 5, 6, 7, 8, 9, 10, 11, 12], [0, 1, 2, 3, 4, 5, 6, 7, 8, 9, 10, 11, 12, 13], [0, 1, 2, 3, 4, 5, 6, 7, 8, 9, 10, 11, 12, 13, 14]] (fun i v wv => match i with | 0 => v = .int .i64 21 | 1 => v = .bool false | 2 => v = .bool false | 3 => v = .int .i64 0 | 4 => v = .bool false | 5 => v = .bool false | 6 => v = .bool false | 7 => v = .agg M1.toArray | 8 => v = .pointer (some ⟨g, 0, none⟩) | 9 => v = .agg RT.toArray | 10 => v = .int .u32 (kk : Int) | 11 => v = .agg EC.toArray | 12 => v = .bool true | 13 => v = .bool false | 14 => v = .bool false | _ => True) (by kernel_rfl) (by kernel_rfl) (by kernel_rfl) ?_ ?_ ?_
  · intro i v w1 w2 h hx
    match i, h with
    | 0, h => exact h
    | 1, h => exact h
    | 2, h => exact h
    | 3, h => exact h
    | 4, h => exact h
    | 5, h => exact h
    | 6, h => exact h
    | 7, h => exact h
    | 8, h => exact h
    | 9, h => exact h
    | 10, h => exact h
    | 11, h => exact h
    | 12, h => exact h
    | 13, h => exact h
    | 14, h => exact h
    | i + 15, h => trivial
  · intro i hi o ho
    match i, hi, ho with
    | 0, _, ho =>
      obtain rfl := Option.some.inj ho
      intro s W hX hd K hK
      rw [if_pos (wanted_plain rfl)]
      clear hd
      replace hK : ∀ (v : Value) (W' : World), Ext W W' → (v = .int .i64 21) → _ := hK
      simp only [mkOf, List.map_cons, List.map_nil, Act.put, List.setIfInBounds_toArray, List.set_cons_succ, List.set_cons_zero, Nat.reduceAdd, Nat.zero_add] at hK ⊢
      go_simp
      exact hK _ _ (Ext.refl _) rfl
    | 1, _, ho =>
      obtain rfl := Option.some.inj ho
      intro s W hX hd K hK
      rw [if_pos (wanted_plain rfl)]
      have d54 : (s 0) = .int .i64 21 := hd 0 (by decide) (by decide)
      clear hd
      replace hK : ∀ (v : Value) (W' : World), Ext W W' → (v = .bool false) → _ := hK
      simp only [mkOf, List.map_cons, List.map_nil, Act.put, List.setIfInBounds_toArray, List.set_cons_succ, List.set_cons_zero, Nat.reduceAdd, Nat.zero_add] at hK ⊢
      simp only [d54] at hK ⊢
      go_simp
      exact hK _ _ (Ext.refl _) rfl
    | 2, _, ho =>
      obtain rfl := Option.some.inj ho
      intro s W hX hd K hK
      rw [if_pos (wanted_plain rfl)]
      have d55 : (s 1) = .bool false := hd 1 (by decide) (by decide)
      clear hd
      replace hK : ∀ (v : Value) (W' : World), Ext W W' → (v = .bool false) → _ := hK
      simp only [mkOf, List.map_cons, List.map_nil, Act.put, List.setIfInBounds_toArray, List.set_cons_succ, List.set_cons_zero, Nat.reduceAdd, Nat.zero_add] at hK ⊢
      simp only [d55] at hK ⊢
      go_simp
      exact hK _ _ (Ext.refl _) rfl
    | 3, _, ho =>
      obtain rfl := Option.some.inj ho
      intro s W hX hd K hK
      have d56 : (s 2) = .bool false := hd 2 (by decide) (by decide)
      clear hd
      replace hK : ∀ (v : Value) (W' : World), Ext W W' → (v = .int .i64 0) → _ := hK
      simp only [mkOf, List.map_cons, List.map_nil, Act.put, List.setIfInBounds_toArray, List.set_cons_succ, List.set_cons_zero, Nat.reduceAdd, Nat.zero_add] at hK ⊢
      simp only [d56] at hK ⊢
      rw [if_pos (by kernel_rfl)]
      go_simp
      exact hK _ _ (Ext.refl _) rfl
    | 4, _, ho =>
      obtain rfl := Option.some.inj ho
      intro s W hX hd K hK
      have d56 : (s 2) = .bool false := hd 2 (by decide) (by decide)
      have d57 : (s 3) = .int .i64 0 := hd 3 (by decide) (by decide)
      clear hd
      replace hK : ∀ (v : Value) (W' : World), Ext W W' → (v = .bool false) → _ := hK
      simp only [mkOf, List.map_cons, List.map_nil, Act.put, List.setIfInBounds_toArray, List.set_cons_succ, List.set_cons_zero, Nat.reduceAdd, Nat.zero_add] at hK ⊢
      simp only [d56, d57] at hK ⊢
      rw [if_pos (by kernel_rfl)]
      go_simp
      exact hK _ _ (Ext.refl _) rfl
    | 5, _, ho =>
      obtain rfl := Option.some.inj ho
      intro s W hX hd K hK
      rw [if_pos (wanted_plain rfl)]
      have d56 : (s 2) = .bool false := hd 2 (by decide) (by decide)
      have d58 : (s 4) = .bool false := hd 4 (by decide) (by decide)
      clear hd
      replace hK : ∀ (v : Value) (W' : World), Ext W W' → (v = .bool false) → _ := hK
      simp only [mkOf, List.map_cons, List.map_nil, Act.put, List.setIfInBounds_toArray, List.set_cons_succ, List.set_cons_zero, Nat.reduceAdd, Nat.zero_add] at hK ⊢
      simp only [d56, d58] at hK ⊢
      go_simp
      exact hK _ _ (Ext.refl _) rfl
    | 6, _, ho =>
      obtain rfl := Option.some.inj ho
      intro s W hX hd K hK
      rw [if_pos (wanted_plain rfl)]
      have d59 : (s 5) = .bool false := hd 5 (by decide) (by decide)
      clear hd
      replace hK : ∀ (v : Value) (W' : World), Ext W W' → (v = .bool false) → _ := hK
      simp only [mkOf, List.map_cons, List.map_nil, Act.put, List.setIfInBounds_toArray, List.set_cons_succ, List.set_cons_zero, Nat.reduceAdd, Nat.zero_add] at hK ⊢
      simp only [d59] at hK ⊢
      go_simp
      exact hK _ _ (Ext.refl _) rfl
    | 7, _, ho =>
      obtain rfl := Option.some.inj ho
      intro s W hX hd K hK
      have d60 : (s 6) = .bool false := hd 6 (by decide) (by decide)
      clear hd
      replace hK : ∀ (v : Value) (W' : World), Ext W W' → (v = .agg M1.toArray) → _ := hK
      simp only [mkOf, List.map_cons, List.map_nil, Act.put, List.setIfInBounds_toArray, List.set_cons_succ, List.set_cons_zero, Nat.reduceAdd, Nat.zero_add] at hK ⊢
      simp only [d60] at hK ⊢
      rw [if_pos (by kernel_rfl)]
      refine wp_load_agg 39 (.tmp 17) rfl _ rfl M1 _ Try.underlying39 rfl (szOutTo05 HM1L.out) (HM1B.out.keep hX (by simp)).cells ?_
      exact hK _ _ (Ext.refl _) rfl
    | 8, _, ho =>
      obtain rfl := Option.some.inj ho
      intro s W hX hd K hK
      have d60 : (s 6) = .bool false := hd 6 (by decide) (by decide)
      clear hd
      replace hK : ∀ (v : Value) (W' : World), Ext W W' → (v = .pointer (some ⟨g, 0, none⟩)) → _ := hK
      simp only [mkOf, List.map_cons, List.map_nil, Act.put, List.setIfInBounds_toArray, List.set_cons_succ, List.set_cons_zero, Nat.reduceAdd, Nat.zero_add] at hK ⊢
      simp only [d60] at hK ⊢
      rw [if_pos (by kernel_rfl)]
      go_simp
      exact hK _ _ (Ext.refl _) rfl
    | 9, _, ho =>
      obtain rfl := Option.some.inj ho
      intro s W hX hd K hK
      have d60 : (s 6) = .bool false := hd 6 (by decide) (by decide)
      have d62 : (s 8) = .pointer (some ⟨g, 0, none⟩) := hd 8 (by decide) (by decide)
      clear hd
      replace hK : ∀ (v : Value) (W' : World), Ext W W' → (v = .agg RT.toArray) → _ := hK
      simp only [mkOf, List.map_cons, List.map_nil, Act.put, List.setIfInBounds_toArray, List.set_cons_succ, List.set_cons_zero, Nat.reduceAdd, Nat.zero_add] at hK ⊢
      simp only [d60, d62] at hK ⊢
      rw [if_pos (by kernel_rfl)]
      go_simp
      refine (HROOT7.out _ hX).mono ?_
      rintro e w' ⟨rfl, hx⟩
      exact hK _ _ hx rfl
    | 10, _, ho =>
      obtain rfl := Option.some.inj ho
      intro s W hX hd K hK
      have d60 : (s 6) = .bool false := hd 6 (by decide) (by decide)
      clear hd
      replace hK : ∀ (v : Value) (W' : World), Ext W W' → (v = .int .u32 (kk : Int)) → _ := hK
      simp only [mkOf, List.map_cons, List.map_nil, Act.put, List.setIfInBounds_toArray, List.set_cons_succ, List.set_cons_zero, Nat.reduceAdd, Nat.zero_add] at hK ⊢
      simp only [d60] at hK ⊢
      rw [if_pos (by kernel_rfl)]
      go_simp
      exact hK _ _ (Ext.refl _) rfl
    | 11, _, ho =>
      obtain rfl := Option.some.inj ho
      intro s W hX hd K hK
      have d60 : (s 6) = .bool false := hd 6 (by decide) (by decide)
      clear hd
      replace hK : ∀ (v : Value) (W' : World), Ext W W' → (v = .agg EC.toArray) → _ := hK
      simp only [mkOf, List.map_cons, List.map_nil, Act.put, List.setIfInBounds_toArray, List.set_cons_succ, List.set_cons_zero, Nat.reduceAdd, Nat.zero_add] at hK ⊢
      simp only [d60] at hK ⊢
      rw [if_pos (by kernel_rfl)]
      refine wp_load_agg 31 (.tmp 9) rfl _ rfl EC _ Try.underlying31 rfl (szElTo05 HEL.out) (HBE7.out.keep hX (by simp)).cells ?_
      exact hK _ _ (Ext.refl _) rfl
    | 12, _, ho =>
      obtain rfl := Option.some.inj ho
      intro s W hX hd K hK
      have d60 : (s 6) = .bool false := hd 6 (by decide) (by decide)
      have d61 : (s 7) = .agg M1.toArray := hd 7 (by decide) (by decide)
      have d63 : (s 9) = .agg RT.toArray := hd 9 (by decide) (by decide)
      have d64 : (s 10) = .int .u32 (kk : Int) := hd 10 (by decide) (by decide)
      have d65 : (s 11) = .agg EC.toArray := hd 11 (by decide) (by decide)
      clear hd
      replace hK : ∀ (v : Value) (W' : World), Ext W W' → (v = .bool true) → _ := hK
      simp only [mkOf, List.map_cons, List.map_nil, Act.put, List.setIfInBounds_toArray, List.set_cons_succ, List.set_cons_zero, Nat.reduceAdd, Nat.zero_add] at hK ⊢
      simp only [d60, d61, d63, d64, d65] at hK ⊢
      rw [if_pos (by kernel_rfl)]
      go_simp
      refine (HRIGHT7.out _ hX).mono ?_
      rintro e w' ⟨rfl, hx⟩
      exact hK _ _ hx rfl
    | 13, _, ho =>
      obtain rfl := Option.some.inj ho
      intro s W hX hd K hK
      have d60 : (s 6) = .bool false := hd 6 (by decide) (by decide)
      have d66 : (s 12) = .bool true := hd 12 (by decide) (by decide)
      clear hd
      replace hK : ∀ (v : Value) (W' : World), Ext W W' → (v = .bool false) → _ := hK
      simp only [mkOf, List.map_cons, List.map_nil, Act.put, List.setIfInBounds_toArray, List.set_cons_succ, List.set_cons_zero, Nat.reduceAdd, Nat.zero_add] at hK ⊢
      simp only [d60, d66] at hK ⊢
      rw [if_pos (by kernel_rfl)]
      go_simp
      exact hK _ _ (Ext.refl _) rfl
    | 14, _, ho =>
      obtain rfl := Option.some.inj ho
      intro s W hX hd K hK
      rw [if_pos (wanted_plain rfl)]
      have d60 : (s 6) = .bool false := hd 6 (by decide) (by decide)
      have d67 : (s 13) = .bool false := hd 13 (by decide) (by decide)
      clear hd
      replace hK : ∀ (v : Value) (W' : World), Ext W W' → (v = .bool false) → _ := hK
      simp only [mkOf, List.map_cons, List.map_nil, Act.put, List.setIfInBounds_toArray, List.set_cons_succ, List.set_cons_zero, Nat.reduceAdd, Nat.zero_add] at hK ⊢
      simp only [d60, d67] at hK ⊢
      go_simp
      exact hK _ _ (Ext.refl _) rfl
    | i + 15, hi, _ => exact absurd hi (by simp)
  · intro s W hX hd
    have d54 : (s 0) = .int .i64 21 := hd 0 (by decide)
    have d55 : (s 1) = .bool false := hd 1 (by decide)
    have d56 : (s 2) = .bool false := hd 2 (by decide)
    have d57 : (s 3) = .int .i64 0 := hd 3 (by decide)
    have d58 : (s 4) = .bool false := hd 4 (by decide)
    have d59 : (s 5) = .bool false := hd 5 (by decide)
    have d60 : (s 6) = .bool false := hd 6 (by decide)
    have d61 : (s 7) = .agg M1.toArray := hd 7 (by decide)
    have d62 : (s 8) = .pointer (some ⟨g, 0, none⟩) := hd 8 (by decide)
    have d63 : (s 9) = .agg RT.toArray := hd 9 (by decide)
    have d64 : (s 10) = .int .u32 (kk : Int) := hd 10 (by decide)
    have d65 : (s 11) = .agg EC.toArray := hd 11 (by decide)
    have d66 : (s 12) = .bool true := hd 12 (by decide)
    have d67 : (s 13) = .bool false := hd 13 (by decide)
    have d68 : (s 14) = .bool false := hd 14 (by decide)
    clear hd
    simp only [mkOf, List.map_cons, List.map_nil, Act.put, List.setIfInBounds_toArray, List.set_cons_succ, List.set_cons_zero, Nat.reduceAdd, Nat.zero_add]
    have HRINGW := Lib.hid (HRING7.out.ext hX)
    have HXW := Lib.hid (HX7.out.trans hX)
    have HBDW := Lib.hid (HBD7.out.keep hX (by simp))
    clear d54 d55 d56 d57 d58 d59 d60 d61 d62 d63 d64 d65 d66 d67 hX HM1B HBE7 HBD7 HRING7 HX7 HRIGHT7 HROOT7
    (try simp only [Exit.then])
    simp only [d68]
    by_cases hko : kk = oo
    · subst hko
      have HTK := Lib.hid (fun (W' : World) (h : Ext W W') => Ring_Taken (HRINGW.out.ext h) kk HOW.out)
      have HTE : Hid (takenM ((List.replicate (2 ^ 2) false).set kk true) kk = true) := Lib.hid (taken_self (by simp; omega))
      go_wp2_with (first
        | (go_at_call 9; refine (Awake05 _).mono ?_; rintro e w8 ⟨rfl, hx8⟩)
        | (go_at_call 20; refine (HTK.out _ hx8).mono ?_; rintro e w9 ⟨rfl, hx9⟩; rw [HTE.out])
        | fail)
      go_ret
      exact ⟨rfl, HXW.out.trans (hx8.trans hx9)⟩
    · have hko' : (kk : Int) ≠ (oo : Int) := by omega
      have HTK := Lib.hid (fun (W' : World) (h : Ext W W') => Ring_Taken (HRINGW.out.ext h) oo HOW.out)
      have HTE : Hid (takenM ((List.replicate (2 ^ 2) false).set kk true) oo = false) := Lib.hid ((taken_else hko).trans (taken_none _ _))
      go_wp2_with (first
        | (go_at_call 20; refine (HTK.out _ (Ext.refl W)).mono ?_; rintro e w9 ⟨rfl, hx9⟩; rw [HTE.out]
           have HBD9a := Lib.hid (HBDW.out.keep hx9 (by simp))
           have HRING9a := Lib.hid (HRINGW.out.ext hx9))
        | ((with_reducible refine wpDst 84 rfl ?_); refine wpList_load_agg _ rfl 31 (.tmp 8) rfl _ rfl DC _ Try.underlying31 rfl (szElTo05 HDL.out) (by exact HBD9a.out.cells) ?_)
        | fail)
      refine (HSO.out _ _ _ _ _ _ HRING9a.out HTE.out).mono ?_
      rintro e wa ⟨v2, rfl, hov2, hringa, hga, hvn2⟩
      obtain ⟨A2, c2, hv2⟩ := hov2.2.form
      have hml2 := sigC_len HGL2.out oo v2
      have hmo2 : ∀ u ∈ sigC SG2 oo v2, u.oneCell' = true := by rw [hv2]; exact sigC_one hgo2 _ _ _ _
      have HRI2 := Lib.hid (fun (W' : World) (h : Ext wa W') => HR2.out v2 _ W' ((hov2.ext h).holds) (fun b hb => Nat.lt_of_lt_of_le (hov2.lt b hb) h.size))
      obtain ⟨M2, hM2⟩ : ∃ M, M = sigC SG2 oo v2 := ⟨_, rfl⟩
      rw [← hM2] at hml2 hmo2 HRI2 ⊢
      have HM2L := Lib.hid hml2
      clear hml2 hM2 hv2
      have hxb : Ext wa (wa.alloc (.cells M2.toArray 39)).drew := ((Ext.refl wa).alloc _).trans (Ext.refl _).drew
      have HM2B : Hid (Blk (wa.alloc (.cells M2.toArray 39)).drew wa.heap.size 39 M2) := Lib.hid ((Blk.new _ _ _).keep (Ext.refl _).drew (by simp))
      have HBD9 := Lib.hid ((HBD9a.out.keep hga (by have := HTB.out; simp; omega)).keep hxb (by simp))
      have HRING9 := Lib.hid (hringa.ext hxb)
      have HX9 : Hid (Ext w (wa.alloc (.cells M2.toArray 39)).drew) := Lib.hid ((grown_then (HXW.out.trans hx9) hga (.inr (by rintro b ⟨⟩; have := HTB.out; omega)) : Ext w wa).trans hxb)
      have HRIGHT9 : Hid (∀ W', Ext (wa.alloc (.cells M2.toArray 39)).drew W' → _) := Lib.hid fun W' h => HRI2.out W' (hxb.trans h)
      have HROOT9 : Hid (∀ W', Ext (wa.alloc (.cells M2.toArray 39)).drew W' → _) := Lib.hid fun W' h => HRT0.out g tb F R W' _ (HRING9.out.ext h)
      have HTAK9 : Hid (∀ W', Ext (wa.alloc (.cells M2.toArray 39)).drew W' → Calls Try.prog 20 #[.pointer (some ⟨g, 0, none⟩), .int .u32 4] W' fun e w' => e = .returned (.bool false) ∧ Ext W' w') := Lib.hid fun W' h => by
        have h1 := Ring_Taken (HRING9.out.ext h) 4 (by decide)
        rw [taken_out (HRING9.out.ext h) (by decide)] at h1
        exact h1
      have HSPA9 : Hid (∀ W', Ext (wa.alloc (.cells M2.toArray 39)).drew W' → Calls Try.prog 21 #[.pointer (some ⟨g, 0, none⟩), .int .u32 4] W' fun e w' => e = .returned (.int .i64 1) ∧ Ext W' w') := Lib.hid fun W' h => Ring_Spend_arg (HRING9.out.ext h) 4 (by decide) (by decide)
      clear hov2 hringa hga hvn2 hxb HRI2
      go_wp2_with (first
        | ((with_reducible refine wpDst 19 rfl ?_); refine wpList_alloc _ rfl 39 rfl _ hzr ?_)
        | ((with_reducible refine wpSto 19 86 rfl ?_); refine wpList_storeN rfl 39 (.tmp 19) (.tmp 86) rfl wa rfl ZR M2 39 rfl rfl (szOutTo05 HM2L.out) (by rw [HM2L.out, HZL.out]) hmo2 ?_)
        | fail)
      refine stab_plain Ext ext_refl ext_trans [[0], [0, 1], [0, 1, 2], [0, 1, 2, 3], [0, 1, 2, 3, 4], [0, 1, 2, 3, 4, 5], [0, 1, 2, 3, 4, 5, 6], [0, 1, 2, 3, 4, 5, 7], [0, 1, 2, 3, 4, 5, 7, 8], [0, 1, 2, 3, 4, 5, 9], [0, 1, 2, 3, 4, 5, 10], [0, 1, 2, 3, 4, 5, 6, 7, 8, 9, 10, 11], [0, 1, 2, 3, 4, 5, 6, 7, 8, 9, 10, 11, 12], [0, 1, 2, 3, 4, 5, 6, 7, 8, 9, 10, 11, 12, 13], [0, 1, 2, 3, 4, 5, 6, 7, 8, 9, 10, 11, 12, 13, 14], [0, 1, 2, 3, 4, 5, 6, 7, 8, 9, 10, 11, 12, 13, 14, 15], [0, 1, 2, 3, 4, 5, 6, 7, 8, 9, 10, 11, 12, 13, 14, 15, 16], [0, 1, 2, 3, 4, 5, 6, 7, 8, 9, 10, 11, 12, 13, 14, 15, 16, 17], [0, 1, 2, 3, 4, 5, 6, 7, 8, 9, 10, 11, 12, 13, 14, 15, 16, 17, 18], [0, 1, 2, 3, 4, 5, 6, 7, 8, 9, 10, 11, 12, 13, 14, 15, 16, 17, 18, 19], [0, 1, 2, 3, 4, 5, 6, 7, 8, 9, 10, 11, 12, 13, 14, 15, 16, 17, 18, 19, 20], [0, 1, 2, 3, 4, 5, 6, 7, 8, 9, 10, 11, 12, 13, 14, 15, 16, 17, 18, 19, 20, 21], [0, 1, 2, 3, 4, 5, 6, 7, 8, 9, 10, 11, 12, 13, 14, 15, 16, 17, 18, 19, 20, 21, 22], [0, 1, 2, 3, 4, 5, 6, 7, 8, 9, 10, 11, 12, 13, 14, 15, 16, 17, 18, 19, 20, 21, 22, 23]] (fun i v wv => match i with | 0 => v = .bool true | 1 => v = .bool true | 2 => v = .int .i64 0 | 3 => v = .bool true | 4 => v = .bool true | 5 => v = .bool true | 6 => v = .agg M2.toArray | 7 => v = .pointer (some ⟨g, 0, none⟩) | 8 => v = .agg RT.toArray | 9 => v = .int .u32 (oo : Int) | 10 => v = .agg DC.toArray | 11 => v = .bool true | 12 => v = .bool true | 13 => v = .bool true | 14 => v = .pointer (some ⟨g, 0, none⟩) | 15 => v = .bool false | 16 => v = .bool true | 17 => v = .bool true | 18 => v = .bool true | 19 => v = .pointer (some ⟨g, 0, none⟩) | 20 => v = .int .i64 1 | 21 => v = .bool true | 22 => v = .bool true | 23 => v = .bool true | _ => True) (by kernel_rfl) (by kernel_rfl) (by kernel_rfl) ?_ ?_ ?_
      · intro i v w1 w2 h hx
        match i, h with
        | 0, h => exact h
        | 1, h => exact h
        | 2, h => exact h
        | 3, h => exact h
        | 4, h => exact h
        | 5, h => exact h
        | 6, h => exact h
        | 7, h => exact h
        | 8, h => exact h
        | 9, h => exact h
        | 10, h => exact h
        | 11, h => exact h
        | 12, h => exact h
        | 13, h => exact h
        | 14, h => exact h
        | 15, h => exact h
        | 16, h => exact h
        | 17, h => exact h
        | 18, h => exact h
        | 19, h => exact h
        | 20, h => exact h
        | 21, h => exact h
        | 22, h => exact h
        | 23, h => exact h
        | i + 24, h => trivial
      · intro i hi o ho
        match i, hi, ho with
        | 0, _, ho =>
          obtain rfl := Option.some.inj ho
          intro s W hX hd K hK
          rw [if_pos (wanted_plain rfl)]
          clear hd
          replace hK : ∀ (v : Value) (W' : World), Ext W W' → (v = .bool true) → _ := hK
          simp only [mkOf, List.map_cons, List.map_nil, Act.put, List.setIfInBounds_toArray, List.set_cons_succ, List.set_cons_zero, Nat.reduceAdd, Nat.zero_add] at hK ⊢
          go_simp
          refine (Awake05 _).mono ?_
          rintro e w' ⟨rfl, hx⟩
          exact hK _ _ hx rfl
        | 1, _, ho =>
          obtain rfl := Option.some.inj ho
          intro s W hX hd K hK
          rw [if_pos (wanted_plain rfl)]
          have d88 : (s 0) = .bool true := hd 0 (by decide) (by decide)
          clear hd
          replace hK : ∀ (v : Value) (W' : World), Ext W W' → (v = .bool true) → _ := hK
          simp only [mkOf, List.map_cons, List.map_nil, Act.put, List.setIfInBounds_toArray, List.set_cons_succ, List.set_cons_zero, Nat.reduceAdd, Nat.zero_add] at hK ⊢
          simp only [d88] at hK ⊢
          go_simp
          exact hK _ _ (Ext.refl _) rfl
        | 2, _, ho =>
          obtain rfl := Option.some.inj ho
          intro s W hX hd K hK
          have d89 : (s 1) = .bool true := hd 1 (by decide) (by decide)
          clear hd
          replace hK : ∀ (v : Value) (W' : World), Ext W W' → (v = .int .i64 0) → _ := hK
          simp only [mkOf, List.map_cons, List.map_nil, Act.put, List.setIfInBounds_toArray, List.set_cons_succ, List.set_cons_zero, Nat.reduceAdd, Nat.zero_add] at hK ⊢
          simp only [d89] at hK ⊢
          rw [if_pos (by kernel_rfl)]
          go_simp
          exact hK _ _ (Ext.refl _) rfl
        | 3, _, ho =>
          obtain rfl := Option.some.inj ho
          intro s W hX hd K hK
          have d89 : (s 1) = .bool true := hd 1 (by decide) (by decide)
          have d90 : (s 2) = .int .i64 0 := hd 2 (by decide) (by decide)
          clear hd
          replace hK : ∀ (v : Value) (W' : World), Ext W W' → (v = .bool true) → _ := hK
          simp only [mkOf, List.map_cons, List.map_nil, Act.put, List.setIfInBounds_toArray, List.set_cons_succ, List.set_cons_zero, Nat.reduceAdd, Nat.zero_add] at hK ⊢
          simp only [d89, d90] at hK ⊢
          rw [if_pos (by kernel_rfl)]
          go_simp
          exact hK _ _ (Ext.refl _) rfl
        | 4, _, ho =>
          obtain rfl := Option.some.inj ho
          intro s W hX hd K hK
          rw [if_pos (wanted_plain rfl)]
          have d89 : (s 1) = .bool true := hd 1 (by decide) (by decide)
          have d91 : (s 3) = .bool true := hd 3 (by decide) (by decide)
          clear hd
          replace hK : ∀ (v : Value) (W' : World), Ext W W' → (v = .bool true) → _ := hK
          simp only [mkOf, List.map_cons, List.map_nil, Act.put, List.setIfInBounds_toArray, List.set_cons_succ, List.set_cons_zero, Nat.reduceAdd, Nat.zero_add] at hK ⊢
          simp only [d89, d91] at hK ⊢
          go_simp
          exact hK _ _ (Ext.refl _) rfl
        | 5, _, ho =>
          obtain rfl := Option.some.inj ho
          intro s W hX hd K hK
          rw [if_pos (wanted_plain rfl)]
          have d92 : (s 4) = .bool true := hd 4 (by decide) (by decide)
          clear hd
          replace hK : ∀ (v : Value) (W' : World), Ext W W' → (v = .bool true) → _ := hK
          simp only [mkOf, List.map_cons, List.map_nil, Act.put, List.setIfInBounds_toArray, List.set_cons_succ, List.set_cons_zero, Nat.reduceAdd, Nat.zero_add] at hK ⊢
          simp only [d92] at hK ⊢
          go_simp
          exact hK _ _ (Ext.refl _) rfl
        | 6, _, ho =>
          obtain rfl := Option.some.inj ho
          intro s W hX hd K hK
          have d93 : (s 5) = .bool true := hd 5 (by decide) (by decide)
          clear hd
          replace hK : ∀ (v : Value) (W' : World), Ext W W' → (v = .agg M2.toArray) → _ := hK
          simp only [mkOf, List.map_cons, List.map_nil, Act.put, List.setIfInBounds_toArray, List.set_cons_succ, List.set_cons_zero, Nat.reduceAdd, Nat.zero_add] at hK ⊢
          simp only [d93] at hK ⊢
          rw [if_pos (by kernel_rfl)]
          refine wp_load_agg 39 (.tmp 19) rfl _ rfl M2 _ Try.underlying39 rfl (szOutTo05 HM2L.out) (HM2B.out.keep hX (by simp)).cells ?_
          exact hK _ _ (Ext.refl _) rfl
        | 7, _, ho =>
          obtain rfl := Option.some.inj ho
          intro s W hX hd K hK
          have d93 : (s 5) = .bool true := hd 5 (by decide) (by decide)
          clear hd
          replace hK : ∀ (v : Value) (W' : World), Ext W W' → (v = .pointer (some ⟨g, 0, none⟩)) → _ := hK
          simp only [mkOf, List.map_cons, List.map_nil, Act.put, List.setIfInBounds_toArray, List.set_cons_succ, List.set_cons_zero, Nat.reduceAdd, Nat.zero_add] at hK ⊢
          simp only [d93] at hK ⊢
          rw [if_pos (by kernel_rfl)]
          go_simp
          exact hK _ _ (Ext.refl _) rfl
        | 8, _, ho =>
          obtain rfl := Option.some.inj ho
          intro s W hX hd K hK
          have d93 : (s 5) = .bool true := hd 5 (by decide) (by decide)
          have d95 : (s 7) = .pointer (some ⟨g, 0, none⟩) := hd 7 (by decide) (by decide)
          clear hd
          replace hK : ∀ (v : Value) (W' : World), Ext W W' → (v = .agg RT.toArray) → _ := hK
          simp only [mkOf, List.map_cons, List.map_nil, Act.put, List.setIfInBounds_toArray, List.set_cons_succ, List.set_cons_zero, Nat.reduceAdd, Nat.zero_add] at hK ⊢
          simp only [d93, d95] at hK ⊢
          rw [if_pos (by kernel_rfl)]
          go_simp
          refine (HROOT9.out _ hX).mono ?_
          rintro e w' ⟨rfl, hx⟩
          exact hK _ _ hx rfl
        | 9, _, ho =>
          obtain rfl := Option.some.inj ho
          intro s W hX hd K hK
          have d93 : (s 5) = .bool true := hd 5 (by decide) (by decide)
          clear hd
          replace hK : ∀ (v : Value) (W' : World), Ext W W' → (v = .int .u32 (oo : Int)) → _ := hK
          simp only [mkOf, List.map_cons, List.map_nil, Act.put, List.setIfInBounds_toArray, List.set_cons_succ, List.set_cons_zero, Nat.reduceAdd, Nat.zero_add] at hK ⊢
          simp only [d93] at hK ⊢
          rw [if_pos (by kernel_rfl)]
          go_simp
          exact hK _ _ (Ext.refl _) rfl
        | 10, _, ho =>
          obtain rfl := Option.some.inj ho
          intro s W hX hd K hK
          have d93 : (s 5) = .bool true := hd 5 (by decide) (by decide)
          clear hd
          replace hK : ∀ (v : Value) (W' : World), Ext W W' → (v = .agg DC.toArray) → _ := hK
          simp only [mkOf, List.map_cons, List.map_nil, Act.put, List.setIfInBounds_toArray, List.set_cons_succ, List.set_cons_zero, Nat.reduceAdd, Nat.zero_add] at hK ⊢
          simp only [d93] at hK ⊢
          rw [if_pos (by kernel_rfl)]
          refine wp_load_agg 31 (.tmp 8) rfl _ rfl DC _ Try.underlying31 rfl (szElTo05 HDL.out) (HBD9.out.keep hX (by simp)).cells ?_
          exact hK _ _ (Ext.refl _) rfl
        | 11, _, ho =>
          obtain rfl := Option.some.inj ho
          intro s W hX hd K hK
          have d93 : (s 5) = .bool true := hd 5 (by decide) (by decide)
          have d94 : (s 6) = .agg M2.toArray := hd 6 (by decide) (by decide)
          have d96 : (s 8) = .agg RT.toArray := hd 8 (by decide) (by decide)
          have d97 : (s 9) = .int .u32 (oo : Int) := hd 9 (by decide) (by decide)
          have d98 : (s 10) = .agg DC.toArray := hd 10 (by decide) (by decide)
          clear hd
          replace hK : ∀ (v : Value) (W' : World), Ext W W' → (v = .bool true) → _ := hK
          simp only [mkOf, List.map_cons, List.map_nil, Act.put, List.setIfInBounds_toArray, List.set_cons_succ, List.set_cons_zero, Nat.reduceAdd, Nat.zero_add] at hK ⊢
          simp only [d93, d94, d96, d97, d98] at hK ⊢
          rw [if_pos (by kernel_rfl)]
          go_simp
          refine (HRIGHT9.out _ hX).mono ?_
          rintro e w' ⟨rfl, hx⟩
          exact hK _ _ hx rfl
        | 12, _, ho =>
          obtain rfl := Option.some.inj ho
          intro s W hX hd K hK
          rw [if_pos (wanted_plain rfl)]
          have d93 : (s 5) = .bool true := hd 5 (by decide) (by decide)
          have d99 : (s 11) = .bool true := hd 11 (by decide) (by decide)
          clear hd
          replace hK : ∀ (v : Value) (W' : World), Ext W W' → (v = .bool true) → _ := hK
          simp only [mkOf, List.map_cons, List.map_nil, Act.put, List.setIfInBounds_toArray, List.set_cons_succ, List.set_cons_zero, Nat.reduceAdd, Nat.zero_add] at hK ⊢
          simp only [d93, d99] at hK ⊢
          go_simp
          exact hK _ _ (Ext.refl _) rfl
        | 13, _, ho =>
          obtain rfl := Option.some.inj ho
          intro s W hX hd K hK
          rw [if_pos (wanted_plain rfl)]
          have d100 : (s 12) = .bool true := hd 12 (by decide) (by decide)
          clear hd
          replace hK : ∀ (v : Value) (W' : World), Ext W W' → (v = .bool true) → _ := hK
          simp only [mkOf, List.map_cons, List.map_nil, Act.put, List.setIfInBounds_toArray, List.set_cons_succ, List.set_cons_zero, Nat.reduceAdd, Nat.zero_add] at hK ⊢
          simp only [d100] at hK ⊢
          go_simp
          exact hK _ _ (Ext.refl _) rfl
        | 14, _, ho =>
          obtain rfl := Option.some.inj ho
          intro s W hX hd K hK
          have d101 : (s 13) = .bool true := hd 13 (by decide) (by decide)
          clear hd
          replace hK : ∀ (v : Value) (W' : World), Ext W W' → (v = .pointer (some ⟨g, 0, none⟩)) → _ := hK
          simp only [mkOf, List.map_cons, List.map_nil, Act.put, List.setIfInBounds_toArray, List.set_cons_succ, List.set_cons_zero, Nat.reduceAdd, Nat.zero_add] at hK ⊢
          simp only [d101] at hK ⊢
          rw [if_pos (by kernel_rfl)]
          go_simp
          exact hK _ _ (Ext.refl _) rfl
        | 15, _, ho =>
          obtain rfl := Option.some.inj ho
          intro s W hX hd K hK
          have d101 : (s 13) = .bool true := hd 13 (by decide) (by decide)
          have d102 : (s 14) = .pointer (some ⟨g, 0, none⟩) := hd 14 (by decide) (by decide)
          clear hd
          replace hK : ∀ (v : Value) (W' : World), Ext W W' → (v = .bool false) → _ := hK
          simp only [mkOf, List.map_cons, List.map_nil, Act.put, List.setIfInBounds_toArray, List.set_cons_succ, List.set_cons_zero, Nat.reduceAdd, Nat.zero_add] at hK ⊢
          simp only [d101, d102] at hK ⊢
          rw [if_pos (by kernel_rfl)]
          go_simp
          refine (HTAK9.out _ hX).mono ?_
          rintro e w' ⟨rfl, hx⟩
          exact hK _ _ hx rfl
        | 16, _, ho =>
          obtain rfl := Option.some.inj ho
          intro s W hX hd K hK
          have d101 : (s 13) = .bool true := hd 13 (by decide) (by decide)
          have d103 : (s 15) = .bool false := hd 15 (by decide) (by decide)
          clear hd
          replace hK : ∀ (v : Value) (W' : World), Ext W W' → (v = .bool true) → _ := hK
          simp only [mkOf, List.map_cons, List.map_nil, Act.put, List.setIfInBounds_toArray, List.set_cons_succ, List.set_cons_zero, Nat.reduceAdd, Nat.zero_add] at hK ⊢
          simp only [d101, d103] at hK ⊢
          rw [if_pos (by kernel_rfl)]
          go_simp
          exact hK _ _ (Ext.refl _) rfl
        | 17, _, ho =>
          obtain rfl := Option.some.inj ho
          intro s W hX hd K hK
          rw [if_pos (wanted_plain rfl)]
          have d101 : (s 13) = .bool true := hd 13 (by decide) (by decide)
          have d104 : (s 16) = .bool true := hd 16 (by decide) (by decide)
          clear hd
          replace hK : ∀ (v : Value) (W' : World), Ext W W' → (v = .bool true) → _ := hK
          simp only [mkOf, List.map_cons, List.map_nil, Act.put, List.setIfInBounds_toArray, List.set_cons_succ, List.set_cons_zero, Nat.reduceAdd, Nat.zero_add] at hK ⊢
          simp only [d101, d104] at hK ⊢
          go_simp
          exact hK _ _ (Ext.refl _) rfl
        | 18, _, ho =>
          obtain rfl := Option.some.inj ho
          intro s W hX hd K hK
          rw [if_pos (wanted_plain rfl)]
          have d105 : (s 17) = .bool true := hd 17 (by decide) (by decide)
          clear hd
          replace hK : ∀ (v : Value) (W' : World), Ext W W' → (v = .bool true) → _ := hK
          simp only [mkOf, List.map_cons, List.map_nil, Act.put, List.setIfInBounds_toArray, List.set_cons_succ, List.set_cons_zero, Nat.reduceAdd, Nat.zero_add] at hK ⊢
          simp only [d105] at hK ⊢
          go_simp
          exact hK _ _ (Ext.refl _) rfl
        | 19, _, ho =>
          obtain rfl := Option.some.inj ho
          intro s W hX hd K hK
          have d106 : (s 18) = .bool true := hd 18 (by decide) (by decide)
          clear hd
          replace hK : ∀ (v : Value) (W' : World), Ext W W' → (v = .pointer (some ⟨g, 0, none⟩)) → _ := hK
          simp only [mkOf, List.map_cons, List.map_nil, Act.put, List.setIfInBounds_toArray, List.set_cons_succ, List.set_cons_zero, Nat.reduceAdd, Nat.zero_add] at hK ⊢
          simp only [d106] at hK ⊢
          rw [if_pos (by kernel_rfl)]
          go_simp
          exact hK _ _ (Ext.refl _) rfl
        | 20, _, ho =>
          obtain rfl := Option.some.inj ho
          intro s W hX hd K hK
          have d106 : (s 18) = .bool true := hd 18 (by decide) (by decide)
          have d107 : (s 19) = .pointer (some ⟨g, 0, none⟩) := hd 19 (by decide) (by decide)
          clear hd
          replace hK : ∀ (v : Value) (W' : World), Ext W W' → (v = .int .i64 1) → _ := hK
          simp only [mkOf, List.map_cons, List.map_nil, Act.put, List.setIfInBounds_toArray, List.set_cons_succ, List.set_cons_zero, Nat.reduceAdd, Nat.zero_add] at hK ⊢
          simp only [d106, d107] at hK ⊢
          rw [if_pos (by kernel_rfl)]
          go_simp
          refine (HSPA9.out _ hX).mono ?_
          rintro e w' ⟨rfl, hx⟩
          exact hK _ _ hx rfl
        | 21, _, ho =>
          obtain rfl := Option.some.inj ho
          intro s W hX hd K hK
          have d106 : (s 18) = .bool true := hd 18 (by decide) (by decide)
          have d108 : (s 20) = .int .i64 1 := hd 20 (by decide) (by decide)
          clear hd
          replace hK : ∀ (v : Value) (W' : World), Ext W W' → (v = .bool true) → _ := hK
          simp only [mkOf, List.map_cons, List.map_nil, Act.put, List.setIfInBounds_toArray, List.set_cons_succ, List.set_cons_zero, Nat.reduceAdd, Nat.zero_add] at hK ⊢
          simp only [d106, d108] at hK ⊢
          rw [if_pos (by kernel_rfl)]
          go_simp
          exact hK _ _ (Ext.refl _) rfl
        | 22, _, ho =>
          obtain rfl := Option.some.inj ho
          intro s W hX hd K hK
          rw [if_pos (wanted_plain rfl)]
          have d106 : (s 18) = .bool true := hd 18 (by decide) (by decide)
          have d109 : (s 21) = .bool true := hd 21 (by decide) (by decide)
          clear hd
          replace hK : ∀ (v : Value) (W' : World), Ext W W' → (v = .bool true) → _ := hK
          simp only [mkOf, List.map_cons, List.map_nil, Act.put, List.setIfInBounds_toArray, List.set_cons_succ, List.set_cons_zero, Nat.reduceAdd, Nat.zero_add] at hK ⊢
          simp only [d106, d109] at hK ⊢
          go_simp
          exact hK _ _ (Ext.refl _) rfl
        | 23, _, ho =>
          obtain rfl := Option.some.inj ho
          intro s W hX hd K hK
          rw [if_pos (wanted_plain rfl)]
          have d110 : (s 22) = .bool true := hd 22 (by decide) (by decide)
          clear hd
          replace hK : ∀ (v : Value) (W' : World), Ext W W' → (v = .bool true) → _ := hK
          simp only [mkOf, List.map_cons, List.map_nil, Act.put, List.setIfInBounds_toArray, List.set_cons_succ, List.set_cons_zero, Nat.reduceAdd, Nat.zero_add] at hK ⊢
          simp only [d110] at hK ⊢
          go_simp
          exact hK _ _ (Ext.refl _) rfl
        | i + 24, hi, _ => exact absurd hi (by simp)
      · intro s W hX hd
        have d88 : (s 0) = .bool true := hd 0 (by decide)
        have d89 : (s 1) = .bool true := hd 1 (by decide)
        have d90 : (s 2) = .int .i64 0 := hd 2 (by decide)
        have d91 : (s 3) = .bool true := hd 3 (by decide)
        have d92 : (s 4) = .bool true := hd 4 (by decide)
        have d93 : (s 5) = .bool true := hd 5 (by decide)
        have d94 : (s 6) = .agg M2.toArray := hd 6 (by decide)
        have d95 : (s 7) = .pointer (some ⟨g, 0, none⟩) := hd 7 (by decide)
        have d96 : (s 8) = .agg RT.toArray := hd 8 (by decide)
        have d97 : (s 9) = .int .u32 (oo : Int) := hd 9 (by decide)
        have d98 : (s 10) = .agg DC.toArray := hd 10 (by decide)
        have d99 : (s 11) = .bool true := hd 11 (by decide)
        have d100 : (s 12) = .bool true := hd 12 (by decide)
        have d101 : (s 13) = .bool true := hd 13 (by decide)
        have d102 : (s 14) = .pointer (some ⟨g, 0, none⟩) := hd 14 (by decide)
        have d103 : (s 15) = .bool false := hd 15 (by decide)
        have d104 : (s 16) = .bool true := hd 16 (by decide)
        have d105 : (s 17) = .bool true := hd 17 (by decide)
        have d106 : (s 18) = .bool true := hd 18 (by decide)
        have d107 : (s 19) = .pointer (some ⟨g, 0, none⟩) := hd 19 (by decide)
        have d108 : (s 20) = .int .i64 1 := hd 20 (by decide)
        have d109 : (s 21) = .bool true := hd 21 (by decide)
        have d110 : (s 22) = .bool true := hd 22 (by decide)
        have d10 : (s 23) = .bool true := hd 23 (by decide)
        clear hd
        simp only [mkOf, List.map_cons, List.map_nil, Act.put, List.setIfInBounds_toArray, List.set_cons_succ, List.set_cons_zero, Nat.reduceAdd, Nat.zero_add]
        (try simp only [Exit.then])
        go_wp2_with fail
        go_ret
        exact ⟨by simp [d10], HX9.out.trans hX⟩
end
section
open Go.RowKit
theorem szPieceFrom04 {n : Nat} (h : n = 16) : (Try.prog.info? 33).map (·.size) = some n := by subst h; kernel_rfl
theorem szPieceBFrom04 {n : Nat} (h : n = 16) : (Try.prog.info? 23).map (·.size) = some n := by subst h; kernel_rfl
theorem szSigFrom04 {n : Nat} (h : n = 1024) : (Try.prog.info? 26).map (·.size) = some n := by subst h; kernel_rfl
theorem zSigFrom04 : (Try.prog.info? 26).bind (fun i => i.zero.map (·.cells)) = some (List.replicate 1024 (Value.int .u8 0)).toArray := by kernel_rfl
set_option maxRecDepth 100000 in
set_option maxHeartbeats 4000000 in
theorem From04 (C : List Value) (w : World) (hC : C.length = 1024) (hone : ∀ u ∈ C, u.oneCell' = true) :
    Calls Try.prog 45 #[.agg C.toArray] w fun e w' => e = .returned (.agg C.toArray) ∧ Ext w w' := by
  obtain ⟨Z, hz, hzl, hzo⟩ : ∃ Z : List Value, (Try.prog.info? 26).bind (fun i => i.zero.map (·.cells)) = some Z.toArray ∧ Z.length = 1024 ∧ ∀ u ∈ Z, u.oneCell' = true := ⟨_, zSigFrom04, List.length_replicate, fun u hu => by rw [List.eq_of_mem_replicate hu]; rfl⟩
  have HCL := Lib.hid hC
  have HZL := Lib.hid hzl
  have HZO := Lib.hid hzo
  have hb1 : Blk (((w.alloc (.cells C.toArray 36)).alloc (.cells Z.toArray 26)).alloc (.cells Z.toArray 26)) w.heap.size 36 C := ((Blk.new _ _ _).keep ((Ext.refl _).alloc _) (by simp)).keep ((Ext.refl _).alloc _) (by simp)
  have hb2 : Blk (((w.alloc (.cells C.toArray 36)).alloc (.cells Z.toArray 26)).alloc (.cells Z.toArray 26)) (w.heap.size + 1) 26 Z := (Blk.fresh (by simp) _ _).keep ((Ext.refl _).alloc _) (by simp)
  have hb3 : Blk (((w.alloc (.cells C.toArray 36)).alloc (.cells Z.toArray 26)).alloc (.cells Z.toArray 26)) (w.heap.size + 2) 26 Z := Blk.fresh (by simp) _ _
  have hx0 : Ext w (((w.alloc (.cells C.toArray 36)).alloc (.cells Z.toArray 26)).alloc (.cells Z.toArray 26)) := (((Ext.refl w).alloc _).alloc _).alloc _
  have HB1 := Lib.hid hb1
  have HB2 := Lib.hid hb2
  have HB3 := Lib.hid hb3
  have HX0 := Lib.hid hx0
  clear hb1 hb2 hb3 hx0 hC hzl hzo
  go_enter Try.func45, Try.ntmps45
  go_wp2_with (first
    | (refine wpList_alloc _ rfl 26 rfl _ hz ?_)
    | fail)
  go_loopw [4, 5] (fun p i wr => ∃ k : Nat, k ≤ 32 ∧ i = .int .i64 k ∧ Ext w wr ∧ Blk wr w.heap.size 36 C ∧ Blk wr (w.heap.size + 1) 26 Z ∧ Blk wr (w.heap.size + 2) 26 (mixAt C Z k) ∧ ∃ q, p = q) (fun _ i _ => 32 - (intOf i).toNat)
  case atStart => exact ⟨0, by omega, rfl, HX0.out, HB1.out, HB2.out, by rw [mixAt_zero C Z HCL.out HZL.out]; exact HB3.out, _, rfl⟩
  case round =>
    clear HX0 HB1 HB2 HB3
    obtain ⟨k, hk, rfl, hx, hb1, hb2, hb3, q, rfl⟩ := hrel
    by_cases hlt : k < 32
    · have HX := Lib.hid hx
      have HB1 := Lib.hid hb1
      have HB2 := Lib.hid hb2
      have HB3 := Lib.hid hb3
      clear hx hb1 hb2 hb3
      go_wp2
      have hx : Ext w wr.drew := HX.out.drew
      have hb1 : Blk wr.drew w.heap.size 36 C := HB1.out
      have hb2 : Blk wr.drew (w.heap.size + 1) 26 Z := HB2.out
      have hb3 : Blk wr.drew (w.heap.size + 2) 26 (mixAt C Z k) := HB3.out
      refine startM (KeepB fun b => b = w.heap.size) (by kernel_rfl) ?_
      (try simp only [Act.put, List.setIfInBounds_toArray, List.set_cons_succ, List.set_cons_zero])
      generalize wr.drew = w0 at *
      have hk1 : Cells w0 ⟨w.heap.size, k * 16, none⟩ ((C.drop (k * 16)).take 16) := by have h := (hb1.cells.drop (k * 16)).take 16; rw [addr_at] at h; exact h
      have hk2 : Cells w0 ⟨w.heap.size, 512 + k * 16, none⟩ ((C.drop (512 + k * 16)).take 16) := by have h := (hb1.cells.drop (512 + k * 16)).take 16; rw [addr_at] at h; exact h
      have hp1 := piece_len HCL.out (o := k * 16) (by omega)
      have hp2 := piece_len HCL.out (o := 512 + k * 16) (by omega)
      have hst := mixAt_step C Z HCL.out HZL.out k hlt
      have ho1 : ∀ u ∈ (C.drop (k * 16)).take 16, u.oneCell' = true := fun u hu => hone u (List.mem_of_mem_drop (List.mem_of_mem_take hu))
      have ho2 : ∀ u ∈ (C.drop (512 + k * 16)).take 16, u.oneCell' = true := fun u hu => hone u (List.mem_of_mem_drop (List.mem_of_mem_take hu))
      generalize (C.drop (k * 16)).take 16 = P1 at *
      generalize (C.drop (512 + k * 16)).take 16 = P2 at *
      have HX := Lib.hid hx
      have HB1 := Lib.hid hb1
      have HB2 := Lib.hid hb2
      have HB3 := Lib.hid hb3
      have HK1 := Lib.hid hk1
      have HK2 := Lib.hid hk2
      have HP1 := Lib.hid hp1
      have HP2 := Lib.hid hp2
      have HST := Lib.hid hst
      have HO1 := Lib.hid ho1
      have HO2 := Lib.hid ho2
      clear hx hb1 hb2 hb3 hk1 hk2 hp1 hp2 hst ho1 ho2
      refine takeK 0 rfl (by kernel_rfl) (by kernel_rfl) (by kernel_rfl) rfl (fun _ _ _ _ h => h) rfl (fun K hK => ?_)
      go_big_quiet_op
      first | refine hK _ ?_ | refine ⟨_, fun _ _ => rfl, hK _ ?_⟩
      clear hK K
      refine takeK 1 rfl (by kernel_rfl) (by kernel_rfl) (by kernel_rfl) rfl (fun _ _ _ _ h => h) rfl (fun K hK => ?_)
      go_big_quiet_op
      first | refine hK _ ?_ | refine ⟨_, fun _ _ => rfl, hK _ ?_⟩
      clear hK K
      refine takeK 2 rfl (by kernel_rfl) (by kernel_rfl) (by kernel_rfl) rfl (fun _ _ _ _ h => h) rfl (fun K hK => ?_)
      go_big_quiet_op
      first | refine hK _ ?_ | refine ⟨_, fun _ _ => rfl, hK _ ?_⟩
      clear hK K
      refine takeK 3 rfl (by kernel_rfl) (by kernel_rfl) (by kernel_rfl) rfl (fun _ _ _ _ h => h) rfl (fun K hK => ?_)
      go_big_quiet_op
      first | refine hK _ ?_ | refine ⟨_, fun _ _ => rfl, hK _ ?_⟩
      clear hK K
      refine takeK 4 rfl (by kernel_rfl) (by kernel_rfl) (by kernel_rfl) rfl (fun _ _ _ _ h => h) rfl (fun K hK => ?_)
      go_big_quiet_op
      first | refine hK _ ?_ | refine ⟨_, fun _ _ => rfl, hK _ ?_⟩
      clear hK K
      refine takeK 5 rfl (by kernel_rfl) (by kernel_rfl) (by kernel_rfl) rfl (fun _ _ _ _ h => h) rfl (fun K hK => ?_)
      refine quiet_agg 33 (.tmp 12) rfl _ rfl P1 _ Try.underlying33 rfl (szPieceFrom04 HP1.out) (fun W' h => KeepB.cells h HK1.out rfl) ?_
      refine hK _ ?_
      simp only [Act.put, List.setIfInBounds_toArray, List.set_cons_succ, List.set_cons_zero]
      clear hK K
      refine takeK 6 rfl (by kernel_rfl) (by kernel_rfl) (by kernel_rfl) rfl (fun _ _ _ _ h => h) rfl (fun K hK => ?_)
      go_big_quiet_op
      first | refine hK _ ?_ | refine ⟨_, fun _ _ => rfl, hK _ ?_⟩
      clear hK K
      refine takeK 7 rfl (by kernel_rfl) (by kernel_rfl) (by kernel_rfl) rfl (fun _ _ _ _ h => h) rfl (fun K hK => ?_)
      go_big_quiet_op
      first | refine hK _ ?_ | refine ⟨_, fun _ _ => rfl, hK _ ?_⟩
      clear hK K
      refine takeK 8 rfl (by kernel_rfl) (by kernel_rfl) (by kernel_rfl) rfl (fun _ _ _ _ h => h) rfl (fun K hK => ?_)
      go_big_quiet_op
      first | refine hK _ ?_ | refine ⟨_, fun _ _ => rfl, hK _ ?_⟩
      clear hK K
      refine takeK 9 rfl (by kernel_rfl) (by kernel_rfl) (by kernel_rfl) rfl (fun _ _ _ _ h => h) rfl (fun K hK => ?_)
      refine quiet_agg 33 (.tmp 16) rfl _ rfl P2 _ Try.underlying33 rfl (szPieceFrom04 HP2.out) (fun W' h => KeepB.cells h HK2.out rfl) ?_
      refine hK _ ?_
      simp only [Act.put, List.setIfInBounds_toArray, List.set_cons_succ, List.set_cons_zero]
      clear hK K
      refine takeK 10 rfl (by kernel_rfl) (by kernel_rfl) (by kernel_rfl) rfl (fun _ _ _ _ h => h) rfl (fun K hK => ?_)
      go_big_quiet_op
      first | refine hK _ ?_ | refine ⟨_, fun _ _ => rfl, hK _ ?_⟩
      clear hK K
      refine takeK 11 rfl (by kernel_rfl) (by kernel_rfl) (by kernel_rfl) rfl (fun _ _ _ _ h => h) rfl (fun K hK => ?_)
      go_big_quiet_op
      first | refine hK _ ?_ | refine ⟨_, fun _ _ => rfl, hK _ ?_⟩
      clear hK K
      refine takeK 13 rfl (by kernel_rfl) (by kernel_rfl) (by kernel_rfl) rfl (fun _ _ _ _ h => h) rfl (fun K hK => ?_)
      go_big_quiet_op
      first | refine hK _ ?_ | refine ⟨_, fun _ _ => rfl, hK _ ?_⟩
      clear hK K
      refine stepM 12 rfl (by kernel_rfl) rfl (fun K hK => ?_)
      refine wp_store_part w0 23 (.tmp 19) (.tmp 13) rfl (w.heap.size + 2) (k * 16) rfl (mixAt C Z k) P1 _ rfl HB3.out (szPieceBFrom04 HP1.out) (by rw [mixAt_len, HP1.out]; omega) HO1.out ?_
      refine hK _ _ (fun b hb => (setRow_only _).block b (by have := HB1.out.lt; rcases hb with rfl; exact this) (by rcases hb with rfl; simp)) ?_
      clear hK K
      (try simp only [Act.put, List.setIfInBounds_toArray, List.set_cons_succ, List.set_cons_zero])
      refine takeK 14 rfl (by kernel_rfl) (by kernel_rfl) (by kernel_rfl) rfl (fun _ _ _ _ h => h) rfl (fun K hK => ?_)
      go_big_quiet_op
      first | refine hK _ ?_ | refine ⟨_, fun _ _ => rfl, hK _ ?_⟩
      clear hK K
      refine stepM 15 rfl (by kernel_rfl) rfl (fun K hK => ?_)
      refine wp_store_part _ 23 (.tmp 21) (.tmp 17) rfl (w.heap.size + 2) (512 + k * 16) rfl (putAt (mixAt C Z k) (k * 16) P1) P2 _ rfl (setRow_at HB3.out) (szPieceBFrom04 HP2.out) (by rw [putAt_len (by rw [mixAt_len, HP1.out]; omega), mixAt_len, HP2.out]; omega) HO2.out ?_
      refine hK _ _ (fun b hb => (setRow_only _).block b (by have := HB1.out.lt; rcases hb with rfl; simpa [World.setRow] using this) (by rcases hb with rfl; simp)) ?_
      clear hK K
      (try simp only [Act.put, List.setIfInBounds_toArray, List.set_cons_succ, List.set_cons_zero])
      refine doneM (by kernel_rfl) ?_ _
      have hx9 : Ext w ((w0.setRow (w.heap.size + 2) (putAt (mixAt C Z k) (k * 16) P1).toArray).setRow (w.heap.size + 2) (putAt (putAt (mixAt C Z k) (k * 16) P1) (512 + k * 16) P2).toArray) := grown_then (grown_then HX.out (setRow_only _) (.inr (by rintro b ⟨⟩; omega))) (setRow_only _) (.inr (by rintro b ⟨⟩; omega))
      have hb1 : Blk ((w0.setRow (w.heap.size + 2) (putAt (mixAt C Z k) (k * 16) P1).toArray).setRow (w.heap.size + 2) (putAt (putAt (mixAt C Z k) (k * 16) P1) (512 + k * 16) P2).toArray) w.heap.size 36 C := (HB1.out.keep (setRow_only _) (by simp)).keep (setRow_only _) (by simp)
      have hb2 : Blk ((w0.setRow (w.heap.size + 2) (putAt (mixAt C Z k) (k * 16) P1).toArray).setRow (w.heap.size + 2) (putAt (putAt (mixAt C Z k) (k * 16) P1) (512 + k * 16) P2).toArray) (w.heap.size + 1) 26 Z := (HB2.out.keep (setRow_only _) (by simp)).keep (setRow_only _) (by simp)
      have hb3 : Blk ((w0.setRow (w.heap.size + 2) (putAt (mixAt C Z k) (k * 16) P1).toArray).setRow (w.heap.size + 2) (putAt (putAt (mixAt C Z k) (k * 16) P1) (512 + k * 16) P2).toArray) (w.heap.size + 2) 26 (mixAt C Z (k + 1)) := by rw [← HST.out]; exact setRow_at (setRow_at HB3.out)
      generalize World.setRow _ _ _ = w9 at *
      have HX9 := Lib.hid hx9
      have HB91 := Lib.hid hb1
      have HB92 := Lib.hid hb2
      have HB93 := Lib.hid hb3
      clear hx9 hb1 hb2 hb3
      go_wp2
      go_roundw
      case rel => exact ⟨k + 1, by omega, by go_num, HX9.out, HB91.out, HB92.out, HB93.out, _, rfl⟩
      case measure => simp [intOf]; omega
    · obtain rfl : k = 32 := by omega
      rw [mixAt_all C Z HCL.out HZL.out] at hb3
      have hcm := hb3.cells
      have hr2 : wr.heap[w.heap.size + 1]? = some (.cells Z.toArray 26 (0, 0)) := hb2
      have HX := Lib.hid hx
      clear hx hb1 hb2 hb3
      go_wp2_with (first
        | (refine wpList_load_agg _ rfl 26 (.tmp 3) rfl _ rfl C _ Try.underlying26 rfl (szSigFrom04 HCL.out) hcm ?_)
        | (refine wpList_store_row _ rfl 26 (.tmp 2) (.tmp 23) rfl (w.heap.size + 1) rfl Z C _ rfl hr2 (szSigFrom04 HCL.out) (by rw [HCL.out, HZL.out]) hone ?_)
        | fail)
      have hc9 := Blk.cells (t := 26) (setRow_at (cs' := C.toArray) hr2)
      (try simp only [Exit.inBlock, Exit.then])
      refine bodyPost_ret (results_agg rfl _ _ _ _ _ rfl Try.underlying26 rfl (szSigFrom04 HCL.out) hc9) rfl ?_
      exact ⟨rfl, grown_then HX.out (setRow_only _) (.inr (by rintro b ⟨⟩; omega))⟩
theorem szInFrom05 {n : Nat} (h : n = 1024) : (Try.prog.info? 36).map (·.size) = some n := by subst h; kernel_rfl
theorem szOutFrom05 {n : Nat} (h : n = 1026) : (Try.prog.info? 30).map (·.size) = some n := by subst h; kernel_rfl
theorem szElFrom05 {n : Nat} (h : n = 32) : (Try.prog.info? 55).map (·.size) = some n := by subst h; kernel_rfl
theorem szEbFrom05 {n : Nat} (h : n = 32) : (Try.prog.info? 31).map (·.size) = some n := by subst h; kernel_rfl
theorem zElFrom05 : (Try.prog.info? 55).bind (fun i => i.zero.map (·.cells)) = some (List.replicate 32 (Value.int .u8 0)).toArray := by kernel_rfl
theorem zEbFrom05 : ((Try.prog.info? 31).bind (·.zero)).isSome = true := by kernel_rfl
theorem zOutFrom05 : (Try.prog.info? 30).bind (fun i => i.zero.map (·.cells)) = some (List.replicate 1024 (Value.int .u8 0) ++ [Value.int .u32 0, Value.slice none 0 0]).toArray := by kernel_rfl
theorem fieldsFrom05 : ∃ fields, Try.prog.underlying 30 = some (.struct fields) ∧ fields.toList.mapM (fun f => (Try.prog.info? f.type).map fun i => (f.offset, i.size)) = some [(0, 1024), (1024, 1), (1025, 1)] :=
  ⟨_, Try.underlying30, by kernel_rfl⟩
theorem partsFrom05 : ∃ (i : TypeInfo) (z : Value), Try.prog.info? 31 = some i ∧ i.zero = some z ∧ i.size = 32 ∧ i.bytes = 32 ∧ z.cells.size = 32 := by
  have h : ((Try.prog.info? 31).bind fun i => i.zero.map fun z => (i.size, i.bytes, z.cells.size)) = some (32, 32, 32) := by kernel_rfl
  obtain ⟨i, hi, h2⟩ := Option.bind_eq_some_iff.1 h
  obtain ⟨z, hz, h3⟩ := Option.map_eq_some_iff.1 h2
  have h4 : i.size = 32 ∧ i.bytes = 32 ∧ z.cells.size = 32 := by simpa using h3
  exact ⟨i, z, hi, hz, h4⟩
set_option maxRecDepth 100000 in
set_option maxHeartbeats 8000000 in
theorem From05 (C : List Value) (key : Nat) (u : Value) (ds : List Dg) (w : World) (F : Fp) (hC : C.length = 1024) (hone : ∀ u ∈ C, u.oneCell' = true) (hc : Ways w F u ds) (hF : ∀ b, F b → b < w.heap.size) (hlen : List.length (α := Dg) ds ≤ 1099511627776) :
    Calls Try.prog 18 #[.agg (sigC C key u).toArray] w fun e w' => ∃ v, e = .returned (.agg (sigC C key v).toArray) ∧ OwnD 31 w' v ds ∧ Ext w w' ∧ ∀ b, v.ownBlock = some b → w.heap.size ≤ b := by
  obtain ⟨i1, z1, hi1, hz1, hi2, hi3, hi4⟩ := partsFrom05
  obtain ⟨fields, hfu, hfp⟩ := fieldsFrom05
  obtain ⟨A, c, xs, rfl, hlc, hcm, hA, hcell, hall⟩ := ways_open hc
  clear hc
  unfold maxLen at hcm
  obtain ⟨ZR, hzr, hzl, hfl⟩ : ∃ ZR : List Value, (Try.prog.info? 30).bind (fun i => i.zero.map (·.cells)) = some ZR.toArray ∧ ZR.length = 1026 ∧ fillL ([(0, 1024), (1024, 1), (1025, 1)].toArray[·]?) ZR [(0, C), (1, [.int .u32 (key : Int)])] = some (sigC C key (.slice none 0 0)) := by
    refine ⟨_, zOutFrom05, by simp, ?_⟩
    simp [fillL, hC, sigC, List.drop_append]
  obtain ⟨ZE, hze, hzel⟩ : ∃ ZE : List Value, (Try.prog.info? 55).bind (fun i => i.zero.map (·.cells)) = some ZE.toArray ∧ ZE.length = 32 := ⟨_, zElFrom05, List.length_replicate⟩
  have HCL := Lib.hid hC
  have HZL := Lib.hid hzl
  have HFL := Lib.hid hfl
  have HZE := Lib.hid hzel
  generalize hU : Value.slice A (List.length (α := Dg) ds) c = u at *
  have hb1 : Blk ((w.alloc (.cells (sigC C key u).toArray 39)).alloc (.cells ZR.toArray 30)) w.heap.size 39 (sigC C key u) := (Blk.new _ _ _).keep ((Ext.refl _).alloc _) (by simp)
  have hb2 : Blk ((w.alloc (.cells (sigC C key u).toArray 39)).alloc (.cells ZR.toArray 30)) (w.heap.size + 1) 30 ZR := Blk.fresh (by simp) _ _
  have hx0 : Ext w ((w.alloc (.cells (sigC C key u).toArray 39)).alloc (.cells ZR.toArray 30)) := ((Ext.refl w).alloc _).alloc _
  have hsl : (sigC C key u)[1025]? = some (.slice A (List.length (α := Dg) ds) c) := by rw [hU]; exact sigC_way hC key u
  have hky := sigC_key hC key u
  have htk := sigC_take hC key u
  have hsl9 := sigC_len hC key u
  generalize sigC C key u = SC at *
  have HSL := Lib.hid hsl
  have HKEY := Lib.hid hky
  have HTK := Lib.hid htk
  have HB1 := Lib.hid hb1
  have HB2 := Lib.hid hb2
  have HX0 := Lib.hid hx0
  clear hC hzl hfl hzel hb1 hb2 hx0 hsl hky htk hU
  go_enter Try.func18, Try.ntmps18
  go_wp2_with (first
    | (refine wpList_alloc _ rfl 30 rfl _ hzr ?_)
    | fail)
  have hx : Ext w ((w.alloc (.cells SC.toArray 39)).alloc (.cells ZR.toArray 30)).drew := HX0.out.drew
  have hb1 : Blk ((w.alloc (.cells SC.toArray 39)).alloc (.cells ZR.toArray 30)).drew w.heap.size 39 SC := HB1.out
  have hb2 : Blk ((w.alloc (.cells SC.toArray 39)).alloc (.cells ZR.toArray 30)).drew (w.heap.size + 1) 30 ZR := HB2.out
  refine startM (KeepB fun b => b < ((w.alloc (.cells SC.toArray 39)).alloc (.cells ZR.toArray 30)).drew.heap.size) (by kernel_rfl) ?_
  (try simp only [Act.put, List.setIfInBounds_toArray, List.set_cons_succ, List.set_cons_zero])
  generalize ((w.alloc (.cells SC.toArray 39)).alloc (.cells ZR.toArray 30)).drew = w0 at *
  have hcc : Cells w0 ⟨w.heap.size, 0, none⟩ C := by have h := hb1.cells.take 1024; rw [HTK.out] at h; exact h
  have hky : w0.cell? ⟨w.heap.size, 1024, none⟩ = some (.int .u32 (key : Int)) := (hb1.cell 1024).trans HKEY.out
  have HBL := Lib.hid hb1.lt
  have HCC := Lib.hid hcc
  have HKY := Lib.hid hky
  have HB1 := Lib.hid hb1
  have HB2 := Lib.hid hb2
  have HX := Lib.hid hx
  have hJ := AJ.start w0 30 ZR
  have HJ := Lib.hid hJ
  clear hx hb1 hb2 hcc hky hJ
  apply sharedA (fun g W => AJ w0 30 ZR (some g) W)
  · intro hM
    refine takeK 0 rfl (by kernel_rfl) (by kernel_rfl) (by kernel_rfl) rfl (fun _ _ _ _ h => h) rfl (fun K hK => ?_)
    go_big_quiet_op
    first | refine hK _ ?_ | refine ⟨_, fun _ _ => rfl, hK _ ?_⟩
    clear hK K
    refine takeK 1 rfl (by kernel_rfl) (by kernel_rfl) (by kernel_rfl) rfl (fun _ _ _ _ h => h) rfl (fun K hK => ?_)
    refine quiet_agg 36 (.tmp 6) rfl _ rfl C _ Try.underlying36 rfl (szInFrom05 HCL.out) (fun W' h => KeepB.cells h HCC.out HBL.out) ?_
    refine hK _ ?_
    simp only [Act.put, List.setIfInBounds_toArray, List.set_cons_succ, List.set_cons_zero]
    clear hK K
    refine takeK 3 rfl (by kernel_rfl) (by kernel_rfl) (by kernel_rfl) rfl (fun _ _ _ _ h => h) rfl (fun K hK => ?_)
    go_big_quiet_op
    first | refine hK _ ?_ | refine ⟨_, fun _ _ => rfl, hK _ ?_⟩
    clear hK K
    refine takeK 4 rfl (by kernel_rfl) (by kernel_rfl) (by kernel_rfl) rfl (fun _ _ _ _ h => h) rfl (fun K hK => ?_)
    refine quiet_cell _ _ rfl _ rfl _ _ Try.underlying27 rfl (fun W' h => KeepB.cell h HKY.out HBL.out) ?_
    refine hK _ ?_
    simp only [Act.put, List.setIfInBounds_toArray, List.set_cons_succ, List.set_cons_zero]
    clear hK K
    refine bothM 2 6 rfl rfl (by kernel_rfl) rfl rfl (fun K hK => ?_) (fun K hK => ?_)
    · go_simp
      refine (From04 C _ HCL.out hone).mono ?_
      rintro e w6 ⟨rfl, hx6⟩
      have hkb := (HJ.out.step hx6).2
      have HJ := Lib.hid (HJ.out.step hx6).1
      refine hK _ _ (hkb) ?_
      clear hK K
      refine takeK 5 rfl (by kernel_rfl) (by kernel_rfl) (by kernel_rfl) rfl (fun _ _ _ _ h => h) rfl (fun K hK => ?_)
      refine quiet_build_st 30 #[(0, .tmp 8), (1, .tmp 10)] rfl fields ZR (sigC C key (.slice none 0 0)) _ _ hfu hzr hfp (by simp [Value.cells, Act.eval]) HFL.out ?_
      refine hK _ ?_
      simp only [Act.put, List.setIfInBounds_toArray, List.set_cons_succ, List.set_cons_zero]
      clear hK K
      refine stepM 6 rfl (by kernel_rfl) rfl (fun K hK => ?_)
      refine wp_alloc_agg 30 rfl ZR hzr ?_
      refine hK _ _ (HJ.out.keepAlloc _) ?_
      clear hK K
      (try simp only [Act.put, List.setIfInBounds_toArray, List.set_cons_succ, List.set_cons_zero])
      have HJ := Lib.hid HJ.out.alloc
      have hJf := HJ.out
      revert hJf
      generalize w6.alloc (.cells ZR.toArray 30) = W9
      generalize w6.heap.size = g9
      intro hJf
      exact hM g9 W9 hJf
    · refine wp_alloc_agg 30 rfl ZR hzr ?_
      refine hK _ _ (HJ.out.keepAlloc _) ?_
      clear hK K
      (try simp only [Act.put, List.setIfInBounds_toArray, List.set_cons_succ, List.set_cons_zero])
      have HJ := Lib.hid HJ.out.alloc
      refine stepM 2 rfl (by kernel_rfl) rfl (fun K hK => ?_)
      go_simp
      refine (From04 C _ HCL.out hone).mono ?_
      rintro e w6 ⟨rfl, hx6⟩
      have hkb := (HJ.out.step hx6).2
      have HJ := Lib.hid (HJ.out.step hx6).1
      refine hK _ _ (hkb) ?_
      clear hK K
      refine takeK 5 rfl (by kernel_rfl) (by kernel_rfl) (by kernel_rfl) rfl (fun _ _ _ _ h => h) rfl (fun K hK => ?_)
      refine quiet_build_st 30 #[(0, .tmp 8), (1, .tmp 10)] rfl fields ZR (sigC C key (.slice none 0 0)) _ _ hfu hzr hfp (by simp [Value.cells, Act.eval]) HFL.out ?_
      refine hK _ ?_
      simp only [Act.put, List.setIfInBounds_toArray, List.set_cons_succ, List.set_cons_zero]
      clear hK K
      refine relist (by kernel_rfl) (hM _ _ HJ.out)
  rintro g W hJ
  have HGB := Lib.hid (hJ.blk g rfl)
  have HJ := Lib.hid hJ
  clear hJ
  refine stepM 7 rfl (by kernel_rfl) rfl (fun K hK => ?_)
  refine wp_store_row 30 (.tmp 3) (.tmp 11) rfl g rfl ZR (sigC C key (.slice none 0 0)) _ rfl HGB.out.2 (szOutFrom05 (sigC_len HCL.out _ _)) (by rw [sigC_len HCL.out, HZL.out]) (sigC_one hone _ _ _ _) ?_
  refine hK _ _ (fun b hb => (setRow_only _).block _ (Nat.lt_of_lt_of_le hb HJ.out.ext.size) (by have := HGB.out.1; simp; omega)) ?_
  clear hK K
  (try simp only [Act.put, List.setIfInBounds_toArray, List.set_cons_succ, List.set_cons_zero])
  refine doneM (by kernel_rfl) ?_ _
  have hg0 := HGB.out.1
  have hx0 := HX.out.size
  have hbl := HB2.out.lt
  have hx9 : Ext w (W.setRow g (sigC C key (.slice none 0 0)).toArray) := grown_then (HX.out.trans HJ.out.ext) (setRow_only _) (.inr (by rintro b ⟨⟩; omega))
  have hb1 : Blk (W.setRow g (sigC C key (.slice none 0 0)).toArray) w.heap.size 39 SC := (HB1.out.keep HJ.out.ext (by simp)).keep (setRow_only _) (by simp; omega)
  have hb2 : Blk (W.setRow g (sigC C key (.slice none 0 0)).toArray) (w.heap.size + 1) 30 ZR := (HB2.out.keep HJ.out.ext (by simp)).keep (setRow_only _) (by simp; omega)
  have hb3 : Blk (W.setRow g (sigC C key (.slice none 0 0)).toArray) g 30 (sigC C key (.slice none 0 0)) := setRow_at HGB.out.2
  have hgg : w.heap.size + 1 < g := by omega
  generalize W.setRow g (sigC C key (.slice none 0 0)).toArray = w1 at *
  have c13 : w1.cell? ⟨w.heap.size, 1025, none⟩ = some (.slice A (List.length (α := Dg) ds) c) := (hb1.cell 1025).trans HSL.out
  have HX1 := Lib.hid hx9
  have HB91 := Lib.hid hb1
  have HB92 := Lib.hid hb2
  have HB93 := Lib.hid hb3
  clear hx9 hb1 hb2 hb3 HX HB1 HB2 HJ HGB HCC HKY HBL hg0 hx0 hbl
  go_wp2
  go_loopw [5, 15] (fun p i wr => ∃ (k : Nat) (v : Value), k ≤ List.length (α := Dg) ds ∧ i = .int .i64 k ∧ Ext w wr ∧ Blk wr (w.heap.size + 1) 30 ZR ∧ Blk wr g 30 (sigC C key v) ∧ OwnD 31 wr v (ds.take k) ∧ (∀ b, v.ownBlock = some b → w.heap.size + 2 ≤ b ∧ b ≠ g) ∧ ∃ q, p = q) (fun _ i _ => List.length (α := Dg) ds - (intOf i).toNat)
  case atStart => exact ⟨0, .slice none 0 0, by omega, rfl, HX1.out, HB92.out, HB93.out, ⟨by simp, Own.nil _ _ _⟩, by simp [Value.ownBlock], _, rfl⟩
  case round =>
    clear HX1 HB91 HB92 HB93 c13
    obtain ⟨k, v, hk, rfl, hx, hb2, hb3, hov, hfar, q, rfl⟩ := hrel
    by_cases hlt : k < List.length (α := Dg) ds
    · obtain ⟨ad, rfl, hf, hcells⟩ := hcell (by omega)
      obtain ⟨hcc, hdl⟩ := digs_at hall (hcells.keep (hx.same hF _ hf)) hlt
      have htk : ds.take (k + 1) = ds.take k ++ [ds[k]] := List.take_succ_eq_append_getElem hlt
      have htl : List.length (α := Dg) (ds.take k) = k := by rw [List.length_take]; omega
      have hone3 := bv_one ds[k]
      have hD : (bv ds[k]).length = 32 := by simpa using hdl
      generalize hdk : ds[k] = dk at *
      generalize hDE : bv dk = D at *
      have hvw := (hb3.cell 1025).trans (sigC_way HCL.out key v)
      have hb3' : Blk (wr.alloc (.cells D.toArray 55)) g 30 (sigC C key v) := hb3.keep ((Ext.refl _).alloc _) (by simp)
      have hvw' : (wr.alloc (.cells D.toArray 55)).cell? ⟨g, 1025, none⟩ = some v := (hb3'.cell 1025).trans (sigC_way HCL.out key v)
      have hcd : Cells (wr.alloc (.cells D.toArray 55)) ⟨wr.heap.size, 0, none⟩ D := (Blk.new wr 55 D).cells
      have hxa : Ext wr ((wr.alloc (.cells D.toArray 55)).alloc (.cells D.toArray 31)) := ((Ext.refl wr).alloc _).alloc _
      have HXA := Lib.hid hxa
      have HX := Lib.hid hx
      have HB2 := Lib.hid hb2
      have HB3 := Lib.hid hb3
      have HOV := Lib.hid hov
      have HFAR := Lib.hid hfar
      have HDL := Lib.hid hD
      have HTK := Lib.hid htk
      have how : Own wr 31 32 v k ((ds.take k).flatMap bv) := by have h := HOV.out.2; rw [htl] at h; exact h
      have HOW := Lib.hid how
      have HTL := Lib.hid htl
      have HDE := Lib.hid hDE
      have HDL2 := Lib.hid hdl
      clear how hx hb2 hb3 hov hfar hD htk htl hDE hdl hcells hb3' hxa hvw hdk
      go_wp2_with (first
        | (refine wpList_load_agg _ rfl 55 (.tmp 17) rfl _ rfl D _ Try.underlying55 rfl (szElFrom05 HDL.out) hcc ?_)
        | (refine wpList_alloc _ rfl 55 rfl _ hze ?_)
        | (refine wpList_store_new _ rfl 55 (.tmp 5) (.tmp 18) rfl rfl ZE D _ rfl (szElFrom05 HDL.out) (by rw [HDL.out, HZE.out]) hone3 ?_)
        | (refine wpList_load_agg _ rfl 55 (.tmp 5) rfl _ rfl D _ Try.underlying55 rfl (szElFrom05 HDL.out) hcd ?_)
        | (refine wpList_one _ rfl 28 (.tmp 21) rfl 31 D Try.underlying28 rfl (szEbFrom05 HDL.out) zEbFrom05 (by rw [HDL.out]; decide) (by rw [HDL.out]; decide) ?_)
        | (at_builtin
           go_must (refine wpList_app _ rfl (.tmp 20) (.tmp 22) _ _ rfl 31 31 i1 z1 32 32 Try.underlying28 Try.underlying28 hi1 hz1 hi2 hi3 hi4 (by decide) v _ _ rfl (HOW.out.ext HXA.out) _ 1 1 D rfl (by rw [HDL.out]) (src_at rfl D _ 1) hone3 (by unfold maxLen; omega) (by omega) ?_)
           intro v7 w7 ho7 hm7
           obtain ⟨A7, c7, hv7⟩ := Own.form ho7
           subst hv7
           have HB7 := Lib.hid ((HB3.out.keep HXA.out (by simp)).keep hm7.grown (fun e => (HFAR.out _ e.symm).2 rfl))
           have s9 : w7.cell? ⟨g, 1025, none⟩ = some v := (HB7.out.cell 1025).trans (sigC_way HCL.out key v)
           have f9 : w7.frozen? ⟨g, 1025, none⟩ = false := HB7.out.free 1025)
        | fail)
      have far7 : ∀ b, (Value.slice A7 (k + 1) c7).ownBlock = some b → w.heap.size + 2 ≤ b ∧ b ≠ g := fun b hb => by
        rcases hm7.at_ with e | hn
        · exact HFAR.out b (e.symm.trans hb)
        · have h1 := hn b hb
          have h2 := HB3.out.lt
          have h3 := HX.out.size
          simp at h1
          omega
      have ne : ∀ x, (x < w.heap.size + 2 ∨ x = g) → some x ≠ v.ownBlock := fun x hx e => by have := HFAR.out x e.symm; omega
      have hx8 : Ext w (w7.setCell ⟨g, 1025, none⟩ (.slice A7 (k + 1) c7)) := grown_then (grown_then (HX.out.trans HXA.out) hm7.grown (.inr fun x hx => by have := HFAR.out x hx; omega)) (only_set 1025 _) (.inr (by rintro b ⟨⟩; omega))
      have hb28 : Blk (w7.setCell ⟨g, 1025, none⟩ (.slice A7 (k + 1) c7)) (w.heap.size + 1) 30 ZR := ((HB2.out.keep HXA.out (by simp)).keep hm7.grown (ne _ (.inl (by omega)))).keep (only_set 1025 _) (by simp; omega)
      have hb38 : Blk (w7.setCell ⟨g, 1025, none⟩ (.slice A7 (k + 1) c7)) g 30 (sigC C key (.slice A7 (k + 1) c7)) := by
        have := HB7.out.set 1025 (.slice A7 (k + 1) c7)
        rwa [sigC_set HCL.out] at this
      have ho8 : OwnD 31 (w7.setCell ⟨g, 1025, none⟩ (.slice A7 (k + 1) c7)) (.slice A7 (k + 1) c7) (ds.take (k + 1)) := by
        rw [HTK.out]
        refine ⟨fun d hd => ?_, ?_⟩
        · rcases List.mem_append.1 hd with hd | hd
          · exact HOV.out.1 d hd
          · rw [List.mem_singleton.1 hd]; exact HDL2.out
        · have e1 : (ds.take k ++ [dk]).flatMap bv = (ds.take k).flatMap bv ++ D := by rw [← HDE.out]; simp
          have e2 : List.length (α := Dg) (ds.take k ++ [dk]) = k + 1 := by rw [List.length_append, HTL.out]; rfl
          rw [e1, e2]
          refine ho7.keep (row := some g) (only_set 1025 _) ?_
          cases hvb : (Value.slice A7 (k + 1) c7).ownBlock with
          | none => exact .inl rfl
          | some b => exact .inr (by have := (far7 b hvb).2; simpa using this)
      have HX8 := Lib.hid hx8
      have HB28 := Lib.hid hb28
      have HB38 := Lib.hid hb38
      have HO8 := Lib.hid ho8
      have HF8 := Lib.hid far7
      go_roundw
      case rel => exact ⟨k + 1, _, by omega, by go_num, HX8.out, HB28.out, HB38.out, HO8.out, HF8.out, _, rfl⟩
      case measure => simp [intOf]; omega
    · obtain rfl : k = List.length (α := Dg) ds := by omega
      have htk : ds.take (List.length (α := Dg) ds) = ds := List.take_length
      rw [htk] at hov
      have hcm := hb3.cells
      have hr2 : wr.heap[w.heap.size + 1]? = some (.cells ZR.toArray 30 (0, 0)) := hb2
      have hml := sigC_len HCL.out key v
      have hmone : ∀ u ∈ sigC C key v, u.oneCell' = true := by obtain ⟨A2, c2, h⟩ := hov.2.form; rw [h]; exact sigC_one hone _ _ _ _
      obtain ⟨M, hM⟩ : ∃ M, M = sigC C key v := ⟨_, rfl⟩
      rw [← hM] at hcm hml hmone
      have HM := Lib.hid hM
      have HX := Lib.hid hx
      have HOV := Lib.hid hov
      have HML := Lib.hid hml
      have HFAR := Lib.hid hfar
      clear hx hb2 hb3 hov hml hM hfar htk
      go_wp2_with (first
        | (refine wpList_load_agg _ rfl 30 (.tmp 3) rfl _ rfl M _ Try.underlying30 rfl (szOutFrom05 HML.out) hcm ?_)
        | (refine wpList_store_row _ rfl 30 (.tmp 2) (.tmp 26) rfl (w.heap.size + 1) rfl ZR M _ rfl hr2 (szOutFrom05 HML.out) (by rw [HML.out, HZL.out]) hmone ?_)
        | fail)
      have hc9 := Blk.cells (t := 30) (setRow_at (cs' := M.toArray) hr2)
      (try simp only [Exit.inBlock, Exit.then])
      refine bodyPost_ret (results_agg rfl _ _ _ _ _ rfl Try.underlying30 rfl (szOutFrom05 HML.out) hc9) rfl ?_
      refine ⟨v, by rw [HM.out], ⟨HOV.out.1, HOV.out.2.keep (row := some (w.heap.size + 1)) (setRow_only _) ?_⟩, grown_then HX.out (setRow_only _) (.inr (by rintro b ⟨⟩; omega)), fun b hb => by have := HFAR.out b hb; omega⟩
      cases hvb : v.ownBlock with
      | none => exact .inl rfl
      | some b => exact .inr (by have := (HFAR.out b hvb).1; simp; omega)
end
end Go.Proofs.Ytpdkmapogncgmaa

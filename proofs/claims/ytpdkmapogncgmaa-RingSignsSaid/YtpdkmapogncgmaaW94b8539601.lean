/- Walks and plain laws, put together in build order. Conditions: what each of them names. -/
import Derived.Test.YtpdkmapogncgmaaW65ddae0e2b
set_option linter.unusedVariables false
set_option linter.unusedSimpArgs false
set_option linter.unnecessarySimpa false
namespace Go.Proofs.Ytpdkmapogncgmaa
section
open Go.RowKit

theorem shl_u32 (P : Program) (t : TypeId) {h : Nat} (hh : h < 4) (w : World) : (binOp .shl t (.int .u32 1) (.int .i64 (h : Int))).run P w = .ok (.int .u32 ((2 ^ h : Nat) : Int)) w := by
  rcases (show h = 0 ∨ h = 1 ∨ h = 2 ∨ h = 3 by omega) with rfl | rfl | rfl | rfl <;> rfl
theorem rem_u32 (P : Program) (t : TypeId) {x n : Nat} (hn : 0 < n) (w : World) : (binOp .rem t (.int .u32 (x : Int)) (.int .u32 (n : Int))).run P w = .ok (.int .u32 ((x % n : Nat) : Int)) w := by
  have h : (x : Int).tmod (n : Int) = ((x % n : Nat) : Int) := by rw [Int.tmod_eq_emod_of_nonneg (by omega)]; rfl
  show Sem.run P (Op.intDiv .rem .u32 (x : Int) (n : Int)) w = _
  unfold Op.intDiv
  rw [if_neg (by omega)]
  show Sem.run P (pure (Value.int .u32 ((x : Int).tmod (n : Int)))) w = _
  rw [h, Sem.run_pure]
set_option maxRecDepth 100000 in
set_option maxHeartbeats 8000000 in
theorem Signs05 (seed : List UInt8) (hs : seed.length = 32) (x y : Nat) (hy : y < 256) (d : Dg) (hd : List.length (α := UInt8) d = 32) (w : World) :
    Calls Try.prog 4 #[.agg (bv seed).toArray, .int .u8 (x : Int), .int .u8 (y : Int), .agg (bv d).toArray] w fun e w' => e = .returned (.bool true) ∧ Ext w w' := by
  obtain ⟨hh, hhe⟩ : ∃ hh, hh = x % 4 := ⟨_, rfl⟩
  have hh4 : hh < 4 := by rw [hhe]; exact Nat.mod_lt _ (by decide)
  obtain ⟨kk, hkk⟩ : ∃ kk, kk = y % 2 ^ hh := ⟨_, rfl⟩
  have hkl : kk < 2 ^ hh := by rw [hkk]; exact Nat.mod_lt _ (Nat.two_pow_pos _)
  have hp8 := pow_low (tall := hh) (by omega)
  have hk256 : kk < 256 := by omega
  have hkw : (Lit.int .u32 (kk : Int)).wf = true := by simp [Lit.wf, IntKind.bits, IntKind.signed, IntKind.min, IntKind.max]; omega
  have hkw1 : (Lit.int .u32 ((kk + 1 : Nat) : Int)).wf = true := by simp [Lit.wf, IntKind.bits, IntKind.signed, IntKind.min, IntKind.max]; omega
  have hhw : (Lit.int .i64 (hh : Int)).wf = true := by simp [Lit.wf, IntKind.bits, IntKind.signed, IntKind.min, IntKind.max]; omega
  have hhw1 : (Lit.int .i64 ((hh + 1 : Nat) : Int)).wf = true := by simp [Lit.wf, IntKind.bits, IntKind.signed, IntKind.min, IntKind.max]; omega
  have hrh : ∀ (P : Program) (t : TypeId) (w : World), (binOp .rem t (.int .u8 (x : Int)) (.int .u8 4)).run P w = .ok (.int .u8 (hh : Int)) w := fun P t w => by rw [hhe]; exact rem_four P t w
  have hsh : ∀ (P : Program) (t : TypeId) (w : World), (binOp .shl t (.int .u32 1) (.int .i64 (hh : Int))).run P w = .ok (.int .u32 ((2 ^ hh : Nat) : Int)) w := fun P t w => shl_u32 P t hh4 w
  have hrk : ∀ (P : Program) (t : TypeId) (w : World), (binOp .rem t (.int .u32 (y : Int)) (.int .u32 ((2 ^ hh : Nat) : Int))).run P w = .ok (.int .u32 (kk : Int)) w := fun P t w => by rw [hkk]; exact rem_u32 P t (Nat.two_pow_pos _) w
  clear hhe hkk
  have hnew := fun W => Ring_New seed hs hh (by omega) W
  have hlen : (List.replicate (2 ^ hh) false).length = 2 ^ hh := List.length_replicate
  have ht0 : takenM (List.replicate (2 ^ hh) false) kk = false := taken_none _ _
  have ht1 : takenM ((List.replicate (2 ^ hh) false).set kk true) kk = true := taken_self (by rw [hlen]; exact hkl)
  have hsi := fun (W : World) (g tb : Nat) (F : Fp) (R : Value) (h : RingAt W g tb F R seed hh (List.replicate (2 ^ hh) false)) => Ring_Sign h kk hkw hkl ht0 d hd
  have hno := fun (W : World) (g tb : Nat) (F : Fp) (R : Value) (h : RingAt W g tb F R seed hh ((List.replicate (2 ^ hh) false).set kk true)) => Ring_Sign_no h kk hkw hkl ht1 d
  have hag := fun (W : World) (g tb : Nat) (F : Fp) (R : Value) (h : RingAt W g tb F R seed hh ((List.replicate (2 ^ hh) false).set kk true)) => Ring_Again h kk hkw hkl ht1 d hd
  have htk := fun (W : World) (g tb : Nat) (F : Fp) (R : Value) (h : RingAt W g tb F R seed hh ((List.replicate (2 ^ hh) false).set kk true)) => Ring_Taken h kk hkw
  rw [ht1] at htk
  have hwl : List.length (α := Dg) (wayM seed hh kk) = hh := wayM_length _ _ _
  have hr := fun (u : Value) (F : Fp) (W : World) (hc : Ways W F u (wayM seed hh kk)) (hF : ∀ b, F b → b < W.heap.size) => Right (signM seed kk d) (signM_length _ _ _) kk u (wayM seed hh kk) (rootM seed hh) (rootM_length _ _) d hd F W hc hF (by rw [hwl]; omega) hkw
  have hr1 := fun u F W hc hF => hr u F W hc hF (hh : Int) hhw kk hkw
  have hr2 := fun u F W hc hF => hr u F W hc hF (hh : Int) hhw (kk + 1) hkw1
  have hr3 := fun u F W hc hF => hr u F W hc hF ((hh + 1 : Nat) : Int) hhw1 kk hkw
  have e1 : rightM (signM seed kk d) kk (wayM seed hh kk) (rootM seed hh) (hh : Int) kk d = true := right_signed seed hh kk d hkl
  have e2 : rightM (signM seed kk d) kk (wayM seed hh kk) (rootM seed hh) (hh : Int) (kk + 1) d = false := by unfold rightM; rw [if_pos]; omega
  have e3 : rightM (signM seed kk d) kk (wayM seed hh kk) (rootM seed hh) ((hh + 1 : Nat) : Int) kk d = false := by unfold rightM; rw [if_pos]; rw [hwl]; omega
  rw [e1] at hr1
  rw [e2] at hr2
  rw [e3] at hr3
  have hgl : (bv (signM seed kk d)).length = 1024 := by rw [bv_length]; exact signM_length _ _ _
  have hgo := bv_one (signM seed kk d)
  have hfr := fun (u : Value) (W : World) (F : Fp) (hc : Ways W F u (wayM seed hh kk)) (hF : ∀ b, F b → b < W.heap.size) => From05 (bv (signM seed kk d)) kk u (wayM seed hh kk) W F hgl hgo hc hF (by rw [hwl]; omega)
  have hsm := fun (u v : Value) (W : World) (ho : OwnD 31 W u (wayM seed hh kk)) (ho2 : OwnD 31 W v (wayM seed hh kk)) =>
    RSame05 (bv (signM seed kk d)) kk u v (wayM seed hh kk) (chunks 32 ((signM seed kk d).take 512), chunks 32 ((signM seed kk d).drop 512), ()) W (fun b => u.ownBlock = some b ∨ v.ownBlock = some b) hgl (sig_holds (signM seed kk d) (signM_length _ _ _) W (fun _ => True)) (Ty.keep (t := .sl DigT) (fun _ _ => rfl) (fun _ h => .inl h) ho.holds) (Ty.keep (t := .sl DigT) (fun _ _ => rfl) (fun _ h => .inr h) ho2.holds) (fun b hb => hb.elim (ho.lt b) (ho2.lt b))
  have hroot := fun (g tb : Nat) (F : Fp) (R : Value) (W : World) (tk : List Bool) (h : RingAt W g tb F R seed hh tk) => Ring_Root h
  have hzr := zSig_zero
  have hzl := zSig_len
  have hzo := zSig_one
  have hsl : (bv seed).length = 32 := by rw [bv_length]; exact hs
  have hdl : (bv d).length = 32 := by rw [bv_length]; exact hd
  clear hr
  obtain ⟨ZR, hZR⟩ : ∃ ZR, ZR = zSig := ⟨_, rfl⟩
  rw [← hZR] at hno hzr hzl hzo
  obtain ⟨RT, hRT⟩ : ∃ RT, RT = bv (rootM seed hh) := ⟨_, rfl⟩
  rw [← hRT] at hroot hr1 hr2 hr3
  obtain ⟨SG, hSG⟩ : ∃ SG, SG = bv (signM seed kk d) := ⟨_, rfl⟩
  rw [← hSG] at hsi hag hr1 hr2 hr3 hgl hgo hfr hsm
  generalize bv seed = SC at *
  generalize bv d = DC at *
  have hx0 : Ext w ((w.alloc (.cells SC.toArray 31)).alloc (.cells DC.toArray 31)) := ((Ext.refl w).alloc _).alloc _
  have hbs : Blk ((w.alloc (.cells SC.toArray 31)).alloc (.cells DC.toArray 31)) w.heap.size 31 SC := (Blk.new _ _ _).keep ((Ext.refl _).alloc _) (by simp)
  have hbd : Blk ((w.alloc (.cells SC.toArray 31)).alloc (.cells DC.toArray 31)) (w.heap.size + 1) 31 DC := Blk.fresh (by simp) _ _
  have hsz : ((w.alloc (.cells SC.toArray 31)).alloc (.cells DC.toArray 31)).heap.size = w.heap.size + 2 := by simp
  have HW93 : Hid (IntKind.u32.wrap ((kk : Int) + 1) = ((kk + 1 : Nat) : Int)) := Lib.hid (by simp [IntKind.wrap, IntKind.bits, IntKind.signed]; omega)
  have HW103 : Hid (IntKind.i64.wrap ((hh : Int) + 1) = ((hh + 1 : Nat) : Int)) := Lib.hid (by simp [IntKind.wrap, IntKind.bits, IntKind.signed]; omega)
  have HNEW := Lib.hid hnew
  have HSI := Lib.hid hsi
  have HNO := Lib.hid hno
  have HAG := Lib.hid hag
  have HTK0 := Lib.hid htk
  have HR1 := Lib.hid hr1
  have HR2 := Lib.hid hr2
  have HR3 := Lib.hid hr3
  have HGL := Lib.hid hgl
  have HFR0 := Lib.hid hfr
  have HSAME := Lib.hid hsm
  have HRT0 := Lib.hid hroot
  have HZL := Lib.hid hzl
  have HSL := Lib.hid hsl
  have HDL := Lib.hid hdl
  have HX0 := Lib.hid hx0
  have HBS := Lib.hid hbs
  have HBD0 := Lib.hid hbd
  have HRH := Lib.hid hrh
  have HSH := Lib.hid hsh
  have HRK := Lib.hid hrk
  have HSZ := Lib.hid hsz
  clear hnew hsi hno hag htk hr1 hr2 hr3 hgl hfr hsm hroot hzl hsl hdl hx0 hbs hbd hrh hsh hrk hZR hRT hSG hkw hkw1 hhw hhw1 hd hsz ht0 ht1 hlen e1 e2 e3 hwl hkl hp8 hs
  go_enter Try.func4, Try.ntmps4
  go_wp2_with (first
    | ((with_reducible refine wpDst 20 rfl ?_); refine wpList_bin2 rfl .rem 5 (.tmp 19) _ rfl (.int .u8 (x : Int)) (.int .u8 4) rfl rfl rfl (HRH.out _ _ _) ?_)
    | ((with_reducible refine wpDst 23 rfl ?_); refine wpList_load_agg _ rfl 31 (.tmp 4) rfl _ rfl SC _ Try.underlying31 rfl (szElTo05 HSL.out) (by exact HBS.out.cells) ?_)
    | (go_at_call 14; refine (HNEW.out _).mono ?_; rintro e w1 ⟨g, tb, F, R, rfl, hring, hx1, hg1, htb1, hF1⟩
       have HRING := Lib.hid hring
       have HX1 := Lib.hid (HX0.out.trans hx1)
       have HBD1 := Lib.hid (HBD0.out.keep hx1 (by simp))
       have HTB : Hid (w.heap.size + 2 ≤ tb) := Lib.hid (by have h1 := HSZ.out; omega)
       clear hring hx1 hg1 htb1 hF1)
    | ((with_reducible refine wpDst 31 rfl ?_); refine wpList_bin2 rfl .shl 27 _ (.tmp 30) rfl (.int .u32 1) (.int .i64 (hh : Int)) rfl rfl rfl (HSH.out _ _ _) ?_)
    | ((with_reducible refine wpDst 32 rfl ?_); go_must (refine wpList_bin2 rfl .rem 27 (.tmp 29) (.tmp 31) rfl (.int .u32 (y : Int)) (.int .u32 ((2 ^ hh : Nat) : Int)) rfl rfl rfl (HRK.out _ _ _) ?_))
    | ((with_reducible refine wpDst 36 rfl ?_); refine wpList_load_agg _ rfl 31 (.tmp 7) rfl _ rfl DC _ Try.underlying31 rfl (szElTo05 HDL.out) (by exact HBD1.out.cells) ?_)
    | fail)
  refine (HSI.out _ _ _ _ _ HRING.out).mono ?_
  rintro e w2 ⟨v1, rfl, hov1, hring2, hg2, hvn1⟩
  obtain ⟨A1, c1, hv1⟩ := hov1.2.form
  have hml1 := sigC_len HGL.out kk v1
  have hmo1 : ∀ u ∈ sigC SG kk v1, u.oneCell' = true := by rw [hv1]; exact sigC_one hgo _ _ _ _
  have HFRA1 := Lib.hid (fun (W' : World) (h : Ext w2 W') => HFR0.out v1 W' _ ((hov1.ext h).holds) (fun b hb => Nat.lt_of_lt_of_le (hov1.lt b hb) h.size))
  have HRA1 := Lib.hid (fun (W' : World) (h : Ext w2 W') => HR1.out v1 _ W' ((hov1.ext h).holds) (fun b hb => Nat.lt_of_lt_of_le (hov1.lt b hb) h.size))
  have HRA2 := Lib.hid (fun (W' : World) (h : Ext w2 W') => HR2.out v1 _ W' ((hov1.ext h).holds) (fun b hb => Nat.lt_of_lt_of_le (hov1.lt b hb) h.size))
  have HRA3 := Lib.hid (fun (W' : World) (h : Ext w2 W') => HR3.out v1 _ W' ((hov1.ext h).holds) (fun b hb => Nat.lt_of_lt_of_le (hov1.lt b hb) h.size))
  obtain ⟨M1, hM1⟩ : ∃ M, M = sigC SG kk v1 := ⟨_, rfl⟩
  rw [← hM1] at hml1 hmo1 HFRA1 HRA1 HRA2 HRA3 ⊢
  have HM1L := Lib.hid hml1
  have hx3 : Ext w2 (w2.alloc (.cells M1.toArray 39)) := (Ext.refl w2).alloc _
  have HX2 : Hid (Ext w w2) := Lib.hid (grown_then HX1.out hg2 (.inr (by rintro b ⟨⟩; have := HTB.out; omega)))
  have HBD3 := Lib.hid ((HBD1.out.keep hg2 (by have := HTB.out; simp; omega)).keep hx3 (by simp))
  have HRING3 := Lib.hid (hring2.ext hx3)
  have HM1B3 : Hid (Blk (w2.alloc (.cells M1.toArray 39)) w2.heap.size 39 M1) := Lib.hid (Blk.new _ _ _)
  have HX3 := Lib.hid hx3
  clear hov1 hring2 hg2 hvn1 hv1 hml1 hM1 hx3 HRING HX1 HBD1
  go_wp2_with (first
    | ((with_reducible refine wpDst 13 rfl ?_); refine wpList_alloc _ rfl 39 rfl _ hzr ?_)
    | ((with_reducible refine wpSto 13 38 rfl ?_); refine wpList_storeN rfl 39 (.tmp 13) (.tmp 38) rfl w2 rfl ZR M1 39 rfl rfl (szOutTo05 HM1L.out) (by rw [HM1L.out, HZL.out]) hmo1 ?_)
    | ((with_reducible refine wpDst 43 rfl ?_); refine wpList_load_agg _ rfl 31 (.tmp 7) rfl _ rfl DC _ Try.underlying31 rfl (szElTo05 HDL.out) (by exact HBD3.out.cells) ?_)
    | fail)
  refine (HNO.out _ _ _ _ _ HRING3.out).mono ?_
  rintro e w3 ⟨rfl, hx4⟩
  have hx5 : Ext (w2.alloc (.cells M1.toArray 39)) (w3.alloc (.cells ZR.toArray 39)) := hx4.alloc _
  have HBD5 := Lib.hid (HBD3.out.keep hx5 (by simp))
  have HRING5 := Lib.hid (HRING3.out.ext hx5)
  have HM1B5 := Lib.hid (HM1B3.out.keep hx5 (by simp))
  have HX5 := Lib.hid (HX3.out.trans hx5)
  clear hx4 hx5 HBD3 HRING3 HM1B3 HX3
  go_wp2_with (first
    | ((with_reducible refine wpDst 15 rfl ?_); refine wpList_alloc _ rfl 39 rfl _ hzr ?_)
    | ((with_reducible refine wpSto 15 45 rfl ?_); refine wpList_storeN rfl 39 (.tmp 15) (.tmp 45) rfl w3 rfl ZR ZR 39 rfl rfl (szOutTo05 HZL.out) rfl hzo ?_)
    | ((with_reducible refine wpDst 50 rfl ?_); refine wpList_load_agg _ rfl 31 (.tmp 7) rfl _ rfl DC _ Try.underlying31 rfl (szElTo05 HDL.out) (by exact HBD5.out.cells) ?_)
    | fail)
  refine (HAG.out _ _ _ _ _ HRING5.out).mono ?_
  rintro e w5 ⟨v2, rfl, hov2, hx6, hvn2⟩
  obtain ⟨A2, c2, hv2⟩ := hov2.2.form
  have hml2 := sigC_len HGL.out kk v2
  have hmo2 : ∀ u ∈ sigC SG kk v2, u.oneCell' = true := by rw [hv2]; exact sigC_one hgo _ _ _ _
  have HFRA2 := Lib.hid (fun (W' : World) (h : Ext w5 W') => HFR0.out v2 W' _ ((hov2.ext h).holds) (fun b hb => Nat.lt_of_lt_of_le (hov2.lt b hb) h.size))
  obtain ⟨M2, hM2⟩ : ∃ M, M = sigC SG kk v2 := ⟨_, rfl⟩
  rw [← hM2] at hml2 hmo2 HFRA2 ⊢
  have HM2L := Lib.hid hml2
  have hx7 : Ext w5 (w5.alloc (.cells M2.toArray 39)).drew := ((Ext.refl w5).alloc _).trans (Ext.refl _).drew
  have hx57 := hx6.trans hx7
  have HM2B : Hid (Blk (w5.alloc (.cells M2.toArray 39)).drew w5.heap.size 39 M2) := Lib.hid ((Blk.new _ _ _).keep (Ext.refl _).drew (by simp))
  have HM1B := Lib.hid (HM1B5.out.keep hx57 (by simp))
  have HBD := Lib.hid (HBD5.out.keep hx57 (by simp))
  have HRINGA := Lib.hid (HRING5.out.ext hx57)
  have hx27 := HX5.out.trans hx57
  have HXA := Lib.hid (HX2.out.trans hx27)
  have HFR1 : Hid (∀ W', Ext (w5.alloc (.cells M2.toArray 39)).drew W' → _) := Lib.hid fun W' h => HFRA1.out W' (hx27.trans h)
  have HFR2 : Hid (∀ W', Ext (w5.alloc (.cells M2.toArray 39)).drew W' → _) := Lib.hid fun W' h => HFRA2.out W' (hx7.trans h)
  have HRI1 : Hid (∀ W', Ext (w5.alloc (.cells M2.toArray 39)).drew W' → _) := Lib.hid fun W' h => HRA1.out W' (hx27.trans h)
  have HRI2 : Hid (∀ W', Ext (w5.alloc (.cells M2.toArray 39)).drew W' → _) := Lib.hid fun W' h => HRA2.out W' (hx27.trans h)
  have HRI3 : Hid (∀ W', Ext (w5.alloc (.cells M2.toArray 39)).drew W' → _) := Lib.hid fun W' h => HRA3.out W' (hx27.trans h)
  have HROOT : Hid (∀ W', Ext (w5.alloc (.cells M2.toArray 39)).drew W' → _) := Lib.hid fun W' h => HRT0.out g tb F R W' _ (HRINGA.out.ext h)
  have HTAK : Hid (∀ W', Ext (w5.alloc (.cells M2.toArray 39)).drew W' → _) := Lib.hid fun W' h => HTK0.out W' _ _ _ _ (HRINGA.out.ext h)
  clear hov2 hx6 hvn2 hv2 hml2 hM2 hx7 hx57 hx27 HRA1 HRA2 HRA3 HFRA1 HFRA2 HM1B5 HBD5 HRING5 HX5
  go_wp2_with (first
    | ((with_reducible refine wpDst 17 rfl ?_); refine wpList_alloc _ rfl 39 rfl _ hzr ?_)
    | ((with_reducible refine wpSto 17 52 rfl ?_); refine wpList_storeN rfl 39 (.tmp 17) (.tmp 52) rfl w5 rfl ZR M2 39 rfl rfl (szOutTo05 HM2L.out) (by rw [HM2L.out, HZL.out]) hmo2 ?_)
    | fail)
  refine stab_plain Ext ext_refl ext_trans [[0], [0, 1], [0, 1, 2], [0, 1, 2, 3], [0, 1, 2, 3, 4], [0, 1, 2, 3, 4, 5], [0, 1, 2, 3, 4, 5, 6], [0, 1, 2, 3, 4, 5, 6, 7], [0, 1, 2, 3, 4, 5, 6, 7, 8], [0, 1, 2, 3, 4, 5, 6, 7, 8, 9], [0, 1, 2, 3, 4, 5, 6, 7, 8, 9, 10], [0, 1, 2, 3, 4, 5, 6, 7, 8, 9, 10, 11], [0, 1, 2, 3, 4, 5, 6, 7, 8, 9, 10, 11, 12], [0, 1, 2, 3, 4, 5, 6, 7, 8, 9, 10, 11, 12, 13], [0, 1, 2, 3, 4, 5, 6, 7, 8, 9, 10, 11, 12, 13, 14], [0, 1, 2, 3, 4, 5, 6, 7, 8, 9, 10, 11, 12, 13, 14, 15], [0, 1, 2, 3, 4, 5, 6, 7, 8, 9, 10, 11, 12, 13, 14, 15, 16], [0, 1, 2, 3, 4, 5, 6, 7, 8, 9, 10, 11, 12, 13, 14, 15, 16, 17], [0, 1, 2, 3, 4, 5, 6, 7, 8, 9, 10, 11, 12, 13, 14, 15, 16, 17, 18], [0, 1, 2, 3, 4, 5, 6, 7, 8, 9, 10, 11, 12, 13, 14, 15, 16, 17, 18, 19], [0, 1, 2, 3, 4, 5, 6, 7, 8, 9, 10, 11, 12, 13, 14, 15, 16, 17, 20], [0, 1, 2, 3, 4, 5, 6, 7, 8, 9, 10, 11, 12, 13, 14, 15, 16, 17, 18, 19, 20, 21], [0, 1, 2, 3, 4, 5, 6, 7, 8, 9, 10, 11, 12, 13, 14, 15, 16, 17, 18, 19, 20, 21, 22], [0, 1, 2, 3, 4, 5, 6, 7, 8, 9, 10, 11, 12, 13, 14, 15, 16, 17, 18, 19, 20, 21, 22, 23], [0, 1, 2, 3, 4, 5, 6, 7, 8, 9, 10, 11, 12, 13, 14, 15, 16, 17, 18, 19, 20, 21, 22, 23, 24], [0, 1, 2, 3, 4, 5, 6, 7, 8, 9, 10, 11, 12, 13, 14, 15, 16, 17, 18, 19, 20, 21, 22, 23, 24, 25], [0, 1, 2, 3, 4, 5, 6, 7, 8, 9, 10, 11, 12, 13, 14, 15, 16, 17, 18, 19, 20, 21, 22, 23, 24, 26], [0, 1, 2, 3, 4, 5, 6, 7, 8, 9, 10, 11, 12, 13, 14, 15, 16, 17, 18, 19, 20, 21, 22, 23, 24, 26, 27], [0, 1, 2, 3, 4, 5, 6, 7, 8, 9, 10, 11, 12, 13, 14, 15, 16, 17, 18, 19, 20, 21, 22, 23, 24, 28], [0, 1, 2, 3, 4, 5, 6, 7, 8, 9, 10, 11, 12, 13, 14, 15, 16, 17, 18, 19, 20, 21, 22, 23, 24, 29], [0, 1, 2, 3, 4, 5, 6, 7, 8, 9, 10, 11, 12, 13, 14, 15, 16, 17, 18, 19, 20, 21, 22, 23, 24, 30], [0, 1, 2, 3, 4, 5, 6, 7, 8, 9, 10, 11, 12, 13, 14, 15, 16, 17, 18, 19, 20, 21, 22, 23, 24, 25, 26, 27, 28, 29, 30, 31], [0, 1, 2, 3, 4, 5, 6, 7, 8, 9, 10, 11, 12, 13, 14, 15, 16, 17, 18, 19, 20, 21, 22, 23, 24, 25, 26, 27, 28, 29, 30, 31, 32], [0, 1, 2, 3, 4, 5, 6, 7, 8, 9, 10, 11, 12, 13, 14, 15, 16, 17, 18, 19, 20, 21, 22, 23, 24, 25, 26, 27, 28, 29, 30, 31, 32, 33], [0, 1, 2, 3, 4, 5, 6, 7, 8, 9, 10, 11, 12, 13, 14, 15, 16, 17, 18, 19, 20, 21, 22, 23, 24, 25, 26, 27, 28, 29, 30, 31, 32, 33, 34], [0, 1, 2, 3, 4, 5, 6, 7, 8, 9, 10, 11, 12, 13, 14, 15, 16, 17, 18, 19, 20, 21, 22, 23, 24, 25, 26, 27, 28, 29, 30, 31, 32, 33, 35], [0, 1, 2, 3, 4, 5, 6, 7, 8, 9, 10, 11, 12, 13, 14, 15, 16, 17, 18, 19, 20, 21, 22, 23, 24, 25, 26, 27, 28, 29, 30, 31, 32, 33, 35, 36], [0, 1, 2, 3, 4, 5, 6, 7, 8, 9, 10, 11, 12, 13, 14, 15, 16, 17, 18, 19, 20, 21, 22, 23, 24, 25, 26, 27, 28, 29, 30, 31, 32, 33, 37], [0, 1, 2, 3, 4, 5, 6, 7, 8, 9, 10, 11, 12, 13, 14, 15, 16, 17, 18, 19, 20, 21, 22, 23, 24, 25, 26, 27, 28, 29, 30, 31, 32, 33, 38], [0, 1, 2, 3, 4, 5, 6, 7, 8, 9, 10, 11, 12, 13, 14, 15, 16, 17, 18, 19, 20, 21, 22, 23, 24, 25, 26, 27, 28, 29, 30, 31, 32, 33, 38, 39], [0, 1, 2, 3, 4, 5, 6, 7, 8, 9, 10, 11, 12, 13, 14, 15, 16, 17, 18, 19, 20, 21, 22, 23, 24, 25, 26, 27, 28, 29, 30, 31, 32, 33, 40], [0, 1, 2, 3, 4, 5, 6, 7, 8, 9, 10, 11, 12, 13, 14, 15, 16, 17, 18, 19, 20, 21, 22, 23, 24, 25, 26, 27, 28, 29, 30, 31, 32, 33, 34, 35, 36, 37, 38, 39, 40, 41], [0, 1, 2, 3, 4, 5, 6, 7, 8, 9, 10, 11, 12, 13, 14, 15, 16, 17, 18, 19, 20, 21, 22, 23, 24, 25, 26, 27, 28, 29, 30, 31, 32, 33, 34, 35, 36, 37, 38, 39, 40, 41, 42], [0, 1, 2, 3, 4, 5, 6, 7, 8, 9, 10, 11, 12, 13, 14, 15, 16, 17, 18, 19, 20, 21, 22, 23, 24, 25, 26, 27, 28, 29, 30, 31, 32, 33, 34, 35, 36, 37, 38, 39, 40, 41, 42, 43], [0, 1, 2, 3, 4, 5, 6, 7, 8, 9, 10, 11, 12, 13, 14, 15, 16, 17, 18, 19, 20, 21, 22, 23, 24, 25, 26, 27, 28, 29, 30, 31, 32, 33, 34, 35, 36, 37, 38, 39, 40, 41, 42, 43, 44], [0, 1, 2, 3, 4, 5, 6, 7, 8, 9, 10, 11, 12, 13, 14, 15, 16, 17, 18, 19, 20, 21, 22, 23, 24, 25, 26, 27, 28, 29, 30, 31, 32, 33, 34, 35, 36, 37, 38, 39, 40, 41, 42, 43, 44, 45], [0, 1, 2, 3, 4, 5, 6, 7, 8, 9, 10, 11, 12, 13, 14, 15, 16, 17, 18, 19, 20, 21, 22, 23, 24, 25, 26, 27, 28, 29, 30, 31, 32, 33, 34, 35, 36, 37, 38, 39, 40, 41, 42, 43, 44, 46], [0, 1, 2, 3, 4, 5, 6, 7, 8, 9, 10, 11, 12, 13, 14, 15, 16, 17, 18, 19, 20, 21, 22, 23, 24, 25, 26, 27, 28, 29, 30, 31, 32, 33, 34, 35, 36, 37, 38, 39, 40, 41, 42, 43, 44, 46, 47], [0, 1, 2, 3, 4, 5, 6, 7, 8, 9, 10, 11, 12, 13, 14, 15, 16, 17, 18, 19, 20, 21, 22, 23, 24, 25, 26, 27, 28, 29, 30, 31, 32, 33, 34, 35, 36, 37, 38, 39, 40, 41, 42, 43, 44, 48], [0, 1, 2, 3, 4, 5, 6, 7, 8, 9, 10, 11, 12, 13, 14, 15, 16, 17, 18, 19, 20, 21, 22, 23, 24, 25, 26, 27, 28, 29, 30, 31, 32, 33, 34, 35, 36, 37, 38, 39, 40, 41, 42, 43, 44, 48, 49], [0, 1, 2, 3, 4, 5, 6, 7, 8, 9, 10, 11, 12, 13, 14, 15, 16, 17, 18, 19, 20, 21, 22, 23, 24, 25, 26, 27, 28, 29, 30, 31, 32, 33, 34, 35, 36, 37, 38, 39, 40, 41, 42, 43, 44, 50], [0, 1, 2, 3, 4, 5, 6, 7, 8, 9, 10, 11, 12, 13, 14, 15, 16, 17, 18, 19, 20, 21, 22, 23, 24, 25, 26, 27, 28, 29, 30, 31, 32, 33, 34, 35, 36, 37, 38, 39, 40, 41, 42, 43, 44, 51], [0, 1, 2, 3, 4, 5, 6, 7, 8, 9, 10, 11, 12, 13, 14, 15, 16, 17, 18, 19, 20, 21, 22, 23, 24, 25, 26, 27, 28, 29, 30, 31, 32, 33, 34, 35, 36, 37, 38, 39, 40, 41, 42, 43, 44, 45, 46, 47, 48, 49, 50, 51, 52], [0, 1, 2, 3, 4, 5, 6, 7, 8, 9, 10, 11, 12, 13, 14, 15, 16, 17, 18, 19, 20, 21, 22, 23, 24, 25, 26, 27, 28, 29, 30, 31, 32, 33, 34, 35, 36, 37, 38, 39, 40, 41, 42, 43, 44, 45, 46, 47, 48, 49, 50, 51, 52, 53], [0, 1, 2, 3, 4, 5, 6, 7, 8, 9, 10, 11, 12, 13, 14, 15, 16, 17, 18, 19, 20, 21, 22, 23, 24, 25, 26, 27, 28, 29, 30, 31, 32, 33, 34, 35, 36, 37, 38, 39, 40, 41, 42, 43, 44, 45, 46, 47, 48, 49, 50, 51, 52, 53, 54], [0, 1, 2, 3, 4, 5, 6, 7, 8, 9, 10, 11, 12, 13, 14, 15, 16, 17, 18, 19, 20, 21, 22, 23, 24, 25, 26, 27, 28, 29, 30, 31, 32, 33, 34, 35, 36, 37, 38, 39, 40, 41, 42, 43, 44, 45, 46, 47, 48, 49, 50, 51, 52, 53, 54, 55], [0, 1, 2, 3, 4, 5, 6, 7, 8, 9, 10, 11, 12, 13, 14, 15, 16, 17, 18, 19, 20, 21, 22, 23, 24, 25, 26, 27, 28, 29, 30, 31, 32, 33, 34, 35, 36, 37, 38, 39, 40, 41, 42, 43, 44, 45, 46, 47, 48, 49, 50, 51, 52, 53, 54, 55, 56], [0, 1, 2, 3, 4, 5, 6, 7, 8, 9, 10, 11, 12, 13, 14, 15, 16, 17, 18, 19, 20, 21, 22, 23, 24, 25, 26, 27, 28, 29, 30, 31, 32, 33, 34, 35, 36, 37, 38, 39, 40, 41, 42, 43, 44, 45, 46, 47, 48, 49, 50, 51, 52, 53, 54, 55, 57], [0, 1, 2, 3, 4, 5, 6, 7, 8, 9, 10, 11, 12, 13, 14, 15, 16, 17, 18, 19, 20, 21, 22, 23, 24, 25, 26, 27, 28, 29, 30, 31, 32, 33, 34, 35, 36, 37, 38, 39, 40, 41, 42, 43, 44, 45, 46, 47, 48, 49, 50, 51, 52, 53, 54, 55, 56, 57, 58], [0, 1, 2, 3, 4, 5, 6, 7, 8, 9, 10, 11, 12, 13, 14, 15, 16, 17, 18, 19, 20, 21, 22, 23, 24, 25, 26, 27, 28, 29, 30, 31, 32, 33, 34, 35, 36, 37, 38, 39, 40, 41, 42, 43, 44, 45, 46, 47, 48, 49, 50, 51, 52, 53, 54, 55, 56, 57, 58, 59], [0, 1, 2, 3, 4, 5, 6, 7, 8, 9, 10, 11, 12, 13, 14, 15, 16, 17, 18, 19, 20, 21, 22, 23, 24, 25, 26, 27, 28, 29, 30, 31, 32, 33, 34, 35, 36, 37, 38, 39, 40, 41, 42, 43, 44, 45, 46, 47, 48, 49, 50, 51, 52, 53, 54, 55, 56, 57, 58, 59, 60]] (fun i v wv => match i with | 0 => v = .bool true | 1 => v = .bool true | 2 => v = .int .i64 0 | 3 => v = .bool true | 4 => v = .bool true | 5 => v = .bool true | 6 => v = .int .i64 0 | 7 => v = .bool true | 8 => v = .bool true | 9 => v = .bool true | 10 => v = .int .i64 21 | 11 => v = .bool true | 12 => v = .bool true | 13 => v = .bool true | 14 => v = .int .i64 0 | 15 => v = .bool true | 16 => v = .bool true | 17 => v = .bool true | 18 => v = .agg M1.toArray | 19 => ∃ u, v = .agg (sigC SG kk u).toArray ∧ OwnD 31 wv u (wayM seed hh kk) | 20 => v = .agg M2.toArray | 21 => ∃ u, v = .agg (sigC SG kk u).toArray ∧ OwnD 31 wv u (wayM seed hh kk) | 22 => v = .bool true | 23 => v = .bool true | 24 => v = .bool true | 25 => v = .agg M1.toArray | 26 => v = .pointer (some ⟨g, 0, none⟩) | 27 => v = .agg RT.toArray | 28 => v = .int .i64 (hh : Int) | 29 => v = .int .u32 (kk : Int) | 30 => v = .agg DC.toArray | 31 => v = .bool true | 32 => v = .bool true | 33 => v = .bool true | 34 => v = .agg M1.toArray | 35 => v = .pointer (some ⟨g, 0, none⟩) | 36 => v = .agg RT.toArray | 37 => v = .int .i64 (hh : Int) | 38 => v = .int .u32 (kk : Int) | 39 => v = .int .u32 ((kk + 1 : Nat) : Int) | 40 => v = .agg DC.toArray | 41 => v = .bool false | 42 => v = .bool true | 43 => v = .bool true | 44 => v = .bool true | 45 => v = .agg M1.toArray | 46 => v = .pointer (some ⟨g, 0, none⟩) | 47 => v = .agg RT.toArray | 48 => v = .int .i64 (hh : Int) | 49 => v = .int .i64 ((hh + 1 : Nat) : Int) | 50 => v = .int .u32 (kk : Int) | 51 => v = .agg DC.toArray | 52 => v = .bool false | 53 => v = .bool true | 54 => v = .bool true | 55 => v = .bool true | 56 => v = .pointer (some ⟨g, 0, none⟩) | 57 => v = .int .u32 (kk : Int) | 58 => v = .bool true | 59 => v = .bool true | 60 => v = .bool true | _ => True) (by kernel_rfl) (by kernel_rfl) (by kernel_rfl) ?_ ?_ ?_
  · intro i v w1 w2 h hx
    match i, h with
    | 0, h => exact h
    | 1, h => exact h
    | 2, h => exact h
    | 3, h => exact h
    | 4, h => exact h
    | 5, h => exact h
    | 6, h => exact h
    | 7, h => exact h
    | 8, h => exact h
    | 9, h => exact h
    | 10, h => exact h
    | 11, h => exact h
    | 12, h => exact h
    | 13, h => exact h
    | 14, h => exact h
    | 15, h => exact h
    | 16, h => exact h
    | 17, h => exact h
    | 18, h => exact h
    | 19, h =>
      replace h : ∃ u, v = .agg (sigC SG kk u).toArray ∧ OwnD 31 w1 u (wayM seed hh kk) := h
      show ∃ u, v = .agg (sigC SG kk u).toArray ∧ OwnD 31 w2 u (wayM seed hh kk)
      obtain ⟨u, h1, h2⟩ := h
      exact ⟨u, h1, h2.ext hx⟩
    | 20, h => exact h
    | 21, h =>
      replace h : ∃ u, v = .agg (sigC SG kk u).toArray ∧ OwnD 31 w1 u (wayM seed hh kk) := h
      show ∃ u, v = .agg (sigC SG kk u).toArray ∧ OwnD 31 w2 u (wayM seed hh kk)
      obtain ⟨u, h1, h2⟩ := h
      exact ⟨u, h1, h2.ext hx⟩
    | 22, h => exact h
    | 23, h => exact h
    | 24, h => exact h
    | 25, h => exact h
    | 26, h => exact h
    | 27, h => exact h
    | 28, h => exact h
    | 29, h => exact h
    | 30, h => exact h
    | 31, h => exact h
    | 32, h => exact h
    | 33, h => exact h
    | 34, h => exact h
    | 35, h => exact h
    | 36, h => exact h
    | 37, h => exact h
    | 38, h => exact h
    | 39, h => exact h
    | 40, h => exact h
    | 41, h => exact h
    | 42, h => exact h
    | 43, h => exact h
    | 44, h => exact h
    | 45, h => exact h
    | 46, h => exact h
    | 47, h => exact h
    | 48, h => exact h
    | 49, h => exact h
    | 50, h => exact h
    | 51, h => exact h
    | 52, h => exact h
    | 53, h => exact h
    | 54, h => exact h
    | 55, h => exact h
    | 56, h => exact h
    | 57, h => exact h
    | 58, h => exact h
    | 59, h => exact h
    | 60, h => exact h
    | i + 61, h => trivial
  · intro i hi o ho
    match i, hi, ho with
    | 0, _, ho =>
      obtain rfl := Option.some.inj ho
      intro s W hX hd K hK
      rw [if_pos (wanted_plain rfl)]
      clear hd
      replace hK : ∀ (v : Value) (W' : World), Ext W W' → (v = .bool true) → _ := hK
      simp only [mkOf, List.map_cons, List.map_nil, Act.put, List.setIfInBounds_toArray, List.set_cons_succ, List.set_cons_zero, Nat.reduceAdd, Nat.zero_add] at hK ⊢
      go_simp
      refine (Awake05 _).mono ?_
      rintro e w' ⟨rfl, hx⟩
      exact hK _ _ hx rfl
    | 1, _, ho =>
      obtain rfl := Option.some.inj ho
      intro s W hX hd K hK
      rw [if_pos (wanted_plain rfl)]
      have d54 : (s 0) = .bool true := hd 0 (by decide) (by decide)
      clear hd
      replace hK : ∀ (v : Value) (W' : World), Ext W W' → (v = .bool true) → _ := hK
      simp only [mkOf, List.map_cons, List.map_nil, Act.put, List.setIfInBounds_toArray, List.set_cons_succ, List.set_cons_zero, Nat.reduceAdd, Nat.zero_add] at hK ⊢
      simp only [d54] at hK ⊢
      go_simp
      exact hK _ _ (Ext.refl _) rfl
    | 2, _, ho =>
      obtain rfl := Option.some.inj ho
      intro s W hX hd K hK
      have d55 : (s 1) = .bool true := hd 1 (by decide) (by decide)
      clear hd
      replace hK : ∀ (v : Value) (W' : World), Ext W W' → (v = .int .i64 0) → _ := hK
      simp only [mkOf, List.map_cons, List.map_nil, Act.put, List.setIfInBounds_toArray, List.set_cons_succ, List.set_cons_zero, Nat.reduceAdd, Nat.zero_add] at hK ⊢
      simp only [d55] at hK ⊢
      rw [if_pos (by kernel_rfl)]
      go_simp
      exact hK _ _ (Ext.refl _) rfl
    | 3, _, ho =>
      obtain rfl := Option.some.inj ho
      intro s W hX hd K hK
      have d55 : (s 1) = .bool true := hd 1 (by decide) (by decide)
      have d56 : (s 2) = .int .i64 0 := hd 2 (by decide) (by decide)
      clear hd
      replace hK : ∀ (v : Value) (W' : World), Ext W W' → (v = .bool true) → _ := hK
      simp only [mkOf, List.map_cons, List.map_nil, Act.put, List.setIfInBounds_toArray, List.set_cons_succ, List.set_cons_zero, Nat.reduceAdd, Nat.zero_add] at hK ⊢
      simp only [d55, d56] at hK ⊢
      rw [if_pos (by kernel_rfl)]
      go_simp
      exact hK _ _ (Ext.refl _) rfl
    | 4, _, ho =>
      obtain rfl := Option.some.inj ho
      intro s W hX hd K hK
      rw [if_pos (wanted_plain rfl)]
      have d55 : (s 1) = .bool true := hd 1 (by decide) (by decide)
      have d57 : (s 3) = .bool true := hd 3 (by decide) (by decide)
      clear hd
      replace hK : ∀ (v : Value) (W' : World), Ext W W' → (v = .bool true) → _ := hK
      simp only [mkOf, List.map_cons, List.map_nil, Act.put, List.setIfInBounds_toArray, List.set_cons_succ, List.set_cons_zero, Nat.reduceAdd, Nat.zero_add] at hK ⊢
      simp only [d55, d57] at hK ⊢
      go_simp
      exact hK _ _ (Ext.refl _) rfl
    | 5, _, ho =>
      obtain rfl := Option.some.inj ho
      intro s W hX hd K hK
      rw [if_pos (wanted_plain rfl)]
      have d58 : (s 4) = .bool true := hd 4 (by decide) (by decide)
      clear hd
      replace hK : ∀ (v : Value) (W' : World), Ext W W' → (v = .bool true) → _ := hK
      simp only [mkOf, List.map_cons, List.map_nil, Act.put, List.setIfInBounds_toArray, List.set_cons_succ, List.set_cons_zero, Nat.reduceAdd, Nat.zero_add] at hK ⊢
      simp only [d58] at hK ⊢
      go_simp
      exact hK _ _ (Ext.refl _) rfl
    | 6, _, ho =>
      obtain rfl := Option.some.inj ho
      intro s W hX hd K hK
      have d59 : (s 5) = .bool true := hd 5 (by decide) (by decide)
      clear hd
      replace hK : ∀ (v : Value) (W' : World), Ext W W' → (v = .int .i64 0) → _ := hK
      simp only [mkOf, List.map_cons, List.map_nil, Act.put, List.setIfInBounds_toArray, List.set_cons_succ, List.set_cons_zero, Nat.reduceAdd, Nat.zero_add] at hK ⊢
      simp only [d59] at hK ⊢
      rw [if_pos (by kernel_rfl)]
      go_simp
      exact hK _ _ (Ext.refl _) rfl
    | 7, _, ho =>
      obtain rfl := Option.some.inj ho
      intro s W hX hd K hK
      have d59 : (s 5) = .bool true := hd 5 (by decide) (by decide)
      have d60 : (s 6) = .int .i64 0 := hd 6 (by decide) (by decide)
      clear hd
      replace hK : ∀ (v : Value) (W' : World), Ext W W' → (v = .bool true) → _ := hK
      simp only [mkOf, List.map_cons, List.map_nil, Act.put, List.setIfInBounds_toArray, List.set_cons_succ, List.set_cons_zero, Nat.reduceAdd, Nat.zero_add] at hK ⊢
      simp only [d59, d60] at hK ⊢
      rw [if_pos (by kernel_rfl)]
      go_simp
      exact hK _ _ (Ext.refl _) rfl
    | 8, _, ho =>
      obtain rfl := Option.some.inj ho
      intro s W hX hd K hK
      rw [if_pos (wanted_plain rfl)]
      have d59 : (s 5) = .bool true := hd 5 (by decide) (by decide)
      have d61 : (s 7) = .bool true := hd 7 (by decide) (by decide)
      clear hd
      replace hK : ∀ (v : Value) (W' : World), Ext W W' → (v = .bool true) → _ := hK
      simp only [mkOf, List.map_cons, List.map_nil, Act.put, List.setIfInBounds_toArray, List.set_cons_succ, List.set_cons_zero, Nat.reduceAdd, Nat.zero_add] at hK ⊢
      simp only [d59, d61] at hK ⊢
      go_simp
      exact hK _ _ (Ext.refl _) rfl
    | 9, _, ho =>
      obtain rfl := Option.some.inj ho
      intro s W hX hd K hK
      rw [if_pos (wanted_plain rfl)]
      have d62 : (s 8) = .bool true := hd 8 (by decide) (by decide)
      clear hd
      replace hK : ∀ (v : Value) (W' : World), Ext W W' → (v = .bool true) → _ := hK
      simp only [mkOf, List.map_cons, List.map_nil, Act.put, List.setIfInBounds_toArray, List.set_cons_succ, List.set_cons_zero, Nat.reduceAdd, Nat.zero_add] at hK ⊢
      simp only [d62] at hK ⊢
      go_simp
      exact hK _ _ (Ext.refl _) rfl
    | 10, _, ho =>
      obtain rfl := Option.some.inj ho
      intro s W hX hd K hK
      have d63 : (s 9) = .bool true := hd 9 (by decide) (by decide)
      clear hd
      replace hK : ∀ (v : Value) (W' : World), Ext W W' → (v = .int .i64 21) → _ := hK
      simp only [mkOf, List.map_cons, List.map_nil, Act.put, List.setIfInBounds_toArray, List.set_cons_succ, List.set_cons_zero, Nat.reduceAdd, Nat.zero_add] at hK ⊢
      simp only [d63] at hK ⊢
      rw [if_pos (by kernel_rfl)]
      go_simp
      exact hK _ _ (Ext.refl _) rfl
    | 11, _, ho =>
      obtain rfl := Option.some.inj ho
      intro s W hX hd K hK
      have d63 : (s 9) = .bool true := hd 9 (by decide) (by decide)
      have d64 : (s 10) = .int .i64 21 := hd 10 (by decide) (by decide)
      clear hd
      replace hK : ∀ (v : Value) (W' : World), Ext W W' → (v = .bool true) → _ := hK
      simp only [mkOf, List.map_cons, List.map_nil, Act.put, List.setIfInBounds_toArray, List.set_cons_succ, List.set_cons_zero, Nat.reduceAdd, Nat.zero_add] at hK ⊢
      simp only [d63, d64] at hK ⊢
      rw [if_pos (by kernel_rfl)]
      go_simp
      exact hK _ _ (Ext.refl _) rfl
    | 12, _, ho =>
      obtain rfl := Option.some.inj ho
      intro s W hX hd K hK
      rw [if_pos (wanted_plain rfl)]
      have d63 : (s 9) = .bool true := hd 9 (by decide) (by decide)
      have d65 : (s 11) = .bool true := hd 11 (by decide) (by decide)
      clear hd
      replace hK : ∀ (v : Value) (W' : World), Ext W W' → (v = .bool true) → _ := hK
      simp only [mkOf, List.map_cons, List.map_nil, Act.put, List.setIfInBounds_toArray, List.set_cons_succ, List.set_cons_zero, Nat.reduceAdd, Nat.zero_add] at hK ⊢
      simp only [d63, d65] at hK ⊢
      go_simp
      exact hK _ _ (Ext.refl _) rfl
    | 13, _, ho =>
      obtain rfl := Option.some.inj ho
      intro s W hX hd K hK
      rw [if_pos (wanted_plain rfl)]
      have d66 : (s 12) = .bool true := hd 12 (by decide) (by decide)
      clear hd
      replace hK : ∀ (v : Value) (W' : World), Ext W W' → (v = .bool true) → _ := hK
      simp only [mkOf, List.map_cons, List.map_nil, Act.put, List.setIfInBounds_toArray, List.set_cons_succ, List.set_cons_zero, Nat.reduceAdd, Nat.zero_add] at hK ⊢
      simp only [d66] at hK ⊢
      go_simp
      exact hK _ _ (Ext.refl _) rfl
    | 14, _, ho =>
      obtain rfl := Option.some.inj ho
      intro s W hX hd K hK
      have d67 : (s 13) = .bool true := hd 13 (by decide) (by decide)
      clear hd
      replace hK : ∀ (v : Value) (W' : World), Ext W W' → (v = .int .i64 0) → _ := hK
      simp only [mkOf, List.map_cons, List.map_nil, Act.put, List.setIfInBounds_toArray, List.set_cons_succ, List.set_cons_zero, Nat.reduceAdd, Nat.zero_add] at hK ⊢
      simp only [d67] at hK ⊢
      rw [if_pos (by kernel_rfl)]
      go_simp
      exact hK _ _ (Ext.refl _) rfl
    | 15, _, ho =>
      obtain rfl := Option.some.inj ho
      intro s W hX hd K hK
      have d67 : (s 13) = .bool true := hd 13 (by decide) (by decide)
      have d68 : (s 14) = .int .i64 0 := hd 14 (by decide) (by decide)
      clear hd
      replace hK : ∀ (v : Value) (W' : World), Ext W W' → (v = .bool true) → _ := hK
      simp only [mkOf, List.map_cons, List.map_nil, Act.put, List.setIfInBounds_toArray, List.set_cons_succ, List.set_cons_zero, Nat.reduceAdd, Nat.zero_add] at hK ⊢
      simp only [d67, d68] at hK ⊢
      rw [if_pos (by kernel_rfl)]
      go_simp
      exact hK _ _ (Ext.refl _) rfl
    | 16, _, ho =>
      obtain rfl := Option.some.inj ho
      intro s W hX hd K hK
      rw [if_pos (wanted_plain rfl)]
      have d67 : (s 13) = .bool true := hd 13 (by decide) (by decide)
      have d69 : (s 15) = .bool true := hd 15 (by decide) (by decide)
      clear hd
      replace hK : ∀ (v : Value) (W' : World), Ext W W' → (v = .bool true) → _ := hK
      simp only [mkOf, List.map_cons, List.map_nil, Act.put, List.setIfInBounds_toArray, List.set_cons_succ, List.set_cons_zero, Nat.reduceAdd, Nat.zero_add] at hK ⊢
      simp only [d67, d69] at hK ⊢
      go_simp
      exact hK _ _ (Ext.refl _) rfl
    | 17, _, ho =>
      obtain rfl := Option.some.inj ho
      intro s W hX hd K hK
      rw [if_pos (wanted_plain rfl)]
      have d70 : (s 16) = .bool true := hd 16 (by decide) (by decide)
      clear hd
      replace hK : ∀ (v : Value) (W' : World), Ext W W' → (v = .bool true) → _ := hK
      simp only [mkOf, List.map_cons, List.map_nil, Act.put, List.setIfInBounds_toArray, List.set_cons_succ, List.set_cons_zero, Nat.reduceAdd, Nat.zero_add] at hK ⊢
      simp only [d70] at hK ⊢
      go_simp
      exact hK _ _ (Ext.refl _) rfl
    | 18, _, ho =>
      obtain rfl := Option.some.inj ho
      intro s W hX hd K hK
      have d71 : (s 17) = .bool true := hd 17 (by decide) (by decide)
      clear hd
      replace hK : ∀ (v : Value) (W' : World), Ext W W' → (v = .agg M1.toArray) → _ := hK
      simp only [mkOf, List.map_cons, List.map_nil, Act.put, List.setIfInBounds_toArray, List.set_cons_succ, List.set_cons_zero, Nat.reduceAdd, Nat.zero_add] at hK ⊢
      simp only [d71] at hK ⊢
      rw [if_pos (by kernel_rfl)]
      refine wp_load_agg 39 (.tmp 13) rfl _ rfl M1 _ Try.underlying39 rfl (szOutTo05 HM1L.out) (HM1B.out.keep hX (by simp)).cells ?_
      exact hK _ _ (Ext.refl _) rfl
    | 19, _, ho =>
      obtain rfl := Option.some.inj ho
      intro s W hX hd K hK
      have d71 : (s 17) = .bool true := hd 17 (by decide) (by decide)
      have d72 : (s 18) = .agg M1.toArray := hd 18 (by decide) (by decide)
      clear hd
      replace hK : ∀ (v : Value) (W' : World), Ext W W' → (∃ u, v = .agg (sigC SG kk u).toArray ∧ OwnD 31 W' u (wayM seed hh kk)) → _ := hK
      simp only [mkOf, List.map_cons, List.map_nil, Act.put, List.setIfInBounds_toArray, List.set_cons_succ, List.set_cons_zero, Nat.reduceAdd, Nat.zero_add] at hK ⊢
      simp only [d71, d72] at hK ⊢
      rw [if_pos (by kernel_rfl)]
      go_simp
      refine (HFR1.out _ hX).mono ?_
      rintro e w' ⟨u, rfl, ho, hx, _⟩
      exact hK _ _ hx ⟨u, rfl, ho⟩
    | 20, _, ho =>
      obtain rfl := Option.some.inj ho
      intro s W hX hd K hK
      have d71 : (s 17) = .bool true := hd 17 (by decide) (by decide)
      clear hd
      replace hK : ∀ (v : Value) (W' : World), Ext W W' → (v = .agg M2.toArray) → _ := hK
      simp only [mkOf, List.map_cons, List.map_nil, Act.put, List.setIfInBounds_toArray, List.set_cons_succ, List.set_cons_zero, Nat.reduceAdd, Nat.zero_add] at hK ⊢
      simp only [d71] at hK ⊢
      rw [if_pos (by kernel_rfl)]
      refine wp_load_agg 39 (.tmp 17) rfl _ rfl M2 _ Try.underlying39 rfl (szOutTo05 HM2L.out) (HM2B.out.keep hX (by simp)).cells ?_
      exact hK _ _ (Ext.refl _) rfl
    | 21, _, ho =>
      obtain rfl := Option.some.inj ho
      intro s W hX hd K hK
      have d71 : (s 17) = .bool true := hd 17 (by decide) (by decide)
      have d74 : (s 20) = .agg M2.toArray := hd 20 (by decide) (by decide)
      clear hd
      replace hK : ∀ (v : Value) (W' : World), Ext W W' → (∃ u, v = .agg (sigC SG kk u).toArray ∧ OwnD 31 W' u (wayM seed hh kk)) → _ := hK
      simp only [mkOf, List.map_cons, List.map_nil, Act.put, List.setIfInBounds_toArray, List.set_cons_succ, List.set_cons_zero, Nat.reduceAdd, Nat.zero_add] at hK ⊢
      simp only [d71, d74] at hK ⊢
      rw [if_pos (by kernel_rfl)]
      go_simp
      refine (HFR2.out _ hX).mono ?_
      rintro e w' ⟨u, rfl, ho, hx, _⟩
      exact hK _ _ hx ⟨u, rfl, ho⟩
    | 22, _, ho =>
      obtain rfl := Option.some.inj ho
      intro s W hX hd K hK
      have d71 : (s 17) = .bool true := hd 17 (by decide) (by decide)
      have d73 : ∃ u, (s 19) = .agg (sigC SG kk u).toArray ∧ OwnD 31 W u (wayM seed hh kk) := hd 19 (by decide) (by decide)
      have d75 : ∃ u, (s 21) = .agg (sigC SG kk u).toArray ∧ OwnD 31 W u (wayM seed hh kk) := hd 21 (by decide) (by decide)
      clear hd
      replace hK : ∀ (v : Value) (W' : World), Ext W W' → (v = .bool true) → _ := hK
      simp only [mkOf, List.map_cons, List.map_nil, Act.put, List.setIfInBounds_toArray, List.set_cons_succ, List.set_cons_zero, Nat.reduceAdd, Nat.zero_add] at hK ⊢
      simp only [d71] at hK ⊢
      rw [if_pos (by kernel_rfl)]
      obtain ⟨u1, e1, o1⟩ := d73
      obtain ⟨u2, e2, o2⟩ := d75
      simp only [e1, e2] at hK ⊢
      go_simp
      refine (HSAME.out u1 u2 W o1 o2).mono ?_
      rintro e w' ⟨rfl, hx⟩
      exact hK _ _ hx rfl
    | 23, _, ho =>
      obtain rfl := Option.some.inj ho
      intro s W hX hd K hK
      rw [if_pos (wanted_plain rfl)]
      have d71 : (s 17) = .bool true := hd 17 (by decide) (by decide)
      have d76 : (s 22) = .bool true := hd 22 (by decide) (by decide)
      clear hd
      replace hK : ∀ (v : Value) (W' : World), Ext W W' → (v = .bool true) → _ := hK
      simp only [mkOf, List.map_cons, List.map_nil, Act.put, List.setIfInBounds_toArray, List.set_cons_succ, List.set_cons_zero, Nat.reduceAdd, Nat.zero_add] at hK ⊢
      simp only [d71, d76] at hK ⊢
      go_simp
      exact hK _ _ (Ext.refl _) rfl
    | 24, _, ho =>
      obtain rfl := Option.some.inj ho
      intro s W hX hd K hK
      rw [if_pos (wanted_plain rfl)]
      have d77 : (s 23) = .bool true := hd 23 (by decide) (by decide)
      clear hd
      replace hK : ∀ (v : Value) (W' : World), Ext W W' → (v = .bool true) → _ := hK
      simp only [mkOf, List.map_cons, List.map_nil, Act.put, List.setIfInBounds_toArray, List.set_cons_succ, List.set_cons_zero, Nat.reduceAdd, Nat.zero_add] at hK ⊢
      simp only [d77] at hK ⊢
      go_simp
      exact hK _ _ (Ext.refl _) rfl
    | 25, _, ho =>
      obtain rfl := Option.some.inj ho
      intro s W hX hd K hK
      have d78 : (s 24) = .bool true := hd 24 (by decide) (by decide)
      clear hd
      replace hK : ∀ (v : Value) (W' : World), Ext W W' → (v = .agg M1.toArray) → _ := hK
      simp only [mkOf, List.map_cons, List.map_nil, Act.put, List.setIfInBounds_toArray, List.set_cons_succ, List.set_cons_zero, Nat.reduceAdd, Nat.zero_add] at hK ⊢
      simp only [d78] at hK ⊢
      rw [if_pos (by kernel_rfl)]
      refine wp_load_agg 39 (.tmp 13) rfl _ rfl M1 _ Try.underlying39 rfl (szOutTo05 HM1L.out) (HM1B.out.keep hX (by simp)).cells ?_
      exact hK _ _ (Ext.refl _) rfl
    | 26, _, ho =>
      obtain rfl := Option.some.inj ho
      intro s W hX hd K hK
      have d78 : (s 24) = .bool true := hd 24 (by decide) (by decide)
      clear hd
      replace hK : ∀ (v : Value) (W' : World), Ext W W' → (v = .pointer (some ⟨g, 0, none⟩)) → _ := hK
      simp only [mkOf, List.map_cons, List.map_nil, Act.put, List.setIfInBounds_toArray, List.set_cons_succ, List.set_cons_zero, Nat.reduceAdd, Nat.zero_add] at hK ⊢
      simp only [d78] at hK ⊢
      rw [if_pos (by kernel_rfl)]
      go_simp
      exact hK _ _ (Ext.refl _) rfl
    | 27, _, ho =>
      obtain rfl := Option.some.inj ho
      intro s W hX hd K hK
      have d78 : (s 24) = .bool true := hd 24 (by decide) (by decide)
      have d80 : (s 26) = .pointer (some ⟨g, 0, none⟩) := hd 26 (by decide) (by decide)
      clear hd
      replace hK : ∀ (v : Value) (W' : World), Ext W W' → (v = .agg RT.toArray) → _ := hK
      simp only [mkOf, List.map_cons, List.map_nil, Act.put, List.setIfInBounds_toArray, List.set_cons_succ, List.set_cons_zero, Nat.reduceAdd, Nat.zero_add] at hK ⊢
      simp only [d78, d80] at hK ⊢
      rw [if_pos (by kernel_rfl)]
      go_simp
      refine (HROOT.out _ hX).mono ?_
      rintro e w' ⟨rfl, hx⟩
      exact hK _ _ hx rfl
    | 28, _, ho =>
      obtain rfl := Option.some.inj ho
      intro s W hX hd K hK
      have d78 : (s 24) = .bool true := hd 24 (by decide) (by decide)
      clear hd
      replace hK : ∀ (v : Value) (W' : World), Ext W W' → (v = .int .i64 (hh : Int)) → _ := hK
      simp only [mkOf, List.map_cons, List.map_nil, Act.put, List.setIfInBounds_toArray, List.set_cons_succ, List.set_cons_zero, Nat.reduceAdd, Nat.zero_add] at hK ⊢
      simp only [d78] at hK ⊢
      rw [if_pos (by kernel_rfl)]
      go_simp
      exact hK _ _ (Ext.refl _) rfl
    | 29, _, ho =>
      obtain rfl := Option.some.inj ho
      intro s W hX hd K hK
      have d78 : (s 24) = .bool true := hd 24 (by decide) (by decide)
      clear hd
      replace hK : ∀ (v : Value) (W' : World), Ext W W' → (v = .int .u32 (kk : Int)) → _ := hK
      simp only [mkOf, List.map_cons, List.map_nil, Act.put, List.setIfInBounds_toArray, List.set_cons_succ, List.set_cons_zero, Nat.reduceAdd, Nat.zero_add] at hK ⊢
      simp only [d78] at hK ⊢
      rw [if_pos (by kernel_rfl)]
      go_simp
      exact hK _ _ (Ext.refl _) rfl
    | 30, _, ho =>
      obtain rfl := Option.some.inj ho
      intro s W hX hd K hK
      have d78 : (s 24) = .bool true := hd 24 (by decide) (by decide)
      clear hd
      replace hK : ∀ (v : Value) (W' : World), Ext W W' → (v = .agg DC.toArray) → _ := hK
      simp only [mkOf, List.map_cons, List.map_nil, Act.put, List.setIfInBounds_toArray, List.set_cons_succ, List.set_cons_zero, Nat.reduceAdd, Nat.zero_add] at hK ⊢
      simp only [d78] at hK ⊢
      rw [if_pos (by kernel_rfl)]
      refine wp_load_agg 31 (.tmp 7) rfl _ rfl DC _ Try.underlying31 rfl (szElTo05 HDL.out) (HBD.out.keep hX (by simp)).cells ?_
      exact hK _ _ (Ext.refl _) rfl
    | 31, _, ho =>
      obtain rfl := Option.some.inj ho
      intro s W hX hd K hK
      have d78 : (s 24) = .bool true := hd 24 (by decide) (by decide)
      have d79 : (s 25) = .agg M1.toArray := hd 25 (by decide) (by decide)
      have d81 : (s 27) = .agg RT.toArray := hd 27 (by decide) (by decide)
      have d82 : (s 28) = .int .i64 (hh : Int) := hd 28 (by decide) (by decide)
      have d83 : (s 29) = .int .u32 (kk : Int) := hd 29 (by decide) (by decide)
      have d84 : (s 30) = .agg DC.toArray := hd 30 (by decide) (by decide)
      clear hd
      replace hK : ∀ (v : Value) (W' : World), Ext W W' → (v = .bool true) → _ := hK
      simp only [mkOf, List.map_cons, List.map_nil, Act.put, List.setIfInBounds_toArray, List.set_cons_succ, List.set_cons_zero, Nat.reduceAdd, Nat.zero_add] at hK ⊢
      simp only [d78, d79, d81, d82, d83, d84] at hK ⊢
      rw [if_pos (by kernel_rfl)]
      go_simp
      refine (HRI1.out _ hX).mono ?_
      rintro e w' ⟨rfl, hx⟩
      exact hK _ _ hx rfl
    | 32, _, ho =>
      obtain rfl := Option.some.inj ho
      intro s W hX hd K hK
      rw [if_pos (wanted_plain rfl)]
      have d78 : (s 24) = .bool true := hd 24 (by decide) (by decide)
      have d85 : (s 31) = .bool true := hd 31 (by decide) (by decide)
      clear hd
      replace hK : ∀ (v : Value) (W' : World), Ext W W' → (v = .bool true) → _ := hK
      simp only [mkOf, List.map_cons, List.map_nil, Act.put, List.setIfInBounds_toArray, List.set_cons_succ, List.set_cons_zero, Nat.reduceAdd, Nat.zero_add] at hK ⊢
      simp only [d78, d85] at hK ⊢
      go_simp
      exact hK _ _ (Ext.refl _) rfl
    | 33, _, ho =>
      obtain rfl := Option.some.inj ho
      intro s W hX hd K hK
      rw [if_pos (wanted_plain rfl)]
      have d86 : (s 32) = .bool true := hd 32 (by decide) (by decide)
      clear hd
      replace hK : ∀ (v : Value) (W' : World), Ext W W' → (v = .bool true) → _ := hK
      simp only [mkOf, List.map_cons, List.map_nil, Act.put, List.setIfInBounds_toArray, List.set_cons_succ, List.set_cons_zero, Nat.reduceAdd, Nat.zero_add] at hK ⊢
      simp only [d86] at hK ⊢
      go_simp
      exact hK _ _ (Ext.refl _) rfl
    | 34, _, ho =>
      obtain rfl := Option.some.inj ho
      intro s W hX hd K hK
      have d87 : (s 33) = .bool true := hd 33 (by decide) (by decide)
      clear hd
      replace hK : ∀ (v : Value) (W' : World), Ext W W' → (v = .agg M1.toArray) → _ := hK
      simp only [mkOf, List.map_cons, List.map_nil, Act.put, List.setIfInBounds_toArray, List.set_cons_succ, List.set_cons_zero, Nat.reduceAdd, Nat.zero_add] at hK ⊢
      simp only [d87] at hK ⊢
      rw [if_pos (by kernel_rfl)]
      refine wp_load_agg 39 (.tmp 13) rfl _ rfl M1 _ Try.underlying39 rfl (szOutTo05 HM1L.out) (HM1B.out.keep hX (by simp)).cells ?_
      exact hK _ _ (Ext.refl _) rfl
    | 35, _, ho =>
      obtain rfl := Option.some.inj ho
      intro s W hX hd K hK
      have d87 : (s 33) = .bool true := hd 33 (by decide) (by decide)
      clear hd
      replace hK : ∀ (v : Value) (W' : World), Ext W W' → (v = .pointer (some ⟨g, 0, none⟩)) → _ := hK
      simp only [mkOf, List.map_cons, List.map_nil, Act.put, List.setIfInBounds_toArray, List.set_cons_succ, List.set_cons_zero, Nat.reduceAdd, Nat.zero_add] at hK ⊢
      simp only [d87] at hK ⊢
      rw [if_pos (by kernel_rfl)]
      go_simp
      exact hK _ _ (Ext.refl _) rfl
    | 36, _, ho =>
      obtain rfl := Option.some.inj ho
      intro s W hX hd K hK
      have d87 : (s 33) = .bool true := hd 33 (by decide) (by decide)
      have d89 : (s 35) = .pointer (some ⟨g, 0, none⟩) := hd 35 (by decide) (by decide)
      clear hd
      replace hK : ∀ (v : Value) (W' : World), Ext W W' → (v = .agg RT.toArray) → _ := hK
      simp only [mkOf, List.map_cons, List.map_nil, Act.put, List.setIfInBounds_toArray, List.set_cons_succ, List.set_cons_zero, Nat.reduceAdd, Nat.zero_add] at hK ⊢
      simp only [d87, d89] at hK ⊢
      rw [if_pos (by kernel_rfl)]
      go_simp
      refine (HROOT.out _ hX).mono ?_
      rintro e w' ⟨rfl, hx⟩
      exact hK _ _ hx rfl
    | 37, _, ho =>
      obtain rfl := Option.some.inj ho
      intro s W hX hd K hK
      have d87 : (s 33) = .bool true := hd 33 (by decide) (by decide)
      clear hd
      replace hK : ∀ (v : Value) (W' : World), Ext W W' → (v = .int .i64 (hh : Int)) → _ := hK
      simp only [mkOf, List.map_cons, List.map_nil, Act.put, List.setIfInBounds_toArray, List.set_cons_succ, List.set_cons_zero, Nat.reduceAdd, Nat.zero_add] at hK ⊢
      simp only [d87] at hK ⊢
      rw [if_pos (by kernel_rfl)]
      go_simp
      exact hK _ _ (Ext.refl _) rfl
    | 38, _, ho =>
      obtain rfl := Option.some.inj ho
      intro s W hX hd K hK
      have d87 : (s 33) = .bool true := hd 33 (by decide) (by decide)
      clear hd
      replace hK : ∀ (v : Value) (W' : World), Ext W W' → (v = .int .u32 (kk : Int)) → _ := hK
      simp only [mkOf, List.map_cons, List.map_nil, Act.put, List.setIfInBounds_toArray, List.set_cons_succ, List.set_cons_zero, Nat.reduceAdd, Nat.zero_add] at hK ⊢
      simp only [d87] at hK ⊢
      rw [if_pos (by kernel_rfl)]
      go_simp
      exact hK _ _ (Ext.refl _) rfl
    | 39, _, ho =>
      obtain rfl := Option.some.inj ho
      intro s W hX hd K hK
      have d87 : (s 33) = .bool true := hd 33 (by decide) (by decide)
      have d92 : (s 38) = .int .u32 (kk : Int) := hd 38 (by decide) (by decide)
      clear hd
      replace hK : ∀ (v : Value) (W' : World), Ext W W' → (v = .int .u32 ((kk + 1 : Nat) : Int)) → _ := hK
      simp only [mkOf, List.map_cons, List.map_nil, Act.put, List.setIfInBounds_toArray, List.set_cons_succ, List.set_cons_zero, Nat.reduceAdd, Nat.zero_add] at hK ⊢
      simp only [d87, d92] at hK ⊢
      rw [if_pos (by kernel_rfl)]
      go_simp
      exact hK _ _ (Ext.refl _) (by rw [HW93.out])
    | 40, _, ho =>
      obtain rfl := Option.some.inj ho
      intro s W hX hd K hK
      have d87 : (s 33) = .bool true := hd 33 (by decide) (by decide)
      clear hd
      replace hK : ∀ (v : Value) (W' : World), Ext W W' → (v = .agg DC.toArray) → _ := hK
      simp only [mkOf, List.map_cons, List.map_nil, Act.put, List.setIfInBounds_toArray, List.set_cons_succ, List.set_cons_zero, Nat.reduceAdd, Nat.zero_add] at hK ⊢
      simp only [d87] at hK ⊢
      rw [if_pos (by kernel_rfl)]
      refine wp_load_agg 31 (.tmp 7) rfl _ rfl DC _ Try.underlying31 rfl (szElTo05 HDL.out) (HBD.out.keep hX (by simp)).cells ?_
      exact hK _ _ (Ext.refl _) rfl
    | 41, _, ho =>
      obtain rfl := Option.some.inj ho
      intro s W hX hd K hK
      have d87 : (s 33) = .bool true := hd 33 (by decide) (by decide)
      have d88 : (s 34) = .agg M1.toArray := hd 34 (by decide) (by decide)
      have d90 : (s 36) = .agg RT.toArray := hd 36 (by decide) (by decide)
      have d91 : (s 37) = .int .i64 (hh : Int) := hd 37 (by decide) (by decide)
      have d93 : (s 39) = .int .u32 ((kk + 1 : Nat) : Int) := hd 39 (by decide) (by decide)
      have d94 : (s 40) = .agg DC.toArray := hd 40 (by decide) (by decide)
      clear hd
      replace hK : ∀ (v : Value) (W' : World), Ext W W' → (v = .bool false) → _ := hK
      simp only [mkOf, List.map_cons, List.map_nil, Act.put, List.setIfInBounds_toArray, List.set_cons_succ, List.set_cons_zero, Nat.reduceAdd, Nat.zero_add] at hK ⊢
      simp only [d87, d88, d90, d91, d93, d94] at hK ⊢
      rw [if_pos (by kernel_rfl)]
      go_simp
      refine (HRI2.out _ hX).mono ?_
      rintro e w' ⟨rfl, hx⟩
      exact hK _ _ hx rfl
    | 42, _, ho =>
      obtain rfl := Option.some.inj ho
      intro s W hX hd K hK
      have d87 : (s 33) = .bool true := hd 33 (by decide) (by decide)
      have d95 : (s 41) = .bool false := hd 41 (by decide) (by decide)
      clear hd
      replace hK : ∀ (v : Value) (W' : World), Ext W W' → (v = .bool true) → _ := hK
      simp only [mkOf, List.map_cons, List.map_nil, Act.put, List.setIfInBounds_toArray, List.set_cons_succ, List.set_cons_zero, Nat.reduceAdd, Nat.zero_add] at hK ⊢
      simp only [d87, d95] at hK ⊢
      rw [if_pos (by kernel_rfl)]
      go_simp
      exact hK _ _ (Ext.refl _) rfl
    | 43, _, ho =>
      obtain rfl := Option.some.inj ho
      intro s W hX hd K hK
      rw [if_pos (wanted_plain rfl)]
      have d87 : (s 33) = .bool true := hd 33 (by decide) (by decide)
      have d96 : (s 42) = .bool true := hd 42 (by decide) (by decide)
      clear hd
      replace hK : ∀ (v : Value) (W' : World), Ext W W' → (v = .bool true) → _ := hK
      simp only [mkOf, List.map_cons, List.map_nil, Act.put, List.setIfInBounds_toArray, List.set_cons_succ, List.set_cons_zero, Nat.reduceAdd, Nat.zero_add] at hK ⊢
      simp only [d87, d96] at hK ⊢
      go_simp
      exact hK _ _ (Ext.refl _) rfl
    | 44, _, ho =>
      obtain rfl := Option.some.inj ho
      intro s W hX hd K hK
      rw [if_pos (wanted_plain rfl)]
      have d97 : (s 43) = .bool true := hd 43 (by decide) (by decide)
      clear hd
      replace hK : ∀ (v : Value) (W' : World), Ext W W' → (v = .bool true) → _ := hK
      simp only [mkOf, List.map_cons, List.map_nil, Act.put, List.setIfInBounds_toArray, List.set_cons_succ, List.set_cons_zero, Nat.reduceAdd, Nat.zero_add] at hK ⊢
      simp only [d97] at hK ⊢
      go_simp
      exact hK _ _ (Ext.refl _) rfl
    | 45, _, ho =>
      obtain rfl := Option.some.inj ho
      intro s W hX hd K hK
      have d98 : (s 44) = .bool true := hd 44 (by decide) (by decide)
      clear hd
      replace hK : ∀ (v : Value) (W' : World), Ext W W' → (v = .agg M1.toArray) → _ := hK
      simp only [mkOf, List.map_cons, List.map_nil, Act.put, List.setIfInBounds_toArray, List.set_cons_succ, List.set_cons_zero, Nat.reduceAdd, Nat.zero_add] at hK ⊢
      simp only [d98] at hK ⊢
      rw [if_pos (by kernel_rfl)]
      refine wp_load_agg 39 (.tmp 13) rfl _ rfl M1 _ Try.underlying39 rfl (szOutTo05 HM1L.out) (HM1B.out.keep hX (by simp)).cells ?_
      exact hK _ _ (Ext.refl _) rfl
    | 46, _, ho =>
      obtain rfl := Option.some.inj ho
      intro s W hX hd K hK
      have d98 : (s 44) = .bool true := hd 44 (by decide) (by decide)
      clear hd
      replace hK : ∀ (v : Value) (W' : World), Ext W W' → (v = .pointer (some ⟨g, 0, none⟩)) → _ := hK
      simp only [mkOf, List.map_cons, List.map_nil, Act.put, List.setIfInBounds_toArray, List.set_cons_succ, List.set_cons_zero, Nat.reduceAdd, Nat.zero_add] at hK ⊢
      simp only [d98] at hK ⊢
      rw [if_pos (by kernel_rfl)]
      go_simp
      exact hK _ _ (Ext.refl _) rfl
    | 47, _, ho =>
      obtain rfl := Option.some.inj ho
      intro s W hX hd K hK
      have d98 : (s 44) = .bool true := hd 44 (by decide) (by decide)
      have d100 : (s 46) = .pointer (some ⟨g, 0, none⟩) := hd 46 (by decide) (by decide)
      clear hd
      replace hK : ∀ (v : Value) (W' : World), Ext W W' → (v = .agg RT.toArray) → _ := hK
      simp only [mkOf, List.map_cons, List.map_nil, Act.put, List.setIfInBounds_toArray, List.set_cons_succ, List.set_cons_zero, Nat.reduceAdd, Nat.zero_add] at hK ⊢
      simp only [d98, d100] at hK ⊢
      rw [if_pos (by kernel_rfl)]
      go_simp
      refine (HROOT.out _ hX).mono ?_
      rintro e w' ⟨rfl, hx⟩
      exact hK _ _ hx rfl
    | 48, _, ho =>
      obtain rfl := Option.some.inj ho
      intro s W hX hd K hK
      have d98 : (s 44) = .bool true := hd 44 (by decide) (by decide)
      clear hd
      replace hK : ∀ (v : Value) (W' : World), Ext W W' → (v = .int .i64 (hh : Int)) → _ := hK
      simp only [mkOf, List.map_cons, List.map_nil, Act.put, List.setIfInBounds_toArray, List.set_cons_succ, List.set_cons_zero, Nat.reduceAdd, Nat.zero_add] at hK ⊢
      simp only [d98] at hK ⊢
      rw [if_pos (by kernel_rfl)]
      go_simp
      exact hK _ _ (Ext.refl _) rfl
    | 49, _, ho =>
      obtain rfl := Option.some.inj ho
      intro s W hX hd K hK
      have d98 : (s 44) = .bool true := hd 44 (by decide) (by decide)
      have d102 : (s 48) = .int .i64 (hh : Int) := hd 48 (by decide) (by decide)
      clear hd
      replace hK : ∀ (v : Value) (W' : World), Ext W W' → (v = .int .i64 ((hh + 1 : Nat) : Int)) → _ := hK
      simp only [mkOf, List.map_cons, List.map_nil, Act.put, List.setIfInBounds_toArray, List.set_cons_succ, List.set_cons_zero, Nat.reduceAdd, Nat.zero_add] at hK ⊢
      simp only [d98, d102] at hK ⊢
      rw [if_pos (by kernel_rfl)]
      go_simp
      exact hK _ _ (Ext.refl _) (by rw [HW103.out])
    | 50, _, ho =>
      obtain rfl := Option.some.inj ho
      intro s W hX hd K hK
      have d98 : (s 44) = .bool true := hd 44 (by decide) (by decide)
      clear hd
      replace hK : ∀ (v : Value) (W' : World), Ext W W' → (v = .int .u32 (kk : Int)) → _ := hK
      simp only [mkOf, List.map_cons, List.map_nil, Act.put, List.setIfInBounds_toArray, List.set_cons_succ, List.set_cons_zero, Nat.reduceAdd, Nat.zero_add] at hK ⊢
      simp only [d98] at hK ⊢
      rw [if_pos (by kernel_rfl)]
      go_simp
      exact hK _ _ (Ext.refl _) rfl
    | 51, _, ho =>
      obtain rfl := Option.some.inj ho
      intro s W hX hd K hK
      have d98 : (s 44) = .bool true := hd 44 (by decide) (by decide)
      clear hd
      replace hK : ∀ (v : Value) (W' : World), Ext W W' → (v = .agg DC.toArray) → _ := hK
      simp only [mkOf, List.map_cons, List.map_nil, Act.put, List.setIfInBounds_toArray, List.set_cons_succ, List.set_cons_zero, Nat.reduceAdd, Nat.zero_add] at hK ⊢
      simp only [d98] at hK ⊢
      rw [if_pos (by kernel_rfl)]
      refine wp_load_agg 31 (.tmp 7) rfl _ rfl DC _ Try.underlying31 rfl (szElTo05 HDL.out) (HBD.out.keep hX (by simp)).cells ?_
      exact hK _ _ (Ext.refl _) rfl
    | 52, _, ho =>
      obtain rfl := Option.some.inj ho
      intro s W hX hd K hK
      have d98 : (s 44) = .bool true := hd 44 (by decide) (by decide)
      have d99 : (s 45) = .agg M1.toArray := hd 45 (by decide) (by decide)
      have d101 : (s 47) = .agg RT.toArray := hd 47 (by decide) (by decide)
      have d103 : (s 49) = .int .i64 ((hh + 1 : Nat) : Int) := hd 49 (by decide) (by decide)
      have d104 : (s 50) = .int .u32 (kk : Int) := hd 50 (by decide) (by decide)
      have d105 : (s 51) = .agg DC.toArray := hd 51 (by decide) (by decide)
      clear hd
      replace hK : ∀ (v : Value) (W' : World), Ext W W' → (v = .bool false) → _ := hK
      simp only [mkOf, List.map_cons, List.map_nil, Act.put, List.setIfInBounds_toArray, List.set_cons_succ, List.set_cons_zero, Nat.reduceAdd, Nat.zero_add] at hK ⊢
      simp only [d98, d99, d101, d103, d104, d105] at hK ⊢
      rw [if_pos (by kernel_rfl)]
      go_simp
      refine (HRI3.out _ hX).mono ?_
      rintro e w' ⟨rfl, hx⟩
      exact hK _ _ hx rfl
    | 53, _, ho =>
      obtain rfl := Option.some.inj ho
      intro s W hX hd K hK
      have d98 : (s 44) = .bool true := hd 44 (by decide) (by decide)
      have d106 : (s 52) = .bool false := hd 52 (by decide) (by decide)
      clear hd
      replace hK : ∀ (v : Value) (W' : World), Ext W W' → (v = .bool true) → _ := hK
      simp only [mkOf, List.map_cons, List.map_nil, Act.put, List.setIfInBounds_toArray, List.set_cons_succ, List.set_cons_zero, Nat.reduceAdd, Nat.zero_add] at hK ⊢
      simp only [d98, d106] at hK ⊢
      rw [if_pos (by kernel_rfl)]
      go_simp
      exact hK _ _ (Ext.refl _) rfl
    | 54, _, ho =>
      obtain rfl := Option.some.inj ho
      intro s W hX hd K hK
      rw [if_pos (wanted_plain rfl)]
      have d98 : (s 44) = .bool true := hd 44 (by decide) (by decide)
      have d107 : (s 53) = .bool true := hd 53 (by decide) (by decide)
      clear hd
      replace hK : ∀ (v : Value) (W' : World), Ext W W' → (v = .bool true) → _ := hK
      simp only [mkOf, List.map_cons, List.map_nil, Act.put, List.setIfInBounds_toArray, List.set_cons_succ, List.set_cons_zero, Nat.reduceAdd, Nat.zero_add] at hK ⊢
      simp only [d98, d107] at hK ⊢
      go_simp
      exact hK _ _ (Ext.refl _) rfl
    | 55, _, ho =>
      obtain rfl := Option.some.inj ho
      intro s W hX hd K hK
      rw [if_pos (wanted_plain rfl)]
      have d108 : (s 54) = .bool true := hd 54 (by decide) (by decide)
      clear hd
      replace hK : ∀ (v : Value) (W' : World), Ext W W' → (v = .bool true) → _ := hK
      simp only [mkOf, List.map_cons, List.map_nil, Act.put, List.setIfInBounds_toArray, List.set_cons_succ, List.set_cons_zero, Nat.reduceAdd, Nat.zero_add] at hK ⊢
      simp only [d108] at hK ⊢
      go_simp
      exact hK _ _ (Ext.refl _) rfl
    | 56, _, ho =>
      obtain rfl := Option.some.inj ho
      intro s W hX hd K hK
      have d109 : (s 55) = .bool true := hd 55 (by decide) (by decide)
      clear hd
      replace hK : ∀ (v : Value) (W' : World), Ext W W' → (v = .pointer (some ⟨g, 0, none⟩)) → _ := hK
      simp only [mkOf, List.map_cons, List.map_nil, Act.put, List.setIfInBounds_toArray, List.set_cons_succ, List.set_cons_zero, Nat.reduceAdd, Nat.zero_add] at hK ⊢
      simp only [d109] at hK ⊢
      rw [if_pos (by kernel_rfl)]
      go_simp
      exact hK _ _ (Ext.refl _) rfl
    | 57, _, ho =>
      obtain rfl := Option.some.inj ho
      intro s W hX hd K hK
      have d109 : (s 55) = .bool true := hd 55 (by decide) (by decide)
      clear hd
      replace hK : ∀ (v : Value) (W' : World), Ext W W' → (v = .int .u32 (kk : Int)) → _ := hK
      simp only [mkOf, List.map_cons, List.map_nil, Act.put, List.setIfInBounds_toArray, List.set_cons_succ, List.set_cons_zero, Nat.reduceAdd, Nat.zero_add] at hK ⊢
      simp only [d109] at hK ⊢
      rw [if_pos (by kernel_rfl)]
      go_simp
      exact hK _ _ (Ext.refl _) rfl
    | 58, _, ho =>
      obtain rfl := Option.some.inj ho
      intro s W hX hd K hK
      have d109 : (s 55) = .bool true := hd 55 (by decide) (by decide)
      have d110 : (s 56) = .pointer (some ⟨g, 0, none⟩) := hd 56 (by decide) (by decide)
      have d111 : (s 57) = .int .u32 (kk : Int) := hd 57 (by decide) (by decide)
      clear hd
      replace hK : ∀ (v : Value) (W' : World), Ext W W' → (v = .bool true) → _ := hK
      simp only [mkOf, List.map_cons, List.map_nil, Act.put, List.setIfInBounds_toArray, List.set_cons_succ, List.set_cons_zero, Nat.reduceAdd, Nat.zero_add] at hK ⊢
      simp only [d109, d110, d111] at hK ⊢
      rw [if_pos (by kernel_rfl)]
      go_simp
      refine (HTAK.out _ hX).mono ?_
      rintro e w' ⟨rfl, hx⟩
      exact hK _ _ hx rfl
    | 59, _, ho =>
      obtain rfl := Option.some.inj ho
      intro s W hX hd K hK
      rw [if_pos (wanted_plain rfl)]
      have d109 : (s 55) = .bool true := hd 55 (by decide) (by decide)
      have d112 : (s 58) = .bool true := hd 58 (by decide) (by decide)
      clear hd
      replace hK : ∀ (v : Value) (W' : World), Ext W W' → (v = .bool true) → _ := hK
      simp only [mkOf, List.map_cons, List.map_nil, Act.put, List.setIfInBounds_toArray, List.set_cons_succ, List.set_cons_zero, Nat.reduceAdd, Nat.zero_add] at hK ⊢
      simp only [d109, d112] at hK ⊢
      go_simp
      exact hK _ _ (Ext.refl _) rfl
    | 60, _, ho =>
      obtain rfl := Option.some.inj ho
      intro s W hX hd K hK
      rw [if_pos (wanted_plain rfl)]
      have d113 : (s 59) = .bool true := hd 59 (by decide) (by decide)
      clear hd
      replace hK : ∀ (v : Value) (W' : World), Ext W W' → (v = .bool true) → _ := hK
      simp only [mkOf, List.map_cons, List.map_nil, Act.put, List.setIfInBounds_toArray, List.set_cons_succ, List.set_cons_zero, Nat.reduceAdd, Nat.zero_add] at hK ⊢
      simp only [d113] at hK ⊢
      go_simp
      exact hK _ _ (Ext.refl _) rfl
    | i + 61, hi, _ => exact absurd hi (by simp)
  · intro s W hX hd
    have d54 : (s 0) = .bool true := hd 0 (by decide)
    have d55 : (s 1) = .bool true := hd 1 (by decide)
    have d56 : (s 2) = .int .i64 0 := hd 2 (by decide)
    have d57 : (s 3) = .bool true := hd 3 (by decide)
    have d58 : (s 4) = .bool true := hd 4 (by decide)
    have d59 : (s 5) = .bool true := hd 5 (by decide)
    have d60 : (s 6) = .int .i64 0 := hd 6 (by decide)
    have d61 : (s 7) = .bool true := hd 7 (by decide)
    have d62 : (s 8) = .bool true := hd 8 (by decide)
    have d63 : (s 9) = .bool true := hd 9 (by decide)
    have d64 : (s 10) = .int .i64 21 := hd 10 (by decide)
    have d65 : (s 11) = .bool true := hd 11 (by decide)
    have d66 : (s 12) = .bool true := hd 12 (by decide)
    have d67 : (s 13) = .bool true := hd 13 (by decide)
    have d68 : (s 14) = .int .i64 0 := hd 14 (by decide)
    have d69 : (s 15) = .bool true := hd 15 (by decide)
    have d70 : (s 16) = .bool true := hd 16 (by decide)
    have d71 : (s 17) = .bool true := hd 17 (by decide)
    have d72 : (s 18) = .agg M1.toArray := hd 18 (by decide)
    have d73 : ∃ u, (s 19) = .agg (sigC SG kk u).toArray ∧ OwnD 31 W u (wayM seed hh kk) := hd 19 (by decide)
    have d74 : (s 20) = .agg M2.toArray := hd 20 (by decide)
    have d75 : ∃ u, (s 21) = .agg (sigC SG kk u).toArray ∧ OwnD 31 W u (wayM seed hh kk) := hd 21 (by decide)
    have d76 : (s 22) = .bool true := hd 22 (by decide)
    have d77 : (s 23) = .bool true := hd 23 (by decide)
    have d78 : (s 24) = .bool true := hd 24 (by decide)
    have d79 : (s 25) = .agg M1.toArray := hd 25 (by decide)
    have d80 : (s 26) = .pointer (some ⟨g, 0, none⟩) := hd 26 (by decide)
    have d81 : (s 27) = .agg RT.toArray := hd 27 (by decide)
    have d82 : (s 28) = .int .i64 (hh : Int) := hd 28 (by decide)
    have d83 : (s 29) = .int .u32 (kk : Int) := hd 29 (by decide)
    have d84 : (s 30) = .agg DC.toArray := hd 30 (by decide)
    have d85 : (s 31) = .bool true := hd 31 (by decide)
    have d86 : (s 32) = .bool true := hd 32 (by decide)
    have d87 : (s 33) = .bool true := hd 33 (by decide)
    have d88 : (s 34) = .agg M1.toArray := hd 34 (by decide)
    have d89 : (s 35) = .pointer (some ⟨g, 0, none⟩) := hd 35 (by decide)
    have d90 : (s 36) = .agg RT.toArray := hd 36 (by decide)
    have d91 : (s 37) = .int .i64 (hh : Int) := hd 37 (by decide)
    have d92 : (s 38) = .int .u32 (kk : Int) := hd 38 (by decide)
    have d93 : (s 39) = .int .u32 ((kk + 1 : Nat) : Int) := hd 39 (by decide)
    have d94 : (s 40) = .agg DC.toArray := hd 40 (by decide)
    have d95 : (s 41) = .bool false := hd 41 (by decide)
    have d96 : (s 42) = .bool true := hd 42 (by decide)
    have d97 : (s 43) = .bool true := hd 43 (by decide)
    have d98 : (s 44) = .bool true := hd 44 (by decide)
    have d99 : (s 45) = .agg M1.toArray := hd 45 (by decide)
    have d100 : (s 46) = .pointer (some ⟨g, 0, none⟩) := hd 46 (by decide)
    have d101 : (s 47) = .agg RT.toArray := hd 47 (by decide)
    have d102 : (s 48) = .int .i64 (hh : Int) := hd 48 (by decide)
    have d103 : (s 49) = .int .i64 ((hh + 1 : Nat) : Int) := hd 49 (by decide)
    have d104 : (s 50) = .int .u32 (kk : Int) := hd 50 (by decide)
    have d105 : (s 51) = .agg DC.toArray := hd 51 (by decide)
    have d106 : (s 52) = .bool false := hd 52 (by decide)
    have d107 : (s 53) = .bool true := hd 53 (by decide)
    have d108 : (s 54) = .bool true := hd 54 (by decide)
    have d109 : (s 55) = .bool true := hd 55 (by decide)
    have d110 : (s 56) = .pointer (some ⟨g, 0, none⟩) := hd 56 (by decide)
    have d111 : (s 57) = .int .u32 (kk : Int) := hd 57 (by decide)
    have d112 : (s 58) = .bool true := hd 58 (by decide)
    have d113 : (s 59) = .bool true := hd 59 (by decide)
    have d8 : (s 60) = .bool true := hd 60 (by decide)
    clear hd
    simp only [mkOf, List.map_cons, List.map_nil, Act.put, List.setIfInBounds_toArray, List.set_cons_succ, List.set_cons_zero, Nat.reduceAdd, Nat.zero_add]
    (try simp only [Exit.then])
    go_wp2_with fail
    go_ret
    exact ⟨by simp [d8], HXA.out.trans hX⟩
end
end Go.Proofs.Ytpdkmapogncgmaa

/- Walk of the document's Sound of layer 12, and of its room. Conditions: the state's numbers are in their bounds. -/
import Derived.Test.YtnpolfihbfdggaaPRFree
set_option linter.unusedVariables false
set_option linter.unusedSimpArgs false
set_option linter.unnecessarySimpa false
namespace Go.Proofs.Ytnpolfihbfdggaa
open Go.RowKit

theorem find_le (cs : List Cd) (k : Nat) (h : k < List.length (α := Cd) cs) : 0 ≤ findM cs cs[k].1 ∧ findM cs cs[k].1 ≤ k := by
  have ha : cs.any (fun c => c.1 == cs[k].1) = true := List.any_eq_true.2 ⟨cs[k], List.getElem_mem _, beq_self_eq_true _⟩
  unfold findM
  rw [if_pos ha]
  have : cs.findIdx (fun c => c.1 == cs[k].1) ≤ k := by
    apply Nat.le_of_not_lt
    intro hk
    have h2 := List.not_of_lt_findIdx hk
    simp at h2
  omega
/-- What the document's Sound needs. -/
structure RSoundIn (w : World) (SC PC : List Value) (cs : List Cd) (sz : Int) (f0 f1 : Nat × Int) (rd : Nat) : Prop where
  fd : ∀ W, Ext w W → ∀ id : Nat, Calls Try.prog 27 #[.agg SC.toArray, .int .u64 (id : Int)] W fun e w' => e = .returned (.int .i64 (findM cs id)) ∧ Ext W w'
  fr0 : ∀ W, Ext w W → Calls Try.prog 24 #[.agg SC.toArray, .agg PC.toArray, .int .i64 0] W fun e w' => e = .returned (numErr f0) ∧ Ext W w'
  fr1 : ∀ W, Ext w W → Calls Try.prog 24 #[.agg SC.toArray, .agg PC.toArray, .int .i64 1] W fun e w' => e = .returned (numErr f1) ∧ Ext W w'
  sl : SC.length = 7
  pl : PC.length = 2
  s1 : SC[1]? = some (.int .u64 (rd : Int))
  big : (200 < rd ∨ 8 < List.length (α := Cd) cs) → sz = 8
  bad : ¬ (200 < rd ∨ 8 < List.length (α := Cd) cs) → badM cs 0 cs ≠ 0 → sz = badM cs 0 cs
  good : ¬ (200 < rd ∨ 8 < List.length (α := Cd) cs) → badM cs 0 cs = 0 → sz = if f0.2 ≠ 0 then f0.2 else f1.2
theorem badM_step (cs : List Cd) (k : Nat) (l : List Cd) (c : Cd) : badM cs k (c :: l) = if (c.2.1 ≠ 0 ∧ c.2.1 ≠ 1) ∨ c.2.2.1 = 0 then 1 else if findM cs c.1 ≠ k then 7 else badM cs (k + 1) l := rfl
set_option maxRecDepth 100000 in
set_option maxHeartbeats 8000000 in
theorem RSound1 (w : World) (SC PC : List Value) (v : Value) (cs : List Cd) (sz : Int) (f0 f1 : Nat × Int) (rd : Nat) (F : Fp) (hin : RSoundIn w SC PC cs sz f0 f1 rd) (s6 : SC[6]? = some v) (hc : Conds w F v cs) (hF : ∀ b, F b → b < w.heap.size) :
    Calls Try.prog 26 #[.agg SC.toArray, .agg PC.toArray] w fun e w' => e = .returned (.int .i64 sz) ∧ Ext w w' := by
  obtain ⟨A, c, xs, rfl, hlc, hcm, hA, hcell, hall⟩ := conds_open hc
  clear hc
  unfold maxLen at hcm
  have hz := rcond_zero
  have hzl : (condCells (0, 0, 0, List.replicate 32 0, 0, ())).length = 36 := rfl
  generalize condCells (0, 0, 0, List.replicate 32 0, 0, ()) = Z at hz hzl
  have HZL := Lib.hid hzl
  have HSL := Lib.hid hin.sl
  have HPL := Lib.hid hin.pl
  have HFD := Lib.hid hin.fd
  have HF0 := Lib.hid hin.fr0
  have HF1 := Lib.hid hin.fr1
  have hb0 : Blk ((w.alloc (.cells SC.toArray 27)).alloc (.cells PC.toArray 24)) w.heap.size 27 SC := (Blk.new _ _ _).keep ((Ext.refl _).alloc _) (by simp)
  have hb1 : Blk ((w.alloc (.cells SC.toArray 27)).alloc (.cells PC.toArray 24)) (w.heap.size + 1) 24 PC := Blk.new_at (by simp) _ _
  have hx0 : Ext w ((w.alloc (.cells SC.toArray 27)).alloc (.cells PC.toArray 24)) := ((Ext.refl w).alloc _).alloc _
  have c1 := (hb0.cell 1).trans hin.s1
  have c6 := (hb0.cell 6).trans s6
  have HB0 := Lib.hid hb0
  have HB1 := Lib.hid hb1
  have HX0 := Lib.hid hx0
  have HS6 := Lib.hid s6
  have HBIG := Lib.hid hin.big
  have HBAD := Lib.hid hin.bad
  have HGOOD := Lib.hid hin.good
  clear hzl hb0 hb1 hx0 hin s6
  by_cases hbig : 200 < rd ∨ 8 < List.length (α := Cd) cs
  · have HR := Lib.hid (HBIG.out hbig)
    by_cases h1 : 200 < rd
    · clear hbig
      go_enter Try.func26, Try.ntmps26
      go_wp2
      go_ret
      exact ⟨by rw [HR.out]; rfl, HX0.out⟩
    · have h2 : 8 < List.length (α := Cd) cs := by omega
      clear hbig
      go_enter Try.func26, Try.ntmps26
      go_wp2
      go_ret
      exact ⟨by rw [HR.out]; rfl, HX0.out⟩
  · have hr200 : rd ≤ 200 := by omega
    have hl8 : List.length (α := Cd) cs ≤ 8 := by omega
    have HBAD := Lib.hid (HBAD.out hbig)
    have HGOOD := Lib.hid (HGOOD.out hbig)
    clear HBIG hbig
    go_enter Try.func26, Try.ntmps26
    go_wp2
    go_loopw [5, 6] (fun i p wr => ∃ k : Nat, k ≤ List.length (α := Cd) cs ∧ i = .int .i64 k ∧ Ext ((w.alloc (.cells SC.toArray 27)).alloc (.cells PC.toArray 24)) wr ∧ badM cs 0 cs = badM cs k (cs.drop k) ∧ ∃ q, p = q) (fun i _ _ => List.length (α := Cd) cs - (intOf i).toNat)
    case atStart => exact ⟨0, by omega, rfl, Ext.refl _, rfl, _, rfl⟩
    case round =>
      clear c1 c6
      obtain ⟨k, hk, rfl, hx, hbd, q, rfl⟩ := hrel
      have c6 := ((HB0.out.keep hx (by simp)).cell 6).trans HS6.out
      by_cases hlt : k < List.length (α := Cd) cs
      · obtain ⟨ad, rfl, hf, hcells⟩ := hcell (by omega)
        obtain ⟨hcc, hok⟩ := conds_at hall (hcells.keep ((HX0.out.trans hx).same hF _ hf)) hlt
        have hd : cs.drop k = cs[k] :: cs.drop (k + 1) := List.drop_eq_getElem_cons hlt
        rw [hd, badM_step] at hbd
        have hfl := find_le cs k hlt
        generalize hck : cs[k] = ck at *
        have hcl := condCells_len hok
        have hone := condCells_one ck
        have k0 : (condCells ck)[0]? = some (.int .u64 (ck.1 : Int)) := rfl
        have k1 : (condCells ck)[1]? = some (.int .i64 ck.2.1) := rfl
        have k2 : (condCells ck)[2]? = some (.int .u64 (ck.2.2.1 : Int)) := rfl
        have HCL := Lib.hid hcl
        have HX := Lib.hid hx
        have HBD := Lib.hid hbd
        generalize condCells ck = C at *
        have hbC : Blk (wr.alloc (.cells C.toArray 30)) wr.heap.size 30 C := Blk.new _ _ _
        have q0 := (hbC.cell 0).trans k0
        have q1 := (hbC.cell 1).trans k1
        have q2 := (hbC.cell 2).trans k2
        have hfd := HFD.out (wr.alloc (.cells C.toArray 30)) ((HX0.out.trans hx).alloc _) ck.1
        have hcs := ((HB0.out.keep hx (by simp)).keep ((Ext.refl wr).alloc (.cells C.toArray 30)) (by simp)).cells
        have HFDC := Lib.hid hfd
        clear hcl hx hbd hcells hck hok hd hfd hbC
        by_cases hb1 : (ck.2.1 ≠ 0 ∧ ck.2.1 ≠ 1) ∨ ck.2.2.1 = 0
        · have hbd := HBD.out
          rw [if_pos hb1] at hbd
          have HR := Lib.hid (HBAD.out (by rw [hbd]; decide) |>.trans hbd)
          clear hbd
          by_cases e0 : ck.2.1 = 0
          · have hz0 : (ck.2.1 != 0) = false := by simpa using e0
            have ha : ((ck.2.2.1 : Int) == 0) = true := by have : ck.2.2.1 = 0 := by omega
                                                           rw [this]; rfl
            clear hb1 e0
            go_wp2_with (first
              | (refine wpList_load_agg _ rfl 30 (.tmp 29) rfl _ rfl C _ Try.underlying30 rfl (szDFrom HCL.out) hcc ?_)
              | (refine wpList_alloc _ rfl 30 rfl _ hz ?_)
              | (refine wpList_store_new _ rfl 30 (.tmp 6) (.tmp 30) rfl rfl Z C _ rfl (szDFrom HCL.out) (by rw [HCL.out, HZL.out]) hone ?_)
              | fail)
            go_ret
            exact ⟨by rw [HR.out]; rfl, (HX0.out.trans HX.out).alloc _⟩
          · have hz0 : (ck.2.1 != 0) = true := by simpa using e0
            by_cases e1 : ck.2.1 = 1
            · have hz1 : (ck.2.1 != 1) = false := by simpa using e1
              have ha : ((ck.2.2.1 : Int) == 0) = true := by have : ck.2.2.1 = 0 := by omega
                                                             rw [this]; rfl
              clear hb1 e0 e1
              go_wp2_with (first
                | (refine wpList_load_agg _ rfl 30 (.tmp 29) rfl _ rfl C _ Try.underlying30 rfl (szDFrom HCL.out) hcc ?_)
                | (refine wpList_alloc _ rfl 30 rfl _ hz ?_)
                | (refine wpList_store_new _ rfl 30 (.tmp 6) (.tmp 30) rfl rfl Z C _ rfl (szDFrom HCL.out) (by rw [HCL.out, HZL.out]) hone ?_)
                | fail)
              go_ret
              exact ⟨by rw [HR.out]; rfl, (HX0.out.trans HX.out).alloc _⟩
            · have hz1 : (ck.2.1 != 1) = true := by simpa using e1
              clear hb1 e0 e1
              go_wp2_with (first
                | (refine wpList_load_agg _ rfl 30 (.tmp 29) rfl _ rfl C _ Try.underlying30 rfl (szDFrom HCL.out) hcc ?_)
                | (refine wpList_alloc _ rfl 30 rfl _ hz ?_)
                | (refine wpList_store_new _ rfl 30 (.tmp 6) (.tmp 30) rfl rfl Z C _ rfl (szDFrom HCL.out) (by rw [HCL.out, HZL.out]) hone ?_)
                | fail)
              go_ret
              exact ⟨by rw [HR.out]; rfl, (HX0.out.trans HX.out).alloc _⟩
        · have hbd := HBD.out
          rw [if_neg hb1] at hbd
          have ha : ((ck.2.2.1 : Int) == 0) = false := by rw [beq_eq_false_iff_ne]; omega
          have hside : ck.2.1 = 0 ∨ ck.2.1 = 1 := by omega
          have HSIDE := Lib.hid hside
          generalize hfdz : findM cs ck.1 = fd at *
          clear hb1 hside HBD
          by_cases hfk : fd < k
          · rw [if_pos (by omega)] at hbd
            have HR := Lib.hid (HBAD.out (by rw [hbd]; decide) |>.trans hbd)
            clear hbd
            rcases HSIDE.out with e | e
            all_goals
              rw [e] at q1
              go_wp2_with (first
                | (refine wpList_load_agg _ rfl 30 (.tmp 29) rfl _ rfl C _ Try.underlying30 rfl (szDFrom HCL.out) hcc ?_)
                | (refine wpList_alloc _ rfl 30 rfl _ hz ?_)
                | (refine wpList_store_new _ rfl 30 (.tmp 6) (.tmp 30) rfl rfl Z C _ rfl (szDFrom HCL.out) (by rw [HCL.out, HZL.out]) hone ?_)
                | (refine wpList_load_agg _ rfl 27 (.tmp 2) rfl _ rfl SC _ Try.underlying27 rfl (szSFrom HSL.out) hcs ?_)
                | (go_at_call 27; refine HFDC.out.mono ?_; rintro e w5 ⟨rfl, hx5⟩)
                | fail)
              go_ret
              exact ⟨by rw [HR.out]; rfl, ((HX0.out.trans HX.out).alloc _).trans hx5⟩
          · have hfe : fd = k := by omega
            rw [if_neg (by omega)] at hbd
            have HBD := Lib.hid hbd
            clear hbd
            rcases HSIDE.out with e | e
            all_goals
              rw [e] at q1
              go_wp2_with (first
                | (refine wpList_load_agg _ rfl 30 (.tmp 29) rfl _ rfl C _ Try.underlying30 rfl (szDFrom HCL.out) hcc ?_)
                | (refine wpList_alloc _ rfl 30 rfl _ hz ?_)
                | (refine wpList_store_new _ rfl 30 (.tmp 6) (.tmp 30) rfl rfl Z C _ rfl (szDFrom HCL.out) (by rw [HCL.out, HZL.out]) hone ?_)
                | (refine wpList_load_agg _ rfl 27 (.tmp 2) rfl _ rfl SC _ Try.underlying27 rfl (szSFrom HSL.out) hcs ?_)
                | (go_at_call 27; refine HFDC.out.mono ?_; rintro e w5 ⟨rfl, hx5⟩)
                | fail)
              go_roundw
              case rel => exact ⟨k + 1, by omega, by go_num, (HX.out.alloc _).trans hx5, HBD.out, _, rfl⟩
              case measure => simp [intOf]; omega
      · obtain rfl : k = List.length (α := Cd) cs := by omega
        rw [List.drop_length] at hbd
        have hbd : badM cs 0 cs = 0 := hbd
        have HR := Lib.hid (HGOOD.out hbd)
        have HX := Lib.hid hx
        clear hbd hx
        go_wp2
        obtain ⟨w7, rfl⟩ : ∃ w7, w7 = wr := ⟨_, rfl⟩
        go_loopw [7, 8, 9] (fun i p q wr2 => ∃ k : Nat, k ≤ 2 ∧ i = .int .i64 k ∧ Ext w7 wr2 ∧ (k = 1 → f0.2 = 0) ∧ (k = 2 → f0.2 = 0 ∧ f1.2 = 0) ∧ (∃ x, p = x) ∧ ∃ y, q = y) (fun i _ _ _ => 2 - (intOf i).toNat)
        case atStart => exact ⟨0, by omega, rfl, Ext.refl _, by simp, by simp, ⟨_, rfl⟩, _, rfl⟩
        case round =>
          obtain ⟨k, hk, rfl, hx2, hk1, hk2, ⟨x, rfl⟩, y, rfl⟩ := hrel
          have hcs := (HB0.out.keep (HX.out.trans hx2) (by simp)).cells
          have hcp := (HB1.out.keep (HX.out.trans hx2) (by simp)).cells
          have hxx := HX0.out.trans (HX.out.trans hx2)
          have HXX := Lib.hid hxx
          have HX2 := Lib.hid hx2
          clear hxx hx2 c6
          rcases (by omega : k = 0 ∨ k = 1 ∨ k = 2) with rfl | rfl | rfl
          · have hfr := HF0.out wr HXX.out
            obtain ⟨fa, fe⟩ := f0
            simp only [numErr] at hfr HR
            have HFR := Lib.hid hfr
            clear hfr hk1 hk2 HF0 HF1
            by_cases hfe : fe = 0
            · have hfb : (fe != 0) = false := by simpa using hfe
              have HFE := Lib.hid hfe
              clear hfe
              go_wp2_with (first
                | (refine wpList_load_agg _ rfl 27 (.tmp 2) rfl _ rfl SC _ Try.underlying27 rfl (szSFrom HSL.out) hcs ?_)
                | (refine wpList_load_agg _ rfl 24 (.tmp 3) rfl _ rfl PC _ Try.underlying24 rfl (by rw [HPL.out]; kernel_rfl) hcp ?_)
                | (go_at_call 24; refine HFR.out.mono ?_; rintro e w5 ⟨rfl, hx5⟩)
                | fail)
              go_roundw
              case rel => exact ⟨1, by omega, by go_num, HX2.out.trans hx5, fun _ => HFE.out, by simp, ⟨_, rfl⟩, _, rfl⟩
              case measure => simp [intOf]
            · have hfb : (fe != 0) = true := by simpa using hfe
              have hR := HR.out
              rw [if_pos hfe] at hR
              have HR := Lib.hid hR
              clear hfe hR
              go_wp2_with (first
                | (refine wpList_load_agg _ rfl 27 (.tmp 2) rfl _ rfl SC _ Try.underlying27 rfl (szSFrom HSL.out) hcs ?_)
                | (refine wpList_load_agg _ rfl 24 (.tmp 3) rfl _ rfl PC _ Try.underlying24 rfl (by rw [HPL.out]; kernel_rfl) hcp ?_)
                | (go_at_call 24; refine HFR.out.mono ?_; rintro e w5 ⟨rfl, hx5⟩)
                | fail)
              go_ret
              exact ⟨by rw [HR.out]; rfl, HXX.out.trans hx5⟩
          · have hfr := HF1.out wr HXX.out
            have h0 := hk1 rfl
            obtain ⟨fa, fe⟩ := f1
            have hR := HR.out
            rw [if_neg (by omega)] at hR
            simp only [numErr] at hfr hR
            have HFR := Lib.hid hfr
            have HR1 : Hid (sz = fe) := Lib.hid hR
            have H0 := Lib.hid h0
            clear hfr hk1 hk2 HF0 HF1 hR h0
            by_cases hfe : fe = 0
            · have hfb : (fe != 0) = false := by simpa using hfe
              have HFE := Lib.hid hfe
              clear hfe
              go_wp2_with (first
                | (refine wpList_load_agg _ rfl 27 (.tmp 2) rfl _ rfl SC _ Try.underlying27 rfl (szSFrom HSL.out) hcs ?_)
                | (refine wpList_load_agg _ rfl 24 (.tmp 3) rfl _ rfl PC _ Try.underlying24 rfl (by rw [HPL.out]; kernel_rfl) hcp ?_)
                | (go_at_call 24; refine HFR.out.mono ?_; rintro e w5 ⟨rfl, hx5⟩)
                | fail)
              go_roundw
              case rel => exact ⟨2, by omega, by go_num, HX2.out.trans hx5, by simp, fun _ => ⟨H0.out, HFE.out⟩, ⟨_, rfl⟩, _, rfl⟩
              case measure => simp [intOf]
            · have hfb : (fe != 0) = true := by simpa using hfe
              clear hfe
              go_wp2_with (first
                | (refine wpList_load_agg _ rfl 27 (.tmp 2) rfl _ rfl SC _ Try.underlying27 rfl (szSFrom HSL.out) hcs ?_)
                | (refine wpList_load_agg _ rfl 24 (.tmp 3) rfl _ rfl PC _ Try.underlying24 rfl (by rw [HPL.out]; kernel_rfl) hcp ?_)
                | (go_at_call 24; refine HFR.out.mono ?_; rintro e w5 ⟨rfl, hx5⟩)
                | fail)
              go_ret
              exact ⟨by rw [HR1.out]; rfl, HXX.out.trans hx5⟩
          · have hR := HR.out
            rw [if_neg (by have := (hk2 rfl).1; omega), (hk2 rfl).2] at hR
            have HR := Lib.hid hR
            clear hk1 hk2 hR
            go_wp2
            go_ret
            exact ⟨by rw [HR.out]; rfl, HXX.out⟩
end Go.Proofs.Ytnpolfihbfdggaa

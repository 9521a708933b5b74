/- Walk of the law PactWhole. Conditions: the numbers are in their bounds. -/
import Derived.Test.YtnpolfihbfdggaaPSplitC
import Derived.Test.YtnpolfihbfdggaaPKeeps
set_option linter.unusedVariables false
set_option linter.unusedSimpArgs false
set_option linter.unnecessarySimpa false
namespace Go.Proofs.Ytnpolfihbfdggaa
open Go.RowKit

theorem addM_lt (a b : Nat) : (addM a b).1 < M64 := by
  unfold addM
  split
  · assumption
  · decide
theorem addM_val {a b : Nat} (h : (addM a b).2 = 0) : (addM a b).1 = a + b := by
  unfold addM at h ⊢
  split at h
  · rename_i h1; rw [if_pos h1]
  · cases h
theorem keep_alloc {w wr : World} {g5 : Nat} {PC : List Value} {p0 p1 : Nat} {s : St} {v : Value} (h : KeepInv w wr g5 PC p0 p1 s v) (o : Obj) : KeepInv w (wr.alloc o) g5 PC p0 p1 s v :=
  ⟨h.ext.alloc _, h.pc.keep ((Ext.refl _).alloc _) (by simp), h.st.keep ((Ext.refl _).alloc _) (by simp), h.own.ext ((Ext.refl _).alloc _), h.far, h.ok, h.snd⟩
set_option maxRecDepth 100000 in
set_option maxHeartbeats 8000000 in
theorem Whole1 (p0 p1 q0 q1 : Nat) (ops : List WishT.Data) (fl : List Bool) (A : Option Addr) (c : Nat) (dv : Value) (w : World) (F : Fp) (PC MC Z ZO : List Value) (hPC : ptc p0 p1 = PC) (hMC : ptc q0 q1 = MC) (hp0 : p0 < M64) (hp1 : p1 < M64) (hq0 : q0 < M64) (hq1 : q1 < M64) (hl : (Ty.sl WishT).holds w F [.slice A (List.length (α := WishT.Data) ops) c] ops) (hfl : (Ty.sl .bool).holds w F [dv] fl) (hF : ∀ b, F b → b < w.heap.size)
    (hz : (Try.prog.info? 36).bind (fun i => i.zero.map (·.cells)) = some Z.toArray) (hzl : Z.length = 7) (hzo : (Try.prog.info? 32).bind (fun i => i.zero.map (·.cells)) = some ZO.toArray) (hzol : ZO.length = 39) :
    Calls Try.prog 8 #[.agg PC.toArray, .agg MC.toArray, .slice A (List.length (α := WishT.Data) ops) c, dv] w fun e w' => e = .returned (.bool true) ∧ Ext w w' := by
  obtain ⟨A', c', xs, hv, hlc, hcm, hA, hcell, hall⟩ := hl
  cases hv
  obtain ⟨B, d, ys, hdv, hld, hdm, hB, hcel2, hal2⟩ := hfl
  cases hdv
  unfold maxLen at hcm hdm
  have hpl : PC.length = 2 := by rw [← hPC]; rfl
  have hml : MC.length = 2 := by rw [← hMC]; rfl
  have HPL := Lib.hid hpl
  have HML := Lib.hid hml
  have HPC := Lib.hid hPC
  have HMC := Lib.hid hMC
  have HZL := Lib.hid hzl
  have HZOL := Lib.hid hzol
  have HALL := Lib.hid hall
  clear hpl hml hPC hMC hzl hzol hall
  go_enter Try.func8, Try.ntmps8
  go_wp2_with (first
    | (go_at_call 16; refine (New 1 _ (by decide)).mono ?_; rintro e w1 ⟨rfl, hx1⟩)
    | (refine wpList_alloc _ rfl 36 rfl _ hz ?_)
    | (refine wpList_store_new _ rfl 36 (.tmp 9) (.tmp 29) rfl rfl Z (stc s1 (.slice none 0 0)) _ rfl (state_size rfl) (by rw [HZL.out]; rfl) (stc_one _ _ _ _) ?_)
    | fail)
  have hI : KeepInv w (w1.alloc (.cells (stc s1 (.slice none 0 0)).toArray 36)) w1.heap.size PC p0 p1 s1 (.slice none 0 0) := by
    refine ⟨((((Ext.refl w).alloc _).alloc _).trans hx1).alloc _, (((Blk.new w _ PC).keep ((Ext.refl _).alloc _) (by simp)).keep hx1 (by simp)).keep ((Ext.refl _).alloc _) (by simp), Blk.new _ _ _, ⟨by simp [s1, St.zero], Own.nil _ _ _⟩, by simp [Value.ownBlock], s1_ok, ?_⟩
    simp [soundM, s1, St.zero, badM, freeM, heldM, ams, sumM, pick2, subL, hp0, hp1]
  have hmb : Blk (w1.alloc (.cells (stc s1 (.slice none 0 0)).toArray 36)) (w.heap.size + 1) 24 MC := ((Blk.new_at (w := w.alloc (.cells PC.toArray 24)) (by simp) _ _).keep hx1 (by simp)).keep ((Ext.refl _).alloc _) (by simp)
  have hg5 : w.heap.size + 2 ≤ w1.heap.size := by have := hx1.size; simpa using this
  generalize w1.alloc (.cells (stc s1 (.slice none 0 0)).toArray 36) = wI at *
  generalize w1.heap.size = g5 at *
  have HI := Lib.hid hI
  have HMB := Lib.hid hmb
  clear hI hx1 hmb
  go_loopw [10, 11, 12, 13, 32] (fun _ _ _ _ i wr => ∃ (k : Nat) (s : St) (v : Value), k ≤ List.length (α := WishT.Data) ops ∧ i = .int .i64 k ∧ KeepInv w wr g5 PC p0 p1 s v ∧ Blk wr (w.heap.size + 1) 24 MC) (fun _ _ _ _ i _ => List.length (α := WishT.Data) ops - (intOf i).toNat)
  case atStart => exact ⟨0, _, _, by omega, rfl, HI.out, HMB.out⟩
  case round =>
    clear HI HMB
    obtain ⟨k, s, v, hk, rfl, hI, hmb⟩ := hrel
    have HMB := Lib.hid hmb
    clear hmb
    by_cases hlt : k < List.length (α := WishT.Data) ops
    · obtain ⟨ad, rfl, hf, hcells⟩ := hcell (by intro h; rw [h] at hlt; exact absurd hlt (Nat.not_lt_zero _))
      obtain ⟨o, hoc, hok, ham, hid, hkw⟩ := wishes_at HALL.out (hcells.keep (hI.ext.same hF _ hf)) hlt
      have hol := wishCells_len hok
      have hone := wish_one o
      have HOL := Lib.hid hol
      have ho3 : (wishCells o)[3]? = some (.int .i64 o.c.2.1) := rfl
      generalize hOC : wishCells o = OC at *
      have HOC := Lib.hid hOC
      clear hOC hol hcells
      obtain ⟨XC, hXC⟩ : ∃ XC, XC = stc s v := ⟨_, rfl⟩
      obtain ⟨rd, hrd⟩ : ∃ rd, rd = s.round := ⟨_, rfl⟩
      have hr200 : rd ≤ 200 := by rw [hrd]; exact (sound_zero hI.snd).1
      have hw1 : IntKind.u64.wrap ((rd : Int) + 1) = ((rd + 1 : Nat) : Int) := by have h := wrap_u64n rd 1; rw [Nat.mod_eq_of_lt (by omega)] at h; exact h
      obtain ⟨r1, hr1⟩ : ∃ r1, r1 = rd + 1 := ⟨_, rfl⟩
      rw [← hr1] at hw1
      have HR1 := Lib.hid hr1
      have d1 : (wr.alloc (.cells OC.toArray 32)).cell? ⟨g5, 1, none⟩ = some (.int .u64 (rd : Int)) := ((hI.st.keep ((Ext.refl wr).alloc _) (by simp)).cell 1).trans (by rw [hrd]; rfl)
      have hbO : Blk (wr.alloc (.cells OC.toArray 32)) wr.heap.size 32 OC := Blk.new _ _ _
      have c3 := (hbO.cell 3).trans ho3
      have f3 := hbO.free 3
      have hb01 := turn_side (rd + 1)
      have htn : ∀ W, Calls Try.prog 17 #[.int .u64 (r1 : Int)] W fun e w' => e = .returned (.int .i64 (turnM (rd + 1))) ∧ W = w' := fun W => by
        rw [hr1]
        exact Turn (rd + 1) W (by unfold M64; omega)
      obtain ⟨b, hb⟩ : ∃ b, b = turnM (rd + 1) := ⟨_, rfl⟩
      rw [← hb] at htn hb01
      have HTN := Lib.hid htn
      have HB := Lib.hid hb
      have HB01 := Lib.hid hb01
      have HI := Lib.hid hI
      have HXC := Lib.hid hXC
      have HRD := Lib.hid hrd
      have HR200 := Lib.hid hr200
      clear htn hI hXC hb hb01 hrd hbO ho3 hr200 hr1
      by_cases h40 : 40 ≤ k
      · have HXLB : Hid (XC.length = 7) := by rw [HXC.out]; rfl
        have hcsB : Cells (wr.alloc (.cells OC.toArray 32)) ⟨g5, 0, none⟩ XC := by rw [HXC.out]; exact (HI.out.st.keep ((Ext.refl wr).alloc _) (by simp)).cells
        have hcpB := (HI.out.pc.keep ((Ext.refl wr).alloc (.cells OC.toArray 32)) (by simp)).cells
        go_wp2_with (first
          | (refine wpList_load_agg _ rfl 32 (.tmp 35) rfl _ rfl OC _ Try.underlying32 rfl (rop_size HOL.out) hoc ?_)
          | (refine wpList_alloc _ rfl 32 rfl _ hzo ?_)
          | (refine wpList_store_new _ rfl 32 (.tmp 11) (.tmp 36) rfl rfl ZO OC _ rfl (rop_size HOL.out) (by rw [HOL.out, HZOL.out]) hone ?_)
          | (refine wpList_load_agg _ rfl 36 (.tmp 9) rfl _ rfl XC _ Try.underlying36 rfl (state_size HXLB.out) hcsB ?_)
          | (refine wpList_load_agg _ rfl 24 (.tmp 4) rfl _ rfl PC _ Try.underlying24 rfl (z2_size HPL.out) hcpB ?_)
          | fail)
        have hIV := keep_alloc HI.out (.cells OC.toArray 32)
        have hmV := HMB.out.keep ((Ext.refl wr).alloc (.cells OC.toArray 32)) (by simp)
        clear HI HMB HTN HB HB01 HRD d1 c3 f3 hoc HOC HOL hone hok ham hid hkw hcsB hcpB HXLB
        generalize wr.alloc (.cells OC.toArray 32) = V at *
        have h8 := (sound_zero hIV.snd).2.1
        have hsn : Calls Try.prog 25 #[.agg XC.toArray, .agg PC.toArray] V fun e w' => e = .returned (.int .i64 0) ∧ Ext V w' := by
          rw [HXC.out, ← HPC.out]
          have h := Sound s v p0 p1 V _ hIV.ok hp0 hp1 (OwnC.holds hIV.own) (OwnC.lt hIV.own) (by omega)
          rw [hIV.snd] at h
          exact h
        refine hsn.mono ?_
        rintro e w1 ⟨rfl, hx1⟩
        obtain ⟨Av, cv, hvf⟩ := hIV.own.form
        have c6 : w1.cell? ⟨g5, 6, none⟩ = some (.slice Av (List.length (α := Cd) s.cs) cv) := ((hIV.st.keep hx1 (by simp)).cell 6).trans (by rw [hvf]; rfl)
        have HIV := Lib.hid hIV
        have HMV := Lib.hid hmV
        have HX1 := Lib.hid hx1
        have hxw1 := hIV.ext.trans hx1
        have HXW1 := Lib.hid hxw1
        obtain ⟨ib, hib, hzb0, hzb1, hzb2⟩ := info_parts bool_info
        clear hIV hmV hx1 hxw1 hsn
        go_wp2
        go_loopw [14, 15, 68] (fun l _ j wr => ∃ (n : Nat) (ds : List Bool), n ≤ List.length (α := Cd) s.cs ∧ ds.length = n ∧ j = .int .i64 n ∧ Ext w1 wr ∧ OwnF wr l ds ∧ ∀ b, l.ownBlock = some b → w1.heap.size ≤ b) (fun _ _ j _ => List.length (α := Cd) s.cs - (intOf j).toNat)
        case atStart => exact ⟨0, [], by omega, rfl, rfl, Ext.refl _, Own.nil _ _ _, by simp [Value.ownBlock]⟩
        case round =>
          clear c6
          obtain ⟨n, ds, hn, hdl, rfl, hx, ho, hap⟩ := hrel
          by_cases hltn : n < List.length (α := Cd) s.cs
          · by_cases hnf : n < fl.length
            · obtain ⟨bd, rfl, hf2, hcells2⟩ := hcel2 (by intro h; have := congrArg List.length h; simp only [List.length_nil] at this; omega)
              have qd := (hcells2.keep ((HXW1.out.trans hx).same hF _ hf2)) n _ (AllH.bool_at hal2 hnf)
              generalize fl[n] = db at *
              have HO := Lib.hid ho
              have HX := Lib.hid hx
              clear ho hx hcells2
              go_wp2_with (first
                | (at_builtin; refine wpList_app _ rfl (.tmp 71) (.tmp 82) _ _ rfl _ _ ib _ 1 1 Try.underlying76 Try.underlying76 hib hzb0 hzb1 hzb2 rfl (by decide) u14 _ _ rfl (Own.ext HO.out ((Ext.refl wr).alloc _)) _ 1 1 [Value.bool db] rfl rfl (src_new_at rfl [Value.bool db] _ 1) (by simp [Value.oneCell']) (by unfold maxLen; omega) (by omega) ?_; intro v4 wB ho4 hm4)
                | fail)
              have hx4 : Ext w1 wB := grown_then (HX.out.alloc (.cells #[Value.bool db] 4)) hm4.grown (.inr hap)
              have hap4 : ∀ b, v4.ownBlock = some b → w1.heap.size ≤ b := fun b hb => by
                rcases hm4.at_ with e | h
                · exact hap b (by rw [← e]; exact hb)
                · have h1 := h b hb; have h2 := HX.out.size; simp at h1; omega
              go_wp2
              go_roundw
              case rel => exact ⟨n + 1, ds ++ [db], by omega, by simp; omega, by go_num, hx4, by unfold OwnF; rw [List.length_append, List.map_append]; exact ho4, hap4⟩
              case measure => simp [intOf]; omega
            · have HO := Lib.hid ho
              have HX := Lib.hid hx
              clear ho hx
              go_wp2_with (first
                | (at_builtin; refine wpList_app _ rfl (.tmp 71) (.tmp 82) _ _ rfl _ _ ib _ 1 1 Try.underlying76 Try.underlying76 hib hzb0 hzb1 hzb2 rfl (by decide) u14 _ _ rfl (Own.ext HO.out ((Ext.refl wr).alloc _)) _ 1 1 [Value.bool false] rfl rfl (src_new_at rfl [Value.bool false] _ 1) (by simp [Value.oneCell']) (by unfold maxLen; omega) (by omega) ?_; intro v4 wB ho4 hm4)
                | fail)
              have hx4 : Ext w1 wB := grown_then (HX.out.alloc (.cells #[Value.bool false] 4)) hm4.grown (.inr hap)
              have hap4 : ∀ b, v4.ownBlock = some b → w1.heap.size ≤ b := fun b hb => by
                rcases hm4.at_ with e | h
                · exact hap b (by rw [← e]; exact hb)
                · have h1 := h b hb; have h2 := HX.out.size; simp at h1; omega
              go_wp2
              go_roundw
              case rel => exact ⟨n + 1, ds ++ [false], by omega, by simp; omega, by go_num, hx4, by unfold OwnF; rw [List.length_append, List.map_append]; exact ho4, hap4⟩
              case measure => simp [intOf]; omega
          · obtain rfl : n = List.length (α := Cd) s.cs := by omega
            have hxv := HX1.out.trans hx
            have hst := HIV.out.st.keep hxv (by simp)
            have hpc := HIV.out.pc.keep hxv (by simp)
            have hmc := HMV.out.keep hxv (by simp)
            have hov := HIV.out.own.ext hxv
            have a0 : wr.cell? ⟨w.heap.size, 0, none⟩ = some (.int .u64 (p0 : Int)) := (hpc.cell 0).trans (by rw [← HPC.out]; rfl)
            have a1 : wr.cell? ⟨w.heap.size, 1, none⟩ = some (.int .u64 (p1 : Int)) := (hpc.cell 1).trans (by rw [← HPC.out]; rfl)
            have hadd := RAdd p0 p1 wr hp0 hp1
            obtain ⟨sp, hsp⟩ : ∃ sp, sp = splitM (outM s p0 p1 (s.cs.zip ds) 0) (outM s p0 p1 (s.cs.zip ds) 1) := ⟨_, rfl⟩
            have hspl := SplitC s v u14 p0 p1 ds wr (fun b => v.ownBlock = some b ∨ u14.ownBlock = some b) HIV.out.ok HIV.out.snd hp0 hp1 (Ty.keep (fun _ _ => rfl) (fun b hb => .inl hb) _ (OwnC.holds hov)) (Ty.keep (fun _ _ => rfl) (fun b hb => .inr hb) _ (ownF_holds ho)) (fun b hb => hb.elim (OwnC.lt hov b) (OwnF.lt ho b)) (by omega)
            rw [← hsp] at hspl
            have hxl : XC.length = 7 := by rw [HXC.out]; rfl
            rw [← HXC.out] at hst
            rw [← HXC.out, HPC.out] at hspl
            have hospl : p0 + p1 < M64 → sp.2.2 = 0 ∧ sp.1 + sp.2.1 = p0 + p1 := fun h => by
              obtain ⟨k0, k1, k2⟩ := out_sum HIV.out.snd hdl.symm h
              have e : sp = ((outM s p0 p1 (s.cs.zip ds) 0).1, (outM s p0 p1 (s.cs.zip ds) 1).1, 0) := by rw [hsp]; unfold splitM; rw [if_neg (by omega), if_neg (by omega)]
              rw [e]
              exact ⟨rfl, k2⟩
            obtain ⟨sa, sb, se⟩ := sp
            simp only at hspl hospl
            have hspl : Calls Try.prog 32 #[.agg XC.toArray, .agg PC.toArray, .agg (ptc 0 0).toArray, u14] wr fun e w' => e = .returned (.tuple #[.agg #[.int .u64 (sa : Int), .int .u64 (sb : Int)], .int .i64 se]) ∧ Ext wr w' := hspl
            have hcs := hst.cells
            have hcp := hpc.cells
            have hxw := HXW1.out.trans hx
            have HXL := Lib.hid hxl
            have HSPL := Lib.hid hspl
            have HOS := Lib.hid hospl
            have HST := Lib.hid hst
            have HPB := Lib.hid hpc
            have HMB := Lib.hid hmc
            have HOV := Lib.hid hov
            have HXW := Lib.hid hxw
            clear hsp hspl hospl hst hpc hmc hov hxw hxl ho hx hxv hap HXW1 HX1
            by_cases hpp : p0 + p1 < M64
            · have ea : addM p0 p1 = (p0 + p1, 0) := by unfold addM; rw [if_pos hpp]
              rw [ea] at hadd
              simp only [numErr] at hadd
              obtain ⟨rfl, hsum⟩ := HOS.out hpp
              have HADD := Lib.hid hadd
              have hsab : sa < M64 ∧ sb < M64 := by omega
              have hadd2 := fun W => RAdd sa sb W hsab.1 hsab.2
              have ea2 : addM sa sb = (sa + sb, 0) := by unfold addM; rw [if_pos (by omega)]
              rw [ea2, hsum] at hadd2
              simp only [numErr] at hadd2
              have HADD2 := Lib.hid hadd2
              generalize hall : p0 + p1 = all at *
              clear hadd ea hadd2 ea2 HOS hsum hall
              go_wp2_with (first
                | (refine wpList_load_agg _ rfl 36 (.tmp 9) rfl _ rfl XC _ Try.underlying36 rfl (state_size HXL.out) hcs ?_)
                | (refine wpList_load_agg _ rfl 24 (.tmp 4) rfl _ rfl PC _ Try.underlying24 rfl (z2_size HPL.out) hcp ?_)
                | (refine wpList_build (.inl rfl) 24 _ rfl (.agg (ptc 0 0).toArray) (by kernel_rfl) ?_)
                | (go_at_call 31; refine HADD.out.mono ?_; rintro e _ ⟨rfl, rfl⟩)
                | fail)
              refine HSPL.out.mono ?_
              rintro e w3 ⟨rfl, hx3⟩
              have hxq : Ext wr (w3.alloc (.cells #[.int .u64 (sa : Int), .int .u64 (sb : Int)] 24)) := hx3.alloc _
              have b0 : (w3.alloc (.cells #[.int .u64 (sa : Int), .int .u64 (sb : Int)] 24)).cell? ⟨w.heap.size, 0, none⟩ = some (.int .u64 (p0 : Int)) := World.grownBy.cell hxq a0 (by simp)
              have b1 : (w3.alloc (.cells #[.int .u64 (sa : Int), .int .u64 (sb : Int)] 24)).cell? ⟨w.heap.size, 1, none⟩ = some (.int .u64 (p1 : Int)) := World.grownBy.cell hxq a1 (by simp)
              have d0 : (w3.alloc (.cells #[.int .u64 (sa : Int), .int .u64 (sb : Int)] 24)).cell? ⟨w.heap.size + 1, 0, none⟩ = some (.int .u64 (q0 : Int)) := ((HMB.out.keep hxq (by simp)).cell 0).trans (by rw [← HMC.out]; rfl)
              have d1 : (w3.alloc (.cells #[.int .u64 (sa : Int), .int .u64 (sb : Int)] 24)).cell? ⟨w.heap.size + 1, 1, none⟩ = some (.int .u64 (q1 : Int)) := ((HMB.out.keep hxq (by simp)).cell 1).trans (by rw [← HMC.out]; rfl)
              have hA := fun W => RAdd p0 q0 W hp0 hq0
              have hB := fun W => RAdd p1 q1 W hp1 hq1
              have hAl := addM_lt p0 q0
              have hBl := addM_lt p1 q1
              have hAz : (addM p0 q0).2 = 0 → (addM p0 q0).1 = p0 + q0 := addM_val
              have hBz : (addM p1 q1).2 = 0 → (addM p1 q1).1 = p1 + q1 := addM_val
              generalize addM p0 q0 = ra at *
              generalize addM p1 q1 = rb at *
              obtain ⟨a, ea⟩ := ra
              obtain ⟨b', eb⟩ := rb
              simp only [numErr] at hA hB hAl hBl hAz hBz
              have hC := fun W => RAdd a b' W hAl hBl
              generalize addM a b' = rc at *
              obtain ⟨c3', ec⟩ := rc
              simp only [numErr] at hC
              have HA := Lib.hid hA
              have HB := Lib.hid hB
              have HC := Lib.hid hC
              have HAZ := Lib.hid hAz
              have HBZ := Lib.hid hBz
              have HXQ := Lib.hid hxq
              have hcsq := (HST.out.keep hxq (by simp)).cells
              clear hA hB hC hAz hBz hx3 hcs hcp a0 a1 hxq
              go_wp2_with fail
              refine (HADD2.out _).mono ?_
              rintro e _ ⟨rfl, rfl⟩
              go_wp2_with fail
              refine (HA.out _).mono ?_
              rintro e _ ⟨rfl, rfl⟩
              go_wp2_with fail
              refine (HB.out _).mono ?_
              rintro e _ ⟨rfl, rfl⟩
              go_wp2_with fail
              refine (HC.out _).mono ?_
              rintro e _ ⟨rfl, rfl⟩
              by_cases hea : ea = 0
              · have zea : (ea != 0) = false := by simpa using hea
                by_cases heb : eb = 0
                · have zeb : (eb != 0) = false := by simpa using heb
                  by_cases hec : ec = 0
                  · have zec : (ec != 0) = false := by simpa using hec
                    have hsm := sound_more (s := s) (p0 := p0) (p1 := p1) (a := a) (b := b') HIV.out.snd (by rw [HAZ.out hea]; omega) (by rw [HBZ.out heb]; omega)
                    have hsn2 : Calls Try.prog 25 #[.agg XC.toArray, .agg #[.int .u64 (a : Int), .int .u64 (b' : Int)]] (w3.alloc (.cells #[.int .u64 (sa : Int), .int .u64 (sb : Int)] 24)) fun e w' => e = .returned (.int .i64 (soundM s a b')) ∧ Ext (w3.alloc (.cells #[.int .u64 (sa : Int), .int .u64 (sb : Int)] 24)) w' := by
                      rw [HXC.out]
                      exact Sound s v a b' _ _ HIV.out.ok hAl hBl (OwnC.holds (HOV.out.ext HXQ.out)) (OwnC.lt (HOV.out.ext HXQ.out)) (by omega)
                    have HSN2 := Lib.hid hsn2
                    generalize soundM s a b' = zz at *
                    clear hsn2 hea heb hec
                    rcases hsm with rfl | rfl
                    all_goals
                      go_wp2_with (first
                        | (refine wpList_load_agg _ rfl 36 (.tmp 9) rfl _ rfl XC _ Try.underlying36 rfl (state_size HXL.out) hcsq ?_)
                        | (go_at_call 25; refine HSN2.out.mono ?_; rintro e w8 ⟨rfl, hx8⟩)
                        | (go_at_call 9; refine (Awake _).mono ?_; rintro e w9 ⟨rfl, hx9⟩)
                        | fail)
                      go_ret
                      exact ⟨rfl, HXW.out.trans (HXQ.out.trans (hx8.trans hx9))⟩
                  · have zec : (ec != 0) = true := by simpa using hec
                    clear hec
                    go_wp2_with (first
                      | (go_at_call 9; refine (Awake _).mono ?_; rintro e w9 ⟨rfl, hx9⟩)
                      | fail)
                    go_ret
                    exact ⟨rfl, HXW.out.trans (HXQ.out.trans hx9)⟩
                · have zeb : (eb != 0) = true := by simpa using heb
                  clear heb
                  go_wp2_with (first
                    | (go_at_call 9; refine (Awake _).mono ?_; rintro e w9 ⟨rfl, hx9⟩)
                    | fail)
                  go_ret
                  exact ⟨rfl, HXW.out.trans (HXQ.out.trans hx9)⟩
              · have zea : (ea != 0) = true := by simpa using hea
                clear hea
                go_wp2_with (first
                  | (go_at_call 9; refine (Awake _).mono ?_; rintro e w9 ⟨rfl, hx9⟩)
                  | fail)
                go_ret
                exact ⟨rfl, HXW.out.trans (HXQ.out.trans hx9)⟩
            · have ea : addM p0 p1 = (0, 11) := by unfold addM; rw [if_neg hpp]
              rw [ea] at hadd
              simp only [numErr] at hadd
              have HADD := Lib.hid hadd
              clear hadd ea HOS hpp
              go_wp2_with (first
                | (refine wpList_load_agg _ rfl 36 (.tmp 9) rfl _ rfl XC _ Try.underlying36 rfl (state_size HXL.out) hcs ?_)
                | (refine wpList_load_agg _ rfl 24 (.tmp 4) rfl _ rfl PC _ Try.underlying24 rfl (z2_size HPL.out) hcp ?_)
                | (refine wpList_build (.inl rfl) 24 _ rfl (.agg (ptc 0 0).toArray) (by kernel_rfl) ?_)
                | (go_at_call 31; refine HADD.out.mono ?_; rintro e _ ⟨rfl, rfl⟩)
                | (go_at_call 32; refine HSPL.out.mono ?_; rintro e w3 ⟨rfl, hx3⟩)
                | (go_at_call 9; refine (Awake _).mono ?_; rintro e w9 ⟨rfl, hx9⟩)
                | fail)
              go_ret
              exact ⟨rfl, HXW.out.trans ((hx3.alloc _).trans hx9)⟩
      · go_wp2_with (first
          | (refine wpList_load_agg _ rfl 32 (.tmp 35) rfl _ rfl OC _ Try.underlying32 rfl (rop_size HOL.out) hoc ?_)
          | (refine wpList_alloc _ rfl 32 rfl _ hzo ?_)
          | (refine wpList_store_new _ rfl 32 (.tmp 11) (.tmp 36) rfl rfl ZO OC _ rfl (rop_size HOL.out) (by rw [HOL.out, HZOL.out]) hone ?_)
          | (go_at_call 17; refine (HTN.out _).mono ?_; rintro e _ ⟨rfl, rfl⟩)
          | fail)
        obtain ⟨o', ho'⟩ : ∃ o' : Wish, o' = { o with c := (o.c.1, b, o.c.2.2) } := ⟨_, rfl⟩
        have hset : OC.set 3 (.int .i64 b) = wishCells o' := by rw [← HOC.out, ho']; rfl
        have hok' : CondOk o'.c := by rw [ho']; exact ⟨hok.id, by rcases HB01.out with e | e <;> (show (Lit.int .i64 b).wf = true; rw [e]; decide), hok.am, hok.hash, hok.exp⟩
        have ham' : o'.am < M64 := by rw [ho']; exact ham
        have hdl := wishCells_len hok'
        have hop := fun W => Op12 o' W hok'
        rw [hset]
        have hnx : NextJ Z XC PC (wishCells o') v s.cs b (nextM s p0 p1 b o').1 (nextM s p0 p1 b o').2 := by
          intro w0 al W ho hJ
          have h8 := (sound_zero HI.out.snd).2.1
          rw [HXC.out, ← HPC.out]
          refine (Next s v p0 p1 b o' W _ HI.out.ok hp0 hp1 hok' ham' (OwnC.holds (ho.ext hJ.ext)) (OwnC.lt (ho.ext hJ.ext)) (by omega)).mono ?_
          rintro e w' ⟨v2, rfl, ho2, hx, hn⟩
          exact ⟨_, v2, rfl, rfl, hJ.own' hx ho2 hn⟩
        obtain ⟨n, hn⟩ : ∃ n, n = (nextM s p0 p1 b o').1 := ⟨_, rfl⟩
        obtain ⟨z, hz'⟩ : ∃ z, z = (nextM s p0 p1 b o').2 := ⟨_, rfl⟩
        have e0 : (wishCells o')[0]? = some (.int .i64 o'.kind) := rfl
        have e38 := wish_38 hok'
        rw [← hn, ← hz'] at hnx
        generalize hDC : wishCells o' = DC at *
        have HDC := Lib.hid hDC
        have HN := Lib.hid hn
        have HZ' := Lib.hid hz'
        have HDL := Lib.hid hdl
        have HOP := Lib.hid hop
        have HN1 := Lib.hid hnx
        have HOK' := Lib.hid hok'
        have HO' := Lib.hid ho'
        have hXI : Ext wr (wr.alloc (.cells DC.toArray 32)).drew := ((Ext.refl wr).alloc _).drew
        have hb2 : Blk (wr.alloc (.cells DC.toArray 32)).drew wr.heap.size 32 DC := Blk.new wr _ _
        have hgw : g5 < wr.heap.size := HI.out.st.lt
        have hgp : w.heap.size < wr.heap.size := HI.out.pc.lt
        have hvw : ∀ b, v.ownBlock = some b → b < wr.heap.size := HI.out.own.lt
        refine startM (KeepB fun b => b < (wr.alloc (.cells DC.toArray 32)).drew.heap.size) (by kernel_rfl) ?_
        generalize (wr.alloc (.cells DC.toArray 32)).drew = w0 at *
        generalize wr.heap.size = g7 at *
        have hbx := HI.out.st.keep hXI (by simp)
        rw [← HXC.out] at hbx
        have hb1 := HI.out.pc.keep hXI (by simp)
        have hov2 := HI.out.own.ext hXI
        have hx3 := HI.out.ext.trans hXI
        have hxl : XC.length = 7 := by rw [HXC.out]; rfl
        have x1 : XC[1]? = some (.int .u64 (rd : Int)) := by rw [HXC.out, HRD.out]; rfl
        have HXL := Lib.hid hxl
        have hcx := hbx.cells
        have hcp := hb1.cells
        have hco := hb2.cells
        have HBX := Lib.hid hbx
        have HBP := Lib.hid hb1
        have HBO := Lib.hid hb2
        have HCX := Lib.hid hcx
        have HCP := Lib.hid hcp
        have HCO := Lib.hid hco
        have HOX := Lib.hid hov2
        have HX3 := Lib.hid hx3
        have hJ := NJ.start w0 Z
        have HJ := Lib.hid hJ
        have HVW := Lib.hid hvw
        have HMB0 := Lib.hid (HMB.out.keep hXI (by simp))
        clear hbx hb1 hb2 hcx hcp hco hov2 hx3 hJ d1 c3 f3 hDC hn hz' hdl hop hnx hok' ho' hvw hXI hxl
        apply sharedL (fun g R W => ∃ v2, R = stc n v2 ∧ NJ w0 Z (some g) W v2 n.cs)
        · intro hM
          refine takeK 0 rfl (by kernel_rfl) (by kernel_rfl) (by kernel_rfl) rfl (fun _ _ _ _ h => h) rfl (fun K hK => ?_)
          refine quiet_agg 36 (.tmp 9) rfl _ rfl XC _ Try.underlying36 rfl (state_size HXL.out) (fun W' h => KeepB.cells h HCX.out (HBX.out.lt)) ?_
          refine hK _ ?_
          simp only [Act.put, List.setIfInBounds_toArray, List.set_cons_succ, List.set_cons_zero]
          clear hK K
          refine takeK 1 rfl (by kernel_rfl) (by kernel_rfl) (by kernel_rfl) rfl (fun _ _ _ _ h => h) rfl (fun K hK => ?_)
          refine quiet_agg 24 (.tmp 4) rfl _ rfl PC _ Try.underlying24 rfl (by rw [HPL.out]; kernel_rfl) (fun W' h => KeepB.cells h HCP.out (HBP.out.lt)) ?_
          refine hK _ ?_
          simp only [Act.put, List.setIfInBounds_toArray, List.set_cons_succ, List.set_cons_zero]
          clear hK K
          refine takeK 2 rfl (by kernel_rfl) (by kernel_rfl) (by kernel_rfl) rfl (fun _ _ _ _ h => h) rfl (fun K hK => ?_)
          go_big_quiet_op
          first | refine hK _ ?_ | refine ⟨_, fun _ _ => rfl, hK _ ?_⟩
          clear hK K
          refine takeK 3 rfl (by kernel_rfl) (by kernel_rfl) (by kernel_rfl) rfl (fun _ _ _ _ h => h) rfl (fun K hK => ?_)
          refine quiet_cell _ _ rfl _ rfl _ _ Try.underlying23 rfl (fun W' h => ((KeepB.cells h HCX.out (HBX.out.lt)) 1 _ x1)) ?_
          refine hK _ ?_
          simp only [Act.put, List.setIfInBounds_toArray, List.set_cons_succ, List.set_cons_zero]
          clear hK K
          refine takeK 4 rfl (by kernel_rfl) (by kernel_rfl) (by kernel_rfl) rfl (fun _ _ _ _ h => h) rfl (fun K hK => ?_)
          go_big_quiet_op
          first | refine hK _ ?_ | refine ⟨_, fun _ _ => rfl, hK _ ?_⟩
          clear hK K
          refine takeK 6 rfl (by kernel_rfl) (by kernel_rfl) (by kernel_rfl) rfl (fun _ _ _ _ h => h) rfl (fun K hK => ?_)
          refine quiet_agg 32 (.tmp 11) rfl _ rfl DC _ Try.underlying32 rfl (rop_size HDL.out) (fun W' h => KeepB.cells h HCO.out (HBO.out.lt)) ?_
          refine hK _ ?_
          simp only [Act.put, List.setIfInBounds_toArray, List.set_cons_succ, List.set_cons_zero]
          clear hK K
          refine bothM 5 12 rfl rfl (by kernel_rfl) rfl rfl (fun K hK => ?_) (fun K hK => ?_)
          · go_simp
            refine (HTN.out _).mono ?_
            rintro e w5 ⟨rfl, hx5⟩
            obtain rfl := hx5
            refine hK _ _ (fun _ _ => rfl) ?_
            clear hK K
            refine bothM 7 12 rfl rfl (by kernel_rfl) rfl rfl (fun K hK => ?_) (fun K hK => ?_)
            · go_simp
              refine (HOP.out _).mono ?_
              rintro e w6 ⟨rfl, hx6⟩
              have HJ := Lib.hid (HJ.out.step hx6)
              have hkb := HJ.out.2
              have HJ := Lib.hid HJ.out.1
              refine hK _ _ (hkb) ?_
              clear hK K
              refine bothM 8 12 rfl rfl (by kernel_rfl) rfl rfl (fun K hK => ?_) (fun K hK => ?_)
              · go_simp
                refine (HN1.out w0 _ _ HOX.out HJ.out).mono ?_
                rintro e w7 ⟨R, v2, rfl, hR, hJ, hkb2⟩
                have HJ := Lib.hid hJ
                clear hJ
                have HRR := Lib.hid hR
                clear hR
                refine hK _ _ (hkb2) ?_
                clear hK K
                refine takeK 9 rfl (by kernel_rfl) (by kernel_rfl) (by kernel_rfl) rfl (fun _ _ _ _ h => h) rfl (fun K hK => ?_)
                go_big_quiet_op
                first | refine hK _ ?_ | refine ⟨_, fun _ _ => rfl, hK _ ?_⟩
                clear hK K
                refine takeK 10 rfl (by kernel_rfl) (by kernel_rfl) (by kernel_rfl) rfl (fun _ _ _ _ h => h) rfl (fun K hK => ?_)
                go_big_quiet_op
                first | refine hK _ ?_ | refine ⟨_, fun _ _ => rfl, hK _ ?_⟩
                clear hK K
                refine takeK 11 rfl (by kernel_rfl) (by kernel_rfl) (by kernel_rfl) rfl (fun _ _ _ _ h => h) rfl (fun K hK => ?_)
                go_big_quiet_op
                first | refine hK _ ?_ | refine ⟨_, fun _ _ => rfl, hK _ ?_⟩
                clear hK K
                refine stepM 12 rfl (by kernel_rfl) rfl (fun K hK => ?_)
                refine wp_alloc_agg 36 rfl Z hz ?_
                refine hK _ _ (HJ.out.keepAlloc _) ?_
                clear hK K
                (try simp only [Act.put, List.setIfInBounds_toArray, List.set_cons_succ, List.set_cons_zero])
                have HJ := Lib.hid HJ.out.alloc
                have hJf := HJ.out
                revert hJf
                generalize w7.alloc (.cells Z.toArray 36) = W9
                generalize w7.heap.size = g9
                intro hJf
                exact hM g9 R W9 ⟨v2, HRR.out, hJf⟩
              · refine wp_alloc_agg 36 rfl Z hz ?_
                refine hK _ _ (HJ.out.keepAlloc _) ?_
                clear hK K
                (try simp only [Act.put, List.setIfInBounds_toArray, List.set_cons_succ, List.set_cons_zero])
                have HJ := Lib.hid HJ.out.alloc
                refine stepM 8 rfl (by kernel_rfl) rfl (fun K hK => ?_)
                go_simp
                refine (HN1.out w0 _ _ HOX.out HJ.out).mono ?_
                rintro e w7 ⟨R, v2, rfl, hR, hJ, hkb2⟩
                have HJ := Lib.hid hJ
                clear hJ
                have HRR := Lib.hid hR
                clear hR
                refine hK _ _ (hkb2) ?_
                clear hK K
                refine takeK 9 rfl (by kernel_rfl) (by kernel_rfl) (by kernel_rfl) rfl (fun _ _ _ _ h => h) rfl (fun K hK => ?_)
                go_big_quiet_op
                first | refine hK _ ?_ | refine ⟨_, fun _ _ => rfl, hK _ ?_⟩
                clear hK K
                refine takeK 10 rfl (by kernel_rfl) (by kernel_rfl) (by kernel_rfl) rfl (fun _ _ _ _ h => h) rfl (fun K hK => ?_)
                go_big_quiet_op
                first | refine hK _ ?_ | refine ⟨_, fun _ _ => rfl, hK _ ?_⟩
                clear hK K
                refine takeK 11 rfl (by kernel_rfl) (by kernel_rfl) (by kernel_rfl) rfl (fun _ _ _ _ h => h) rfl (fun K hK => ?_)
                go_big_quiet_op
                first | refine hK _ ?_ | refine ⟨_, fun _ _ => rfl, hK _ ?_⟩
                clear hK K
                refine relist (by kernel_rfl) (hM _ R _ ⟨v2, HRR.out, HJ.out⟩)
            · refine wp_alloc_agg 36 rfl Z hz ?_
              refine hK _ _ (HJ.out.keepAlloc _) ?_
              clear hK K
              (try simp only [Act.put, List.setIfInBounds_toArray, List.set_cons_succ, List.set_cons_zero])
              have HJ := Lib.hid HJ.out.alloc
              refine stepM 7 rfl (by kernel_rfl) rfl (fun K hK => ?_)
              go_simp
              refine (HOP.out _).mono ?_
              rintro e w6 ⟨rfl, hx6⟩
              have HJ := Lib.hid (HJ.out.step hx6)
              have hkb := HJ.out.2
              have HJ := Lib.hid HJ.out.1
              refine hK _ _ (hkb) ?_
              clear hK K
              refine stepM 8 rfl (by kernel_rfl) rfl (fun K hK => ?_)
              go_simp
              refine (HN1.out w0 _ _ HOX.out HJ.out).mono ?_
              rintro e w7 ⟨R, v2, rfl, hR, hJ, hkb2⟩
              have HJ := Lib.hid hJ
              clear hJ
              have HRR := Lib.hid hR
              clear hR
              refine hK _ _ (hkb2) ?_
              clear hK K
              refine takeK 9 rfl (by kernel_rfl) (by kernel_rfl) (by kernel_rfl) rfl (fun _ _ _ _ h => h) rfl (fun K hK => ?_)
              go_big_quiet_op
              first | refine hK _ ?_ | refine ⟨_, fun _ _ => rfl, hK _ ?_⟩
              clear hK K
              refine takeK 10 rfl (by kernel_rfl) (by kernel_rfl) (by kernel_rfl) rfl (fun _ _ _ _ h => h) rfl (fun K hK => ?_)
              go_big_quiet_op
              first | refine hK _ ?_ | refine ⟨_, fun _ _ => rfl, hK _ ?_⟩
              clear hK K
              refine takeK 11 rfl (by kernel_rfl) (by kernel_rfl) (by kernel_rfl) rfl (fun _ _ _ _ h => h) rfl (fun K hK => ?_)
              go_big_quiet_op
              first | refine hK _ ?_ | refine ⟨_, fun _ _ => rfl, hK _ ?_⟩
              clear hK K
              refine relist (by kernel_rfl) (hM _ R _ ⟨v2, HRR.out, HJ.out⟩)
          · refine wp_alloc_agg 36 rfl Z hz ?_
            refine hK _ _ (HJ.out.keepAlloc _) ?_
            clear hK K
            (try simp only [Act.put, List.setIfInBounds_toArray, List.set_cons_succ, List.set_cons_zero])
            have HJ := Lib.hid HJ.out.alloc
            refine stepM 5 rfl (by kernel_rfl) rfl (fun K hK => ?_)
            go_simp
            refine (HTN.out _).mono ?_
            rintro e w5 ⟨rfl, hx5⟩
            obtain rfl := hx5
            refine hK _ _ (fun _ _ => rfl) ?_
            clear hK K
            refine stepM 7 rfl (by kernel_rfl) rfl (fun K hK => ?_)
            go_simp
            refine (HOP.out _).mono ?_
            rintro e w6 ⟨rfl, hx6⟩
            have HJ := Lib.hid (HJ.out.step hx6)
            have hkb := HJ.out.2
            have HJ := Lib.hid HJ.out.1
            refine hK _ _ (hkb) ?_
            clear hK K
            refine stepM 8 rfl (by kernel_rfl) rfl (fun K hK => ?_)
            go_simp
            refine (HN1.out w0 _ _ HOX.out HJ.out).mono ?_
            rintro e w7 ⟨R, v2, rfl, hR, hJ, hkb2⟩
            have HJ := Lib.hid hJ
            clear hJ
            have HRR := Lib.hid hR
            clear hR
            refine hK _ _ (hkb2) ?_
            clear hK K
            refine takeK 9 rfl (by kernel_rfl) (by kernel_rfl) (by kernel_rfl) rfl (fun _ _ _ _ h => h) rfl (fun K hK => ?_)
            go_big_quiet_op
            first | refine hK _ ?_ | refine ⟨_, fun _ _ => rfl, hK _ ?_⟩
            clear hK K
            refine takeK 10 rfl (by kernel_rfl) (by kernel_rfl) (by kernel_rfl) rfl (fun _ _ _ _ h => h) rfl (fun K hK => ?_)
            go_big_quiet_op
            first | refine hK _ ?_ | refine ⟨_, fun _ _ => rfl, hK _ ?_⟩
            clear hK K
            refine takeK 11 rfl (by kernel_rfl) (by kernel_rfl) (by kernel_rfl) rfl (fun _ _ _ _ h => h) rfl (fun K hK => ?_)
            go_big_quiet_op
            first | refine hK _ ?_ | refine ⟨_, fun _ _ => rfl, hK _ ?_⟩
            clear hK K
            refine relist (by kernel_rfl) (hM _ R _ ⟨v2, HRR.out, HJ.out⟩)
        rintro g R W ⟨v2, hR, hJ⟩
        have hgb := hJ.blk g rfl
        have hrl : R.length = 7 := by rw [hR]; rfl
        have hro : ∀ u ∈ R, u.oneCell' = true := by obtain ⟨A2, c2, h⟩ := hJ.own.form; rw [hR, h]; exact stc_one _ _ _ _
        have HRL := Lib.hid hrl
        have HGB := Lib.hid hgb
        have HJ := Lib.hid hJ
        have HRE := Lib.hid hR
        clear hrl hgb hJ hR
        refine stepM 13 rfl (by kernel_rfl) rfl (fun K hK => ?_)
        refine wp_store_row 36 (.tmp 12) (.tmp 55) rfl g rfl Z R _ rfl HGB.out.2 (state_size HRL.out) (by rw [HRL.out, HZL.out]) hro ?_
        refine hK _ _ (fun b hb => (setRow_only _).block _ (Nat.lt_of_lt_of_le hb HJ.out.ext.size) (by have := HGB.out.1; simp; omega)) ?_
        clear hK K
        (try simp only [Act.put, List.setIfInBounds_toArray, List.set_cons_succ, List.set_cons_zero])
        refine takeK 14 rfl (by kernel_rfl) (by kernel_rfl) (by kernel_rfl) rfl (fun _ _ _ _ h => h) rfl (fun K hK => ?_)
        go_big_quiet_op
        first | refine hK _ ?_ | refine ⟨_, fun _ _ => rfl, hK _ ?_⟩
        clear hK K
        refine doneM (by kernel_rfl) ?_ _
        have hgg : g ≠ g7 ∧ g ≠ g5 ∧ g ≠ w.heap.size := by have h1 := HGB.out.1; have h2 := HBX.out.lt; have h3 := HBP.out.lt; have h4 := HBO.out.lt; omega
        have hX8 : Ext w (W.setRow g R.toArray) := grown_then (HX3.out.trans HJ.out.ext) (setRow_only _) (.inr (by rintro b ⟨⟩; have := HGB.out.1; have := HX3.out.size; omega))
        have hR8 : Blk (W.setRow g R.toArray) g 36 R := setRow_at HGB.out.2
        have hbx : Blk (W.setRow g R.toArray) g5 36 XC := (HBX.out.keep HJ.out.ext (by simp)).keep (setRow_only _) (by simp; omega)
        have hb1 : Blk (W.setRow g R.toArray) w.heap.size 24 PC := (HBP.out.keep HJ.out.ext (by simp)).keep (setRow_only _) (by simp; omega)
        have hb2 : Blk (W.setRow g R.toArray) g7 32 DC := (HBO.out.keep HJ.out.ext (by simp)).keep (setRow_only _) (by simp; omega)
        have hov2 : OwnC (W.setRow g R.toArray) v s.cs := (HOX.out.ext HJ.out.ext).keep (setRow_only _) (fun b hb e => by have h1 := HOX.out.lt b hb; have := HGB.out.1; cases e; omega)
        have hon : OwnC (W.setRow g R.toArray) v2 n.cs := HJ.out.own.keep (setRow_only _) (fun b hb e => (HJ.out.far b hb).2 e.symm)
        have hfn : ∀ b, v2.ownBlock = some b → w.heap.size + 1 ≤ b ∧ b ≠ g5 := fun b hb => by have h1 := (HJ.out.far b hb).1; have h2 := HBX.out.lt; have h3 := HBP.out.lt; omega
        have hmb8 : Blk (W.setRow g R.toArray) (w.heap.size + 1) 24 MC := (HMB0.out.keep HJ.out.ext (by simp)).keep (setRow_only _) (by have h1 := HGB.out.1; have h2 := HMB0.out.lt; simp; omega)
        have HMB8 := Lib.hid hmb8
        clear hmb8
        have HX8 := Lib.hid hX8
        have HR8 := Lib.hid hR8
        have HBX := Lib.hid hbx
        have HBP := Lib.hid hb1
        have HBO := Lib.hid hb2
        have HOX := Lib.hid hov2
        have HON := Lib.hid hon
        have HFN := Lib.hid hfn
        clear hX8 hR8 hbx hb1 hb2 hov2 hon hfn HX3 HJ HGB HCX HCP HCO
        generalize W.setRow g R.toArray = V at *
        by_cases hz0 : z = 0
        · subst hz0
          have hnz : (nextM s p0 p1 b o').2 = 0 := HZ'.out.symm
          obtain ⟨hs0, hr2, hbt, hact, hnn, hns⟩ := next_zero hnz
          have hao := act_ok HI.out.ok hact (fun c hc => ((sound_zero hs0).2.2.1 c hc).1) HB01.out
          have hnok : StOk n := by
            rw [HN.out, hnn]
            exact ⟨hao.1.chan, by show s.round + 1 < M64; unfold M64; omega, hao.1.m0, hao.1.m1, hao.1.t0, hao.1.t1⟩
          have hns0 : soundM n p0 p1 = 0 := by rw [HN.out]; exact hns
          have HNOK := Lib.hid hnok
          have HNS := Lib.hid hns0
          have hcr := HR8.out.cells
          have hr5 : V.heap[g5]? = some (.cells XC.toArray 36 (0, 0)) := HBX.out
          clear hnok hns0 hs0 hr2 hbt hact hnn hns hao hnz
          go_wp2_with (first
            | (refine wpList_load_agg _ rfl 36 (.tmp 12) rfl _ rfl R _ Try.underlying36 rfl (state_size HRL.out) hcr ?_)
            | (refine wpList_store_row _ rfl 36 (.tmp 9) (.tmp 59) rfl g5 rfl XC R _ rfl hr5 (state_size HRL.out) (by rw [HRL.out, HXL.out]) hro ?_)
            | fail)
          go_roundw
          case rel => exact ⟨k + 1, n, v2, by omega, by go_num, keep_next HX8.out HBP.out hr5 HON.out HFN.out HNOK.out HNS.out HRE.out (by omega), HMB8.out.keep (setRow_only _) (by simp; omega)⟩
          case measure => simp [intOf]; omega
        · have hzb : (z == 0) = false := by simpa using hz0
          go_wp2
          go_roundw
          case rel => exact ⟨k + 1, s, v, by omega, by go_num, ⟨HX8.out, HBP.out, by have h := HBX.out; rw [HXC.out] at h; exact h, HOX.out, HI.out.far, HI.out.ok, HI.out.snd⟩, HMB8.out⟩
          case measure => simp [intOf]; omega
    · obtain rfl : k = List.length (α := WishT.Data) ops := by omega
      have hIV := hI
      have hmV := HMB.out
      clear hI HMB
      obtain ⟨V, rfl⟩ : ∃ V, V = wr := ⟨_, rfl⟩
      obtain ⟨XC, hXC⟩ : ∃ XC, XC = stc s v := ⟨_, rfl⟩
      have HXC := Lib.hid hXC
      have HXLB : Hid (XC.length = 7) := by rw [hXC]; rfl
      have hcsB : Cells V ⟨g5, 0, none⟩ XC := by rw [hXC]; exact hIV.st.cells
      have hcpB := hIV.pc.cells
      clear hXC
      go_wp2_with (first
        | (refine wpList_load_agg _ rfl 36 (.tmp 9) rfl _ rfl XC _ Try.underlying36 rfl (state_size HXLB.out) hcsB ?_)
        | (refine wpList_load_agg _ rfl 24 (.tmp 4) rfl _ rfl PC _ Try.underlying24 rfl (z2_size HPL.out) hcpB ?_)
        | fail)
      clear hcsB hcpB HXLB
      have h8 := (sound_zero hIV.snd).2.1
      have hsn : Calls Try.prog 25 #[.agg XC.toArray, .agg PC.toArray] V fun e w' => e = .returned (.int .i64 0) ∧ Ext V w' := by
        rw [HXC.out, ← HPC.out]
        have h := Sound s v p0 p1 V _ hIV.ok hp0 hp1 (OwnC.holds hIV.own) (OwnC.lt hIV.own) (by omega)
        rw [hIV.snd] at h
        exact h
      refine hsn.mono ?_
      rintro e w1 ⟨rfl, hx1⟩
      obtain ⟨Av, cv, hvf⟩ := hIV.own.form
      have c6 : w1.cell? ⟨g5, 6, none⟩ = some (.slice Av (List.length (α := Cd) s.cs) cv) := ((hIV.st.keep hx1 (by simp)).cell 6).trans (by rw [hvf]; rfl)
      have HIV := Lib.hid hIV
      have HMV := Lib.hid hmV
      have HX1 := Lib.hid hx1
      have hxw1 := hIV.ext.trans hx1
      have HXW1 := Lib.hid hxw1
      obtain ⟨ib, hib, hzb0, hzb1, hzb2⟩ := info_parts bool_info
      clear hIV hmV hx1 hxw1 hsn
      go_wp2
      go_loopw [14, 15, 68] (fun l _ j wr => ∃ (n : Nat) (ds : List Bool), n ≤ List.length (α := Cd) s.cs ∧ ds.length = n ∧ j = .int .i64 n ∧ Ext w1 wr ∧ OwnF wr l ds ∧ ∀ b, l.ownBlock = some b → w1.heap.size ≤ b) (fun _ _ j _ => List.length (α := Cd) s.cs - (intOf j).toNat)
      case atStart => exact ⟨0, [], by omega, rfl, rfl, Ext.refl _, Own.nil _ _ _, by simp [Value.ownBlock]⟩
      case round =>
        clear c6
        obtain ⟨n, ds, hn, hdl, rfl, hx, ho, hap⟩ := hrel
        by_cases hltn : n < List.length (α := Cd) s.cs
        · by_cases hnf : n < fl.length
          · obtain ⟨bd, rfl, hf2, hcells2⟩ := hcel2 (by intro h; have := congrArg List.length h; simp only [List.length_nil] at this; omega)
            have qd := (hcells2.keep ((HXW1.out.trans hx).same hF _ hf2)) n _ (AllH.bool_at hal2 hnf)
            generalize fl[n] = db at *
            have HO := Lib.hid ho
            have HX := Lib.hid hx
            clear ho hx hcells2
            go_wp2_with (first
              | (at_builtin; refine wpList_app _ rfl (.tmp 71) (.tmp 82) _ _ rfl _ _ ib _ 1 1 Try.underlying76 Try.underlying76 hib hzb0 hzb1 hzb2 rfl (by decide) u14 _ _ rfl (Own.ext HO.out ((Ext.refl wr).alloc _)) _ 1 1 [Value.bool db] rfl rfl (src_new_at rfl [Value.bool db] _ 1) (by simp [Value.oneCell']) (by unfold maxLen; omega) (by omega) ?_; intro v4 wB ho4 hm4)
              | fail)
            have hx4 : Ext w1 wB := grown_then (HX.out.alloc (.cells #[Value.bool db] 4)) hm4.grown (.inr hap)
            have hap4 : ∀ b, v4.ownBlock = some b → w1.heap.size ≤ b := fun b hb => by
              rcases hm4.at_ with e | h
              · exact hap b (by rw [← e]; exact hb)
              · have h1 := h b hb; have h2 := HX.out.size; simp at h1; omega
            go_wp2
            go_roundw
            case rel => exact ⟨n + 1, ds ++ [db], by omega, by simp; omega, by go_num, hx4, by unfold OwnF; rw [List.length_append, List.map_append]; exact ho4, hap4⟩
            case measure => simp [intOf]; omega
          · have HO := Lib.hid ho
            have HX := Lib.hid hx
            clear ho hx
            go_wp2_with (first
              | (at_builtin; refine wpList_app _ rfl (.tmp 71) (.tmp 82) _ _ rfl _ _ ib _ 1 1 Try.underlying76 Try.underlying76 hib hzb0 hzb1 hzb2 rfl (by decide) u14 _ _ rfl (Own.ext HO.out ((Ext.refl wr).alloc _)) _ 1 1 [Value.bool false] rfl rfl (src_new_at rfl [Value.bool false] _ 1) (by simp [Value.oneCell']) (by unfold maxLen; omega) (by omega) ?_; intro v4 wB ho4 hm4)
              | fail)
            have hx4 : Ext w1 wB := grown_then (HX.out.alloc (.cells #[Value.bool false] 4)) hm4.grown (.inr hap)
            have hap4 : ∀ b, v4.ownBlock = some b → w1.heap.size ≤ b := fun b hb => by
              rcases hm4.at_ with e | h
              · exact hap b (by rw [← e]; exact hb)
              · have h1 := h b hb; have h2 := HX.out.size; simp at h1; omega
            go_wp2
            go_roundw
            case rel => exact ⟨n + 1, ds ++ [false], by omega, by simp; omega, by go_num, hx4, by unfold OwnF; rw [List.length_append, List.map_append]; exact ho4, hap4⟩
            case measure => simp [intOf]; omega
        · obtain rfl : n = List.length (α := Cd) s.cs := by omega
          have hxv := HX1.out.trans hx
          have hst := HIV.out.st.keep hxv (by simp)
          have hpc := HIV.out.pc.keep hxv (by simp)
          have hmc := HMV.out.keep hxv (by simp)
          have hov := HIV.out.own.ext hxv
          have a0 : wr.cell? ⟨w.heap.size, 0, none⟩ = some (.int .u64 (p0 : Int)) := (hpc.cell 0).trans (by rw [← HPC.out]; rfl)
          have a1 : wr.cell? ⟨w.heap.size, 1, none⟩ = some (.int .u64 (p1 : Int)) := (hpc.cell 1).trans (by rw [← HPC.out]; rfl)
          have hadd := RAdd p0 p1 wr hp0 hp1
          obtain ⟨sp, hsp⟩ : ∃ sp, sp = splitM (outM s p0 p1 (s.cs.zip ds) 0) (outM s p0 p1 (s.cs.zip ds) 1) := ⟨_, rfl⟩
          have hspl := SplitC s v u14 p0 p1 ds wr (fun b => v.ownBlock = some b ∨ u14.ownBlock = some b) HIV.out.ok HIV.out.snd hp0 hp1 (Ty.keep (fun _ _ => rfl) (fun b hb => .inl hb) _ (OwnC.holds hov)) (Ty.keep (fun _ _ => rfl) (fun b hb => .inr hb) _ (ownF_holds ho)) (fun b hb => hb.elim (OwnC.lt hov b) (OwnF.lt ho b)) (by omega)
          rw [← hsp] at hspl
          have hxl : XC.length = 7 := by rw [HXC.out]; rfl
          rw [← HXC.out] at hst
          rw [← HXC.out, HPC.out] at hspl
          have hospl : p0 + p1 < M64 → sp.2.2 = 0 ∧ sp.1 + sp.2.1 = p0 + p1 := fun h => by
            obtain ⟨k0, k1, k2⟩ := out_sum HIV.out.snd hdl.symm h
            have e : sp = ((outM s p0 p1 (s.cs.zip ds) 0).1, (outM s p0 p1 (s.cs.zip ds) 1).1, 0) := by rw [hsp]; unfold splitM; rw [if_neg (by omega), if_neg (by omega)]
            rw [e]
            exact ⟨rfl, k2⟩
          obtain ⟨sa, sb, se⟩ := sp
          simp only at hspl hospl
          have hspl : Calls Try.prog 32 #[.agg XC.toArray, .agg PC.toArray, .agg (ptc 0 0).toArray, u14] wr fun e w' => e = .returned (.tuple #[.agg #[.int .u64 (sa : Int), .int .u64 (sb : Int)], .int .i64 se]) ∧ Ext wr w' := hspl
          have hcs := hst.cells
          have hcp := hpc.cells
          have hxw := HXW1.out.trans hx
          have HXL := Lib.hid hxl
          have HSPL := Lib.hid hspl
          have HOS := Lib.hid hospl
          have HST := Lib.hid hst
          have HPB := Lib.hid hpc
          have HMB := Lib.hid hmc
          have HOV := Lib.hid hov
          have HXW := Lib.hid hxw
          clear hsp hspl hospl hst hpc hmc hov hxw hxl ho hx hxv hap HXW1 HX1
          by_cases hpp : p0 + p1 < M64
          · have ea : addM p0 p1 = (p0 + p1, 0) := by unfold addM; rw [if_pos hpp]
            rw [ea] at hadd
            simp only [numErr] at hadd
            obtain ⟨rfl, hsum⟩ := HOS.out hpp
            have HADD := Lib.hid hadd
            have hsab : sa < M64 ∧ sb < M64 := by omega
            have hadd2 := fun W => RAdd sa sb W hsab.1 hsab.2
            have ea2 : addM sa sb = (sa + sb, 0) := by unfold addM; rw [if_pos (by omega)]
            rw [ea2, hsum] at hadd2
            simp only [numErr] at hadd2
            have HADD2 := Lib.hid hadd2
            generalize hall : p0 + p1 = all at *
            clear hadd ea hadd2 ea2 HOS hsum hall
            go_wp2_with (first
              | (refine wpList_load_agg _ rfl 36 (.tmp 9) rfl _ rfl XC _ Try.underlying36 rfl (state_size HXL.out) hcs ?_)
              | (refine wpList_load_agg _ rfl 24 (.tmp 4) rfl _ rfl PC _ Try.underlying24 rfl (z2_size HPL.out) hcp ?_)
              | (refine wpList_build (.inl rfl) 24 _ rfl (.agg (ptc 0 0).toArray) (by kernel_rfl) ?_)
              | (go_at_call 31; refine HADD.out.mono ?_; rintro e _ ⟨rfl, rfl⟩)
              | fail)
            refine HSPL.out.mono ?_
            rintro e w3 ⟨rfl, hx3⟩
            have hxq : Ext wr (w3.alloc (.cells #[.int .u64 (sa : Int), .int .u64 (sb : Int)] 24)) := hx3.alloc _
            have b0 : (w3.alloc (.cells #[.int .u64 (sa : Int), .int .u64 (sb : Int)] 24)).cell? ⟨w.heap.size, 0, none⟩ = some (.int .u64 (p0 : Int)) := World.grownBy.cell hxq a0 (by simp)
            have b1 : (w3.alloc (.cells #[.int .u64 (sa : Int), .int .u64 (sb : Int)] 24)).cell? ⟨w.heap.size, 1, none⟩ = some (.int .u64 (p1 : Int)) := World.grownBy.cell hxq a1 (by simp)
            have d0 : (w3.alloc (.cells #[.int .u64 (sa : Int), .int .u64 (sb : Int)] 24)).cell? ⟨w.heap.size + 1, 0, none⟩ = some (.int .u64 (q0 : Int)) := ((HMB.out.keep hxq (by simp)).cell 0).trans (by rw [← HMC.out]; rfl)
            have d1 : (w3.alloc (.cells #[.int .u64 (sa : Int), .int .u64 (sb : Int)] 24)).cell? ⟨w.heap.size + 1, 1, none⟩ = some (.int .u64 (q1 : Int)) := ((HMB.out.keep hxq (by simp)).cell 1).trans (by rw [← HMC.out]; rfl)
            have hA := fun W => RAdd p0 q0 W hp0 hq0
            have hB := fun W => RAdd p1 q1 W hp1 hq1
            have hAl := addM_lt p0 q0
            have hBl := addM_lt p1 q1
            have hAz : (addM p0 q0).2 = 0 → (addM p0 q0).1 = p0 + q0 := addM_val
            have hBz : (addM p1 q1).2 = 0 → (addM p1 q1).1 = p1 + q1 := addM_val
            generalize addM p0 q0 = ra at *
            generalize addM p1 q1 = rb at *
            obtain ⟨a, ea⟩ := ra
            obtain ⟨b', eb⟩ := rb
            simp only [numErr] at hA hB hAl hBl hAz hBz
            have hC := fun W => RAdd a b' W hAl hBl
            generalize addM a b' = rc at *
            obtain ⟨c3', ec⟩ := rc
            simp only [numErr] at hC
            have HA := Lib.hid hA
            have HB := Lib.hid hB
            have HC := Lib.hid hC
            have HAZ := Lib.hid hAz
            have HBZ := Lib.hid hBz
            have HXQ := Lib.hid hxq
            have hcsq := (HST.out.keep hxq (by simp)).cells
            clear hA hB hC hAz hBz hx3 hcs hcp a0 a1 hxq
            go_wp2_with fail
            refine (HADD2.out _).mono ?_
            rintro e _ ⟨rfl, rfl⟩
            go_wp2_with fail
            refine (HA.out _).mono ?_
            rintro e _ ⟨rfl, rfl⟩
            go_wp2_with fail
            refine (HB.out _).mono ?_
            rintro e _ ⟨rfl, rfl⟩
            go_wp2_with fail
            refine (HC.out _).mono ?_
            rintro e _ ⟨rfl, rfl⟩
            by_cases hea : ea = 0
            · have zea : (ea != 0) = false := by simpa using hea
              by_cases heb : eb = 0
              · have zeb : (eb != 0) = false := by simpa using heb
                by_cases hec : ec = 0
                · have zec : (ec != 0) = false := by simpa using hec
                  have hsm := sound_more (s := s) (p0 := p0) (p1 := p1) (a := a) (b := b') HIV.out.snd (by rw [HAZ.out hea]; omega) (by rw [HBZ.out heb]; omega)
                  have hsn2 : Calls Try.prog 25 #[.agg XC.toArray, .agg #[.int .u64 (a : Int), .int .u64 (b' : Int)]] (w3.alloc (.cells #[.int .u64 (sa : Int), .int .u64 (sb : Int)] 24)) fun e w' => e = .returned (.int .i64 (soundM s a b')) ∧ Ext (w3.alloc (.cells #[.int .u64 (sa : Int), .int .u64 (sb : Int)] 24)) w' := by
                    rw [HXC.out]
                    exact Sound s v a b' _ _ HIV.out.ok hAl hBl (OwnC.holds (HOV.out.ext HXQ.out)) (OwnC.lt (HOV.out.ext HXQ.out)) (by omega)
                  have HSN2 := Lib.hid hsn2
                  generalize soundM s a b' = zz at *
                  clear hsn2 hea heb hec
                  rcases hsm with rfl | rfl
                  all_goals
                    go_wp2_with (first
                      | (refine wpList_load_agg _ rfl 36 (.tmp 9) rfl _ rfl XC _ Try.underlying36 rfl (state_size HXL.out) hcsq ?_)
                      | (go_at_call 25; refine HSN2.out.mono ?_; rintro e w8 ⟨rfl, hx8⟩)
                      | (go_at_call 9; refine (Awake _).mono ?_; rintro e w9 ⟨rfl, hx9⟩)
                      | fail)
                    go_ret
                    exact ⟨rfl, HXW.out.trans (HXQ.out.trans (hx8.trans hx9))⟩
                · have zec : (ec != 0) = true := by simpa using hec
                  clear hec
                  go_wp2_with (first
                    | (go_at_call 9; refine (Awake _).mono ?_; rintro e w9 ⟨rfl, hx9⟩)
                    | fail)
                  go_ret
                  exact ⟨rfl, HXW.out.trans (HXQ.out.trans hx9)⟩
              · have zeb : (eb != 0) = true := by simpa using heb
                clear heb
                go_wp2_with (first
                  | (go_at_call 9; refine (Awake _).mono ?_; rintro e w9 ⟨rfl, hx9⟩)
                  | fail)
                go_ret
                exact ⟨rfl, HXW.out.trans (HXQ.out.trans hx9)⟩
            · have zea : (ea != 0) = true := by simpa using hea
              clear hea
              go_wp2_with (first
                | (go_at_call 9; refine (Awake _).mono ?_; rintro e w9 ⟨rfl, hx9⟩)
                | fail)
              go_ret
              exact ⟨rfl, HXW.out.trans (HXQ.out.trans hx9)⟩
          · have ea : addM p0 p1 = (0, 11) := by unfold addM; rw [if_neg hpp]
            rw [ea] at hadd
            simp only [numErr] at hadd
            have HADD := Lib.hid hadd
            clear hadd ea HOS hpp
            go_wp2_with (first
              | (refine wpList_load_agg _ rfl 36 (.tmp 9) rfl _ rfl XC _ Try.underlying36 rfl (state_size HXL.out) hcs ?_)
              | (refine wpList_load_agg _ rfl 24 (.tmp 4) rfl _ rfl PC _ Try.underlying24 rfl (z2_size HPL.out) hcp ?_)
              | (refine wpList_build (.inl rfl) 24 _ rfl (.agg (ptc 0 0).toArray) (by kernel_rfl) ?_)
              | (go_at_call 31; refine HADD.out.mono ?_; rintro e _ ⟨rfl, rfl⟩)
              | (go_at_call 32; refine HSPL.out.mono ?_; rintro e w3 ⟨rfl, hx3⟩)
              | (go_at_call 9; refine (Awake _).mono ?_; rintro e w9 ⟨rfl, hx9⟩)
              | fail)
            go_ret
            exact ⟨rfl, HXW.out.trans ((hx3.alloc _).trans hx9)⟩
end Go.Proofs.Ytnpolfihbfdggaa

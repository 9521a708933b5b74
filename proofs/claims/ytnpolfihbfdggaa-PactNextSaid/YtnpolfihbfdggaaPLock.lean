/- Walk of the pact's lock. Conditions: the numbers are in their bounds; the payments lie in a row of their own. -/
import Derived.Test.YtnpolfihbfdggaaPDrop
set_option linter.unusedVariables false
set_option linter.unusedSimpArgs false
set_option linter.unnecessarySimpa false
namespace Go.Proofs.Ytnpolfihbfdggaa
open Go.RowKit

def lockM (s : St) (p0 p1 : Nat) (side : Int) (ck : Cd) : St × Int :=
  if ck.2.1 ≠ side then (.zero, 1)
  else if 0 ≤ findM s.cs ck.1 then (.zero, 7)
  else if 8 ≤ List.length (α := Cd) s.cs then (.zero, 4)
  else if spendM s p0 p1 side ck.2.2.1 ≠ 0 then (.zero, spendM s p0 p1 side ck.2.2.1)
  else ({ s with cs := s.cs ++ [ck] }, 0)
theorem spend_nz {s : St} {p0 p1 : Nat} {side : Int} {am : Nat} (_h : spendM s p0 p1 side am ≠ 0) : True := trivial
set_option maxRecDepth 100000 in
set_option maxHeartbeats 2000000 in
theorem Lock (s : St) (v : Value) (p0 p1 : Nat) (side : Int) (ck : Cd) (w : World) (hs : StOk s) (hp0 : p0 < M64) (hp1 : p1 < M64) (hok : CondOk ck) (hsd : side = 0 ∨ side = 1) (ho : OwnC w v s.cs) (hlen : List.length (α := Cd) s.cs ≤ 4398046511104) :
    Calls Try.prog 48 #[stv s v, .agg #[.int .u64 (p0 : Int), .int .u64 (p1 : Int)], .int .i64 side, .agg (condCells ck).toArray] w fun e w' => ∃ v', e = .returned (.tuple #[stv (lockM s p0 p1 side ck).1 v', .int .i64 (lockM s p0 p1 side ck).2]) ∧ OwnC w' v' (lockM s p0 p1 side ck).1.cs ∧ Moved w w' v v' := by
  have hcd := ho.holds
  obtain ⟨A, c, rfl⟩ := ho.form
  have hlt := ho.lt
  obtain ⟨i1, z1, hi1, hz1, hi2, hi3, hi4⟩ := cond_parts
  generalize hzs : zst = Z
  have hz : (Try.prog.info? 36).bind (fun i => i.zero.map (·.cells)) = some Z.toArray := by rw [← hzs]; exact state_zero
  have hzl : Z.length = 7 := by rw [← hzs]; rfl
  have HZB := Lib.hid (show (Value.agg zst.toArray) = .agg Z.toArray by rw [hzs])
  have hzo : ∀ u ∈ Z, u.oneCell' = true := by rw [← hzs]; decide
  have hx0 : Ext w ((((w.alloc (.cells (stc s (.slice A (List.length (α := Cd) s.cs) c)).toArray 36)).alloc (.cells (ptc p0 p1).toArray 24)).alloc (.cells (condCells ck).toArray 44)).alloc (.cells Z.toArray 36)) := (((((Ext.refl w).alloc _).alloc _).alloc _).alloc _)
  have hb0 : Blk ((((w.alloc (.cells (stc s (.slice A (List.length (α := Cd) s.cs) c)).toArray 36)).alloc (.cells (ptc p0 p1).toArray 24)).alloc (.cells (condCells ck).toArray 44)).alloc (.cells Z.toArray 36)) w.heap.size 36 (stc s (.slice A (List.length (α := Cd) s.cs) c)) := (((Blk.new w 36 (stc s (.slice A (List.length (α := Cd) s.cs) c))).keep ((Ext.refl _).alloc _) (by simp)).keep ((Ext.refl _).alloc _) (by simp)).keep ((Ext.refl _).alloc _) (by simp)
  have hb1 : Blk ((((w.alloc (.cells (stc s (.slice A (List.length (α := Cd) s.cs) c)).toArray 36)).alloc (.cells (ptc p0 p1).toArray 24)).alloc (.cells (condCells ck).toArray 44)).alloc (.cells Z.toArray 36)) (w.heap.size + 1) 24 (ptc p0 p1) := ((Blk.new_at (w := (w.alloc (.cells (stc s (.slice A (List.length (α := Cd) s.cs) c)).toArray 36))) (by simp) _ (ptc p0 p1)).keep ((Ext.refl _).alloc _) (by simp)).keep ((Ext.refl _).alloc _) (by simp)
  have hb2 : Blk ((((w.alloc (.cells (stc s (.slice A (List.length (α := Cd) s.cs) c)).toArray 36)).alloc (.cells (ptc p0 p1).toArray 24)).alloc (.cells (condCells ck).toArray 44)).alloc (.cells Z.toArray 36)) (w.heap.size + 2) 44 (condCells ck) := (Blk.new_at (w := ((w.alloc (.cells (stc s (.slice A (List.length (α := Cd) s.cs) c)).toArray 36)).alloc (.cells (ptc p0 p1).toArray 24))) (by simp) _ (condCells ck)).keep ((Ext.refl _).alloc _) (by simp)
  have hb3 : Blk ((((w.alloc (.cells (stc s (.slice A (List.length (α := Cd) s.cs) c)).toArray 36)).alloc (.cells (ptc p0 p1).toArray 24)).alloc (.cells (condCells ck).toArray 44)).alloc (.cells Z.toArray 36)) (w.heap.size + 3) 36 Z := Blk.new_at (w := (((w.alloc (.cells (stc s (.slice A (List.length (α := Cd) s.cs) c)).toArray 36)).alloc (.cells (ptc p0 p1).toArray 24)).alloc (.cells (condCells ck).toArray 44))) (by simp) _ Z
  have HCL := Lib.hid (condCells_len hok)
  have hone := condCells_one ck
  have k0 : (condCells ck)[0]? = some (.int .u64 (ck.1 : Int)) := rfl
  have k1 : (condCells ck)[1]? = some (.int .i64 ck.2.1) := rfl
  have k2 : (condCells ck)[2]? = some (.int .u64 (ck.2.2.1 : Int)) := rfl
  have hfd := Find s (.slice A (List.length (α := Cd) s.cs) c) ck.1 ((((w.alloc (.cells (stc s (.slice A (List.length (α := Cd) s.cs) c)).toArray 36)).alloc (.cells (ptc p0 p1).toArray 24)).alloc (.cells (condCells ck).toArray 44)).alloc (.cells Z.toArray 36)) _ (hx0.holds hlt hcd) (fun b hb => Nat.lt_of_lt_of_le (hlt b hb) hx0.size)
  have hsz : ((((w.alloc (.cells (stc s (.slice A (List.length (α := Cd) s.cs) c)).toArray 36)).alloc (.cells (ptc p0 p1).toArray 24)).alloc (.cells (condCells ck).toArray 44)).alloc (.cells Z.toArray 36)).heap.size = w.heap.size + 4 := by simp
  have hspd : ∀ W, Ext w W → Calls Try.prog 46 #[.agg (stc s (.slice A (List.length (α := Cd) s.cs) c)).toArray, .agg (ptc p0 p1).toArray, .int .i64 side, .int .u64 (ck.2.2.1 : Int)] W fun e w' => e = .returned (.int .i64 (spendM s p0 p1 side ck.2.2.1)) ∧ Ext W w' := fun W h =>
    Spend s (.slice A (List.length (α := Cd) s.cs) c) p0 p1 side ck.2.2.1 W _ hs hp0 hp1 (by have := bounds_u64 hok.am; unfold M64; omega) hsd (h.holds hlt hcd) (fun b hb => Nat.lt_of_lt_of_le (hlt b hb) h.size) hlen
  generalize hwc : condCells ck = C at *
  generalize hSC : stc s (.slice A (List.length (α := Cd) s.cs) c) = SC at *
  generalize hPC : ptc p0 p1 = PC at *
  obtain ⟨W, hW⟩ : ∃ W, W = ((((w.alloc (.cells SC.toArray 36)).alloc (.cells PC.toArray 24)).alloc (.cells C.toArray 44)).alloc (.cells Z.toArray 36)) := ⟨_, rfl⟩
  rw [← hW] at hx0 hb0 hb1 hb2 hb3 hfd hsz
  have HFD := Lib.hid hfd
  have HX0 := Lib.hid hx0
  have HO := Lib.hid ho
  have HB0 := Lib.hid hb0
  have HB1 := Lib.hid hb1
  have HB2 := Lib.hid hb2
  have HB3 := Lib.hid hb3
  have HZL := Lib.hid hzl
  have HZS := Lib.hid hzs
  have HSPD := Lib.hid hspd
  have HSC := Lib.hid hSC
  have HPC := Lib.hid hPC
  have HWC := Lib.hid hwc
  have HW := Lib.hid hW
  have HSZ := Lib.hid hsz
  have hsvv : stv s (.slice A (List.length (α := Cd) s.cs) c) = .agg SC.toArray := by rw [← hSC]; rfl
  have hpvv : Value.agg #[.int .u64 (p0 : Int), .int .u64 (p1 : Int)] = .agg PC.toArray := by rw [← hPC]; rfl
  rw [hpvv, hsvv]
  rw [hsvv] at HFD
  have s6 : SC[6]? = some (.slice A (List.length (α := Cd) s.cs) c) := by rw [← hSC]; rfl
  have hssl : SC.length = 7 := by rw [← hSC]; rfl
  have HSSL := Lib.hid hssl
  have hppl : PC.length = 2 := by rw [← hPC]; rfl
  have HPPL := Lib.hid hppl
  obtain ⟨res, hres⟩ : ∃ res, res = lockM s p0 p1 side ck := ⟨_, rfl⟩
  rw [← hres]
  clear hfd hx0 hb0 hb1 hb2 hb3 hzl hzs hspd hSC hPC hwc hW hsz hsvv hpvv hssl hppl ho hcd
  rw [HW.out] at HFD
  have hb0' : Blk ((((w.alloc (.cells SC.toArray 36)).alloc (.cells PC.toArray 24)).alloc (.cells C.toArray 44)).alloc (.cells Z.toArray 36)) w.heap.size 36 SC := by rw [← HW.out]; exact HB0.out
  have hb1' : Blk ((((w.alloc (.cells SC.toArray 36)).alloc (.cells PC.toArray 24)).alloc (.cells C.toArray 44)).alloc (.cells Z.toArray 36)) (w.heap.size + 1) 24 PC := by rw [← HW.out]; exact HB1.out
  have hb2' : Blk ((((w.alloc (.cells SC.toArray 36)).alloc (.cells PC.toArray 24)).alloc (.cells C.toArray 44)).alloc (.cells Z.toArray 36)) (w.heap.size + 2) 44 C := by rw [← HW.out]; exact HB2.out
  have hb3' : Blk ((((w.alloc (.cells SC.toArray 36)).alloc (.cells PC.toArray 24)).alloc (.cells C.toArray 44)).alloc (.cells Z.toArray 36)) (w.heap.size + 3) 36 Z := by rw [← HW.out]; exact HB3.out
  have hx0' : Ext w ((((w.alloc (.cells SC.toArray 36)).alloc (.cells PC.toArray 24)).alloc (.cells C.toArray 44)).alloc (.cells Z.toArray 36)) := by rw [← HW.out]; exact HX0.out
  have hsz' : ((((w.alloc (.cells SC.toArray 36)).alloc (.cells PC.toArray 24)).alloc (.cells C.toArray 44)).alloc (.cells Z.toArray 36)).heap.size = w.heap.size + 4 := by rw [← HW.out]; exact HSZ.out
  clear HB0 HB1 HB2 HB3 HX0
  have HB0 := Lib.hid hb0'
  have HB1 := Lib.hid hb1'
  have HB2 := Lib.hid hb2'
  have HB3 := Lib.hid hb3'
  have HX0 := Lib.hid hx0'
  have HSZ' := Lib.hid hsz'
  clear hb0' hb1' hb2' hb3' hx0' hsz'
  have hscw := HB0.out.cells
  have HSCW := Lib.hid hscw
  clear hscw
  by_cases hby : ck.2.1 = side
  · have hbb : (ck.2.1 == side) = true := by simpa using hby
    have hbn : (ck.2.1 != side) = false := by simpa using hby
    by_cases hfn : 0 ≤ findM s.cs ck.1
    · have hr1 : res = (.zero, 7) := by rw [hres]; unfold lockM; rw [if_neg (by simp [hby]), if_pos hfn]
      have HRES := Lib.hid hr1
      clear hres hr1 hby
      go_enter Try.func48, Try.ntmps48
      go_wp2_with (first
        | (refine wpList_alloc _ rfl 36 rfl _ hz ?_)
        | (refine wpList_load_agg _ rfl 36 (.tmp 4) rfl _ rfl SC _ Try.underlying36 rfl (state_size HSSL.out) HSCW.out ?_)
        | fail)
      refine HFD.out.mono ?_
      rintro e w1 ⟨rfl, hx1⟩
      have hr8 : w1.heap[w.heap.size + 3]? = some (.cells Z.toArray 36 (0, 0)) := HB3.out.keep hx1 (by simp)
      go_wp2_with (first
        | (refine wpList_build (.inl rfl) 36 _ rfl (.agg zst.toArray) (by kernel_rfl) ?_; rw [HZB.out])
        | (refine wpList_store_row _ rfl 36 (.tmp 8) (.tmp 23) rfl (w.heap.size + 3) rfl Z Z _ rfl hr8 (state_size HZL.out) rfl hzo ?_)
        | fail)
      have hc9 : Cells (w1.setRow (w.heap.size + 3) Z.toArray) ⟨w.heap.size + 3, 0, none⟩ Z := Blk.cells (t := 36) (setRow_at hr8)
      (try simp only [Exit.inBlock, Exit.then])
      refine bodyPost_ret (results_agg_tmp rfl _ _ _ _ _ rfl Try.underlying36 rfl (state_size HZL.out) hc9) rfl ?_
      refine ⟨.slice none 0 0, ?_, by rw [HRES.out]; exact ⟨by simp [St.zero], Own.nil _ _ _⟩, ⟨Ext.any (grown_then (HX0.out.trans hx1) (setRow_only _) (.inr (by rintro g ⟨⟩; omega))) _, .inr (by simp [Value.ownBlock])⟩⟩
      rw [HRES.out, ← HZS.out]; rfl
    · have hfneg : findM s.cs ck.1 < 0 := by omega
      have HFN := Lib.hid hfn
      clear hfn
      by_cases hl8 : 8 ≤ List.length (α := Cd) s.cs
      · have hr1 : res = (.zero, 4) := by rw [hres]; unfold lockM; rw [if_neg (by simp [hby]), if_neg HFN.out, if_pos hl8]
        have HRES := Lib.hid hr1
        clear hres hr1 hby
        go_enter Try.func48, Try.ntmps48
        go_wp2_with (first
          | (refine wpList_alloc _ rfl 36 rfl _ hz ?_)
          | (refine wpList_load_agg _ rfl 36 (.tmp 4) rfl _ rfl SC _ Try.underlying36 rfl (state_size HSSL.out) HSCW.out ?_)
          | fail)
        refine HFD.out.mono ?_
        rintro e w1 ⟨rfl, hx1⟩
        have hxw := HX0.out.trans hx1
        have hs1 := HB0.out.keep hx1 (by simp)
        have hp1 := HB1.out.keep hx1 (by simp)
        have hc1 := HB2.out.keep hx1 (by simp)
        have hz1' := HB3.out.keep hx1 (by simp)
        have s61 : w1.cell? ⟨w.heap.size, 6, none⟩ = some (.slice A (List.length (α := Cd) s.cs) c) := (hs1.cell 6).trans s6
        have c21 : w1.cell? ⟨w.heap.size + 2, 2, none⟩ = some (.int .u64 (ck.2.2.1 : Int)) := (hc1.cell 2).trans k2
        have hr8 : w1.heap[w.heap.size + 3]? = some (.cells Z.toArray 36 (0, 0)) := hz1'
        have hscc := hs1.cells
        have hpcc := hp1.cells
        have hccc := hc1.cells
        clear hs1 hp1 hc1 hz1'
        go_wp2_with (first
          | (refine wpList_build (.inl rfl) 36 _ rfl (.agg zst.toArray) (by kernel_rfl) ?_; rw [HZB.out])
          | (refine wpList_store_row _ rfl 36 (.tmp 8) (.tmp 29) rfl (w.heap.size + 3) rfl Z Z _ rfl hr8 (state_size HZL.out) rfl hzo ?_)
          | fail)
        have hc9 : Cells (w1.setRow (w.heap.size + 3) Z.toArray) ⟨w.heap.size + 3, 0, none⟩ Z := Blk.cells (t := 36) (setRow_at hr8)
        (try simp only [Exit.inBlock, Exit.then])
        refine bodyPost_ret (results_agg_tmp rfl _ _ _ _ _ rfl Try.underlying36 rfl (state_size HZL.out) hc9) rfl ?_
        refine ⟨.slice none 0 0, ?_, by rw [HRES.out]; exact ⟨by simp [St.zero], Own.nil _ _ _⟩, ⟨Ext.any (grown_then (hxw) (setRow_only _) (.inr (by rintro g ⟨⟩; omega))) _, .inr (by simp [Value.ownBlock])⟩⟩
        rw [HRES.out, ← HZS.out]; rfl
      · have hl7 : List.length (α := Cd) s.cs < 8 := by omega
        by_cases hsp : spendM s p0 p1 side ck.2.2.1 = 0
        · have hr1 : res = ({ s with cs := s.cs ++ [ck] }, 0) := by rw [hres]; unfold lockM; rw [if_neg (by simp [hby]), if_neg HFN.out, if_neg hl8, if_neg (by simp [hsp])]
          have HRES := Lib.hid hr1
          rw [hsp] at HSPD
          clear hres hr1 hby hl8
          go_enter Try.func48, Try.ntmps48
          go_wp2_with (first
            | (refine wpList_alloc _ rfl 36 rfl _ hz ?_)
            | (refine wpList_load_agg _ rfl 36 (.tmp 4) rfl _ rfl SC _ Try.underlying36 rfl (state_size HSSL.out) HSCW.out ?_)
            | fail)
          refine HFD.out.mono ?_
          rintro e w1 ⟨rfl, hx1⟩
          have hxw := HX0.out.trans hx1
          have hs1 := HB0.out.keep hx1 (by simp)
          have hp1 := HB1.out.keep hx1 (by simp)
          have hc1 := HB2.out.keep hx1 (by simp)
          have hz1' := HB3.out.keep hx1 (by simp)
          have s61 : w1.cell? ⟨w.heap.size, 6, none⟩ = some (.slice A (List.length (α := Cd) s.cs) c) := (hs1.cell 6).trans s6
          have c21 : w1.cell? ⟨w.heap.size + 2, 2, none⟩ = some (.int .u64 (ck.2.2.1 : Int)) := (hc1.cell 2).trans k2
          have hr8 : w1.heap[w.heap.size + 3]? = some (.cells Z.toArray 36 (0, 0)) := hz1'
          have hscc := hs1.cells
          have hpcc := hp1.cells
          have hccc := hc1.cells
          go_wp2_with (first
            | (refine wpList_load_agg _ rfl 36 (.tmp 4) rfl _ rfl SC _ Try.underlying36 rfl (state_size HSSL.out) hscc ?_)
            | (refine wpList_load_agg _ rfl 24 (.tmp 5) rfl _ rfl PC _ Try.underlying24 rfl (by rw [HPPL.out]; kernel_rfl) hpcc ?_)
            | fail)
          refine (HSPD.out w1 hxw).mono ?_
          rintro e w2 ⟨rfl, hx2⟩
          have hxw2 := hxw.trans hx2
          have hs2 := hs1.keep hx2 (by simp)
          have hc2 := hc1.keep hx2 (by simp)
          have hz2 := hz1'.keep hx2 (by simp)
          have s62 : w2.cell? ⟨w.heap.size, 6, none⟩ = some (.slice A (List.length (α := Cd) s.cs) c) := (hs2.cell 6).trans s6
          have hcc2 := hc2.cells
          have ho2 := HO.out.ext hxw2
          have hsz2 : w.heap.size + 4 ≤ w2.heap.size := by
            have h1 := HSZ'.out
            have h2 := hx1.size
            have h3 := hx2.size
            omega
          obtain ⟨hokc, hown⟩ := ho2
          obtain ⟨X, hX⟩ : ∃ X, X = s.cs.flatMap condCells := ⟨_, rfl⟩
          rw [← hX] at hown
          have HX := Lib.hid hX
          have HOWN := Lib.hid hown
          have HS2 := Lib.hid hs2
          have HZ2 := Lib.hid hz2
          have HXW2 := Lib.hid hxw2
          have hx3 : Ext w2 (w2.alloc (.cells C.toArray 44)) := (Ext.refl w2).alloc _
          have hslt : ∀ g, (Value.slice A (List.length (α := Cd) s.cs) c).ownBlock = some g → g < w.heap.size := hlt
          clear hs1 hp1 hc1 hz1' hs2 hc2 hz2 hxw2 hX hown hscc hpcc hccc s61 c21
          go_wp2_with (first
            | (refine wpList_load_agg _ rfl 44 (.tmp 7) rfl _ rfl C _ Try.underlying44 rfl (cond_size HCL.out) hcc2 ?_)
            | (refine wpList_one _ rfl 34 (.tmp 42) rfl 44 C Try.underlying34 rfl (cond_size HCL.out) (by kernel_rfl) (by rw [HCL.out]; decide) (by rw [HCL.out]; decide) ?_)
            | (at_builtin; go_must (refine wpList_app _ rfl (.tmp 41) (.tmp 43) _ _ rfl _ _ i1 z1 36 64 Try.underlying34 Try.underlying34 hi1 hz1 hi2 hi3 hi4 (by decide) (.slice A (List.length (α := Cd) s.cs) c) _ X rfl (HOWN.out.ext hx3) _ 1 1 C rfl (by rw [HCL.out]) (src_new_at rfl C _ 1) hone (by unfold maxLen; omega) (by omega) ?_); intro v4 w4 ho4 hm4; obtain ⟨A4, c4, hv4⟩ := ho4.form; subst hv4; have hb4 := (HS2.out.keep hx3 (by simp)).keep hm4.grown (fun e => by have := hslt _ e.symm; omega); have s64 : w4.cell? ⟨w.heap.size, 6, none⟩ = some (.slice A (List.length (α := Cd) s.cs) c) := (hb4.cell 6).trans s6; have f64 := hb4.free 6; have hb5 : Blk (w4.setCell ⟨w.heap.size, 6, none⟩ (.slice A4 (List.length (α := Cd) s.cs + 1) c4)) w.heap.size 36 (stc s (.slice A4 (List.length (α := Cd) s.cs + 1) c4)) := (by have h := hb4.set 6 (.slice A4 (List.length (α := Cd) s.cs + 1) c4); rw [← HSC.out] at h; exact h); have hz5 : Blk (w4.setCell ⟨w.heap.size, 6, none⟩ (.slice A4 (List.length (α := Cd) s.cs + 1) c4)) (w.heap.size + 3) 36 Z := ((HZ2.out.keep hx3 (by simp)).keep hm4.grown (fun e => by have := hslt _ e.symm; omega)).keep (only_set 6 _) (by simp); have hso := stc_one s A4 (List.length (α := Cd) s.cs + 1) c4; have hsl := stc_len s (.slice A4 (List.length (α := Cd) s.cs + 1) c4); obtain ⟨D, hD⟩ : ∃ D, D = stc s (.slice A4 (List.length (α := Cd) s.cs + 1) c4) := ⟨_, rfl⟩; rw [← hD] at hb5 hso hsl; have HD := Lib.hid hD; clear hD; have HDL := Lib.hid hsl; clear hsl; have hcs5 := hb5.cells; clear hb5; have hr5 := hz5; clear hz5; clear hb4; have HO4 := Lib.hid ho4; clear ho4; have HM4 := Lib.hid hm4; clear hm4)
            | (refine wpList_load_agg _ rfl 36 (.tmp 4) rfl _ rfl D _ Try.underlying36 rfl (state_size HDL.out) hcs5 ?_)
            | (refine wpList_store_row _ rfl 36 (.tmp 8) (.tmp 46) rfl (w.heap.size + 3) rfl Z D _ rfl hr5 (state_size HDL.out) (by rw [HDL.out, HZL.out]) hso ?_)
            | fail)
          have hc9 := Blk.cells (t := 36) (setRow_at (cs' := D.toArray) hr5)
          (try simp only [Exit.inBlock, Exit.then])
          refine bodyPost_ret (results_agg_tmp rfl _ _ _ _ _ rfl Try.underlying36 rfl (state_size HDL.out) hc9) rfl ?_
          have hlt4 : ∀ g, (Value.slice A4 (List.length (α := Cd) s.cs + 1) c4).ownBlock = some g → g < w.heap.size ∨ w.heap.size + 4 ≤ g := by
            intro g hg
            rcases HM4.out.at_ with e | h
            · exact .inl (hslt g (e ▸ hg))
            · right; have h9 := h g hg; simp only [World.alloc, Array.size_push] at h9; omega
          have o4 := HO4.out.keep (row := some w.heap.size) (only_set 6 (.slice A4 (List.length (α := Cd) s.cs + 1) c4)) (.inr fun hg => by have := hlt4 _ hg; omega)
          have o5 := o4.keep (setRow_only (g := w.heap.size + 3) D.toArray) (.inr fun hg => by have := hlt4 _ hg; omega)
          have f1 : w.grownBy w4 (Value.slice A (List.length (α := Cd) s.cs) c).ownBlock := grown_then ((HXW2.out.trans hx3).any _) HM4.out.grown (.inl rfl)
          have f2 : w.grownBy (w4.setCell ⟨w.heap.size, 6, none⟩ (.slice A4 (List.length (α := Cd) s.cs + 1) c4)) (Value.slice A (List.length (α := Cd) s.cs) c).ownBlock := grown_then f1 (only_set 6 _) (.inr (by rintro g ⟨⟩; omega))
          have f3 := grown_then f2 (setRow_only (g := w.heap.size + 3) D.toArray) (.inr (by rintro g ⟨⟩; omega))
          have hl9 : List.length (α := Cd) (s.cs ++ [ck]) = List.length (α := Cd) s.cs + 1 := by simp
          have hat : (Value.slice A4 (List.length (α := Cd) s.cs + 1) c4).ownBlock = (Value.slice A (List.length (α := Cd) s.cs) c).ownBlock ∨ ∀ g, (Value.slice A4 (List.length (α := Cd) s.cs + 1) c4).ownBlock = some g → w.heap.size ≤ g := by
            rcases HM4.out.at_ with e | h
            · exact .inl e
            · refine .inr fun g hg => ?_
              have h9 := h g hg
              simp only [World.alloc, Array.size_push] at h9
              omega
          refine ⟨.slice A4 (List.length (α := Cd) s.cs + 1) c4, by rw [HRES.out, HD.out]; rfl, ?_, ⟨f3, hat⟩⟩
          rw [HRES.out]
          refine ⟨?_, ?_⟩
          · intro x hx
            rcases List.mem_append.1 hx with hx | hx
            · exact hokc x hx
            · rw [List.mem_singleton.1 hx]; exact hok
          · rw [HX.out, ← HWC.out] at o5
            have e1 : (s.cs ++ [ck]).flatMap condCells = s.cs.flatMap condCells ++ condCells ck := by simp
            show Own _ _ 36 _ (List.length (α := Cd) (s.cs ++ [ck])) ((s.cs ++ [ck]).flatMap condCells)
            rw [e1, hl9]
            exact o5
        · have hr1 : res = (.zero, spendM s p0 p1 side ck.2.2.1) := by rw [hres]; unfold lockM; rw [if_neg (by simp [hby]), if_neg HFN.out, if_neg hl8, if_pos hsp]
          have hsb : (spendM s p0 p1 side ck.2.2.1 != 0) = true := by simpa using hsp
          generalize spendM s p0 p1 side ck.2.2.1 = z at *
          have HRES := Lib.hid hr1
          clear hres hr1 hby hl8 hsp
          go_enter Try.func48, Try.ntmps48
          go_wp2_with (first
            | (refine wpList_alloc _ rfl 36 rfl _ hz ?_)
            | (refine wpList_load_agg _ rfl 36 (.tmp 4) rfl _ rfl SC _ Try.underlying36 rfl (state_size HSSL.out) HSCW.out ?_)
            | fail)
          refine HFD.out.mono ?_
          rintro e w1 ⟨rfl, hx1⟩
          have hxw := HX0.out.trans hx1
          have hs1 := HB0.out.keep hx1 (by simp)
          have hp1 := HB1.out.keep hx1 (by simp)
          have hc1 := HB2.out.keep hx1 (by simp)
          have hz1' := HB3.out.keep hx1 (by simp)
          have s61 : w1.cell? ⟨w.heap.size, 6, none⟩ = some (.slice A (List.length (α := Cd) s.cs) c) := (hs1.cell 6).trans s6
          have c21 : w1.cell? ⟨w.heap.size + 2, 2, none⟩ = some (.int .u64 (ck.2.2.1 : Int)) := (hc1.cell 2).trans k2
          have hr8 : w1.heap[w.heap.size + 3]? = some (.cells Z.toArray 36 (0, 0)) := hz1'
          have hscc := hs1.cells
          have hpcc := hp1.cells
          have hccc := hc1.cells
          go_wp2_with (first
            | (refine wpList_load_agg _ rfl 36 (.tmp 4) rfl _ rfl SC _ Try.underlying36 rfl (state_size HSSL.out) hscc ?_)
            | (refine wpList_load_agg _ rfl 24 (.tmp 5) rfl _ rfl PC _ Try.underlying24 rfl (by rw [HPPL.out]; kernel_rfl) hpcc ?_)
            | fail)
          refine (HSPD.out w1 hxw).mono ?_
          rintro e w2 ⟨rfl, hx2⟩
          have hr8 : w2.heap[w.heap.size + 3]? = some (.cells Z.toArray 36 (0, 0)) := hz1'.keep hx2 (by simp)
          clear hs1 hp1 hc1 hz1'
          go_wp2_with (first
            | (refine wpList_build (.inl rfl) 36 _ rfl (.agg zst.toArray) (by kernel_rfl) ?_; rw [HZB.out])
            | (refine wpList_store_row _ rfl 36 (.tmp 8) (.tmp 38) rfl (w.heap.size + 3) rfl Z Z _ rfl hr8 (state_size HZL.out) rfl hzo ?_)
            | fail)
          have hc9 : Cells (w2.setRow (w.heap.size + 3) Z.toArray) ⟨w.heap.size + 3, 0, none⟩ Z := Blk.cells (t := 36) (setRow_at hr8)
          (try simp only [Exit.inBlock, Exit.then])
          refine bodyPost_ret (results_agg_tmp rfl _ _ _ _ _ rfl Try.underlying36 rfl (state_size HZL.out) hc9) rfl ?_
          refine ⟨.slice none 0 0, ?_, by rw [HRES.out]; exact ⟨by simp [St.zero], Own.nil _ _ _⟩, ⟨Ext.any (grown_then (hxw.trans hx2) (setRow_only _) (.inr (by rintro g ⟨⟩; omega))) _, .inr (by simp [Value.ownBlock])⟩⟩
          rw [HRES.out, ← HZS.out]; rfl
  · have hr1 : res = (.zero, 1) := by rw [hres]; unfold lockM; rw [if_pos hby]
    have HRES := Lib.hid hr1
    have hbb : (ck.2.1 == side) = false := by simpa using hby
    have hbn : (ck.2.1 != side) = true := by simpa using hby
    have hr8 : ((((w.alloc (.cells SC.toArray 36)).alloc (.cells PC.toArray 24)).alloc (.cells C.toArray 44)).alloc (.cells Z.toArray 36)).heap[w.heap.size + 3]? = some (.cells Z.toArray 36 (0, 0)) := HB3.out
    clear hres hr1 hby
    go_enter Try.func48, Try.ntmps48
    go_wp2_with (first
      | (refine wpList_alloc _ rfl 36 rfl _ hz ?_)
      | (refine wpList_build (.inl rfl) 36 _ rfl (.agg zst.toArray) (by kernel_rfl) ?_; rw [HZB.out])
      | (refine wpList_store_row _ rfl 36 (.tmp 8) (.tmp 16) rfl (w.heap.size + 3) rfl Z Z _ rfl hr8 (state_size HZL.out) rfl hzo ?_)
      | fail)
    have hc9 : Cells (((((w.alloc (.cells SC.toArray 36)).alloc (.cells PC.toArray 24)).alloc (.cells C.toArray 44)).alloc (.cells Z.toArray 36)).setRow (w.heap.size + 3) Z.toArray) ⟨w.heap.size + 3, 0, none⟩ Z := Blk.cells (t := 36) (setRow_at hr8)
    (try simp only [Exit.inBlock, Exit.then])
    refine bodyPost_ret (results_agg_tmp rfl _ _ _ _ _ rfl Try.underlying36 rfl (state_size HZL.out) hc9) rfl ?_
    refine ⟨.slice none 0 0, ?_, by rw [HRES.out]; exact ⟨by simp [St.zero], Own.nil _ _ _⟩, ⟨Ext.any (grown_then (HX0.out) (setRow_only _) (.inr (by rintro g ⟨⟩; omega))) _, .inr (by simp [Value.ownBlock])⟩⟩
    rw [HRES.out, ← HZS.out]; rfl
end Go.Proofs.Ytnpolfihbfdggaa

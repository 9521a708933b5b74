/- Walk of the document's Next of layer 12, kind by kind. Conditions: the numbers are in their bounds. -/
import Derived.Test.YtnpolfihbfdggaaPRNextD
set_option linter.unusedVariables false
set_option linter.unusedSimpArgs false
set_option linter.unnecessarySimpa false
namespace Go.Proofs.Ytnpolfihbfdggaa
open Go.RowKit

set_option maxRecDepth 100000 in
set_option maxHeartbeats 8000000 in
theorem RNext3e (w : World) (F : Fp) (s : St) (p0 p1 : Nat) (v : Value) (SC PC OC Z : List Value) (sd : Int) (r1 am cid cam oid : Nat) (cside : Int) (fd : Nat → Int) (rm : Nat → Int) (hin : RNextIn w SC PC OC Z sd s.cs s.round r1 am cid cam oid 3 cside 0 fd rm sd) (hneg : fd oid < 0) (hr1 : r1 = s.round + 1)
    (hsc : SC = stc s v) (hpc : PC = ptc p0 p1) (hs : StOk s) (hc : Conds w F v s.cs) (hF : ∀ b, F b → b < w.heap.size) (hrd' : s.round < 200) (h8 : List.length (α := Cd) s.cs ≤ 8) (hp0 : p0 < M64) (hp1 : p1 < M64) :
    Calls Try.prog 13 #[.agg SC.toArray, .agg PC.toArray, .int .i64 sd, .agg OC.toArray] w fun e w' => ∃ v', e = .returned (.tuple #[.agg (stc (((St.zero, 6) : St × Int)).1 v').toArray, .int .i64 (((St.zero, 6) : St × Int)).2]) ∧ OwnFrom w' v' (((St.zero, 6) : St × Int)).1.cs ∧ Ext w w' := by
  obtain ⟨i1, z1, hi1, hz1, hi2, hi3, hi4⟩ := partsFrom
  obtain ⟨A, c, xs, rfl, hlc, hcm, hA, hcell, hall⟩ := conds_open hc
  clear hc
  unfold maxLen at hcm
  have hs6 : SC[6]? = some (.slice A (List.length (α := Cd) s.cs) c) := by rw [hsc]; rfl
  have hs0 : SC[0]? = some (.int .u32 (s.chan : Int)) := by rw [hsc]; rfl
  have hsm : (SC.drop 2).take 2 = ptc s.m0 s.m1 := by rw [hsc]; rfl
  have hst : (SC.drop 4).take 2 = ptc s.t0 s.t1 := by rw [hsc]; rfl
  have HPE := Lib.hid hpc
  have HR1 := Lib.hid hr1
  clear hsc hpc hr1
  obtain ⟨rd, hrd⟩ : ∃ rd, rd = s.round := ⟨_, rfl⟩
  rw [← hrd] at hin hrd'
  have hz := hin.zi
  have hzo := hin.zo
  have HZB : Hid (Z = zst) := hin.zE
  have HSL := Lib.hid hin.sl
  have HPL := Lib.hid hin.pl
  have HOL := Lib.hid hin.ol
  have HZL := Lib.hid hin.zl
  have hb0 : Blk ((((w.alloc (.cells SC.toArray 27)).alloc (.cells PC.toArray 24)).alloc (.cells OC.toArray 32)).alloc (.cells Z.toArray 27)) w.heap.size 27 SC := (Blk.new _ _ _).keep ((((Ext.refl _).alloc _).alloc _).alloc _) (by simp)
  have hb1 : Blk ((((w.alloc (.cells SC.toArray 27)).alloc (.cells PC.toArray 24)).alloc (.cells OC.toArray 32)).alloc (.cells Z.toArray 27)) (w.heap.size + 1) 24 PC := (Blk.new_at (by simp) _ _).keep (((Ext.refl _).alloc _).alloc _) (by simp)
  have hb2 : Blk ((((w.alloc (.cells SC.toArray 27)).alloc (.cells PC.toArray 24)).alloc (.cells OC.toArray 32)).alloc (.cells Z.toArray 27)) (w.heap.size + 2) 32 OC := (Blk.new_at (by simp) _ _).keep ((Ext.refl _).alloc _) (by simp)
  have hb3 : Blk ((((w.alloc (.cells SC.toArray 27)).alloc (.cells PC.toArray 24)).alloc (.cells OC.toArray 32)).alloc (.cells Z.toArray 27)) (w.heap.size + 3) 27 Z := Blk.new_at (by simp) _ _
  have hx0 : Ext w ((((w.alloc (.cells SC.toArray 27)).alloc (.cells PC.toArray 24)).alloc (.cells OC.toArray 32)).alloc (.cells Z.toArray 27)) := ((((Ext.refl w).alloc _).alloc _).alloc _).alloc _
  have hcs := hb0.cells
  have hcp := hb1.cells
  have HB0 := Lib.hid hb0
  have HB1 := Lib.hid hb1
  have HB2 := Lib.hid hb2
  have HB3 := Lib.hid hb3
  have HX0 := Lib.hid hx0
  have HIN := Lib.hid hin
  clear hb0 hb1 hb2 hb3 hx0 hin
  have c1' : ∀ W, Ext ((((w.alloc (.cells SC.toArray 27)).alloc (.cells PC.toArray 24)).alloc (.cells OC.toArray 32)).alloc (.cells Z.toArray 27)) W → W.cell? ⟨w.heap.size, 1, none⟩ = some (.int .u64 (rd : Int)) := fun W h => ((HB0.out.keep h (by simp)).cell 1).trans HIN.out.s1
  have C1 := Lib.hid c1'
  have hrb : ((rd : Int) == 200) = false := by rw [beq_eq_false_iff_ne]; omega
  have htb : (sd != sd) = false := bne_self_eq_false _
  have hw1 := HIN.out.w1
  have HRD := Lib.hid hrd
  clear c1' hrd
  go_enter Try.func13, Try.ntmps13
  go_wp2_with (first
    | (refine wpList_alloc _ rfl 27 rfl _ hz ?_)
    | (refine wpList_load_agg _ rfl 27 (.tmp 4) rfl _ rfl SC _ Try.underlying27 rfl (szSFrom HSL.out) hcs ?_)
    | (refine wpList_load_agg _ rfl 24 (.tmp 5) rfl _ rfl PC _ Try.underlying24 rfl (by rw [HPL.out]; kernel_rfl) hcp ?_)
    | fail)
  refine (HIN.out.sn _ HX0.out).mono ?_
  rintro e w1 ⟨rfl, hx1⟩
  have d1 := C1.out w1 hx1
  have hbs := HB0.out.keep hx1 (by simp)
  have d0 := (hbs.cell 0).trans hs0
  have hm2 : Cells w1 ⟨w.heap.size, 2, none⟩ (ptc s.m0 s.m1) := by have h := (hbs.cells.drop 2).take 2; rw [hsm] at h; simpa [Addr.add] using h
  have ht4 : Cells w1 ⟨w.heap.size, 4, none⟩ (ptc s.t0 s.t1) := by have h := (hbs.cells.drop 4).take 2; rw [hst] at h; simpa [Addr.add] using h
  have k0 : (w1.alloc (.cells (stc { s with round := r1, cs := [] } (.slice none 0 0)).toArray 27)).cell? ⟨w.heap.size + 2, 0, none⟩ = some (.int .i64 3) := ((HB2.out.keep (hx1.alloc _) (by simp)).cell 0).trans HIN.out.o0
  have k38 : (w1.alloc (.cells (stc { s with round := r1, cs := [] } (.slice none 0 0)).toArray 27)).cell? ⟨w.heap.size + 2, 38, none⟩ = some (.int .u64 (oid : Int)) := ((HB2.out.keep (hx1.alloc _) (by simp)).cell 38).trans HIN.out.o38
  have hcs2 := (HB0.out.keep (hx1.alloc (.cells (stc { s with round := r1, cs := [] } (.slice none 0 0)).toArray 27)) (by simp)).cells
  have hI : RInv w (w1.alloc (.cells (stc { s with round := r1, cs := [] } (.slice none 0 0)).toArray 27)) SC PC OC Z w1.heap.size { s with round := r1, cs := [] } (.slice none 0 0) [] := by
    have hx := hx1.alloc (.cells (stc { s with round := r1, cs := [] } (.slice none 0 0)).toArray 27)
    exact ⟨HX0.out.trans hx, HB0.out.keep hx (by simp), HB1.out.keep hx (by simp), HB2.out.keep hx (by simp), HB3.out.keep hx (by simp), Blk.new _ _ _, ⟨by simp, Own.nil _ _ _⟩, by simp [Value.ownBlock]⟩
  have hg11 : w.heap.size + 4 ≤ w1.heap.size := by have h1 := HB3.out.lt; have h2 := hx1.size; omega
  have HI := Lib.hid hI
  clear hI hbs
  have hfd := HIN.out.fn _ HI.out.ext oid
  generalize fd oid = fz at *
  have HFD := Lib.hid hfd
  clear hfd
  go_wp2_with (first
    | (go_at_call 30; refine (HIN.out.turn _).mono ?_; rintro e _ ⟨rfl, rfl⟩)
    | (refine wpList_load_agg _ rfl 24 (.tmp 39) rfl _ rfl (ptc s.m0 s.m1) _ Try.underlying24 rfl (n2_size rfl) hm2 ?_)
    | (refine wpList_load_agg _ rfl 24 (.tmp 41) rfl _ rfl (ptc s.t0 s.t1) _ Try.underlying24 rfl (n2_size rfl) ht4 ?_)
    | (refine wpList_build (.inl rfl) 27 _ rfl (.agg (stc { s with round := r1, cs := [] } (.slice none 0 0)).toArray) (by kernel_rfl) ?_)
    | (refine wpList_alloc _ rfl 27 rfl _ hz ?_)
    | (refine wpList_store_new _ rfl 27 (.tmp 11) (.tmp 43) rfl rfl Z (stc { s with round := r1, cs := [] } (.slice none 0 0)) _ rfl (szSFrom rfl) (by rw [HZL.out]; rfl) (stc_one _ _ _ _) ?_)
    | (refine wpList_load_agg _ rfl 27 (.tmp 4) rfl _ rfl SC _ Try.underlying27 rfl (szSFrom HSL.out) hcs2 ?_)
    | fail)
  refine HFD.out.mono ?_
  rintro e w2 ⟨rfl, hx2⟩
  have HI := Lib.hid (HI.out.ext' hx2)
  clear k0 k38 hcs2 hx1 hm2 ht4 d0 d1 hx2
  have hr8 : w2.heap[w.heap.size + 3]? = some (.cells Z.toArray 27 (0, 0)) := HI.out.z
  go_wp2_with (first
    | (refine wpList_build (.inl rfl) 27 _ rfl (.agg zst.toArray) (by kernel_rfl) ?_; rw [← HZB])
    | (refine wpList_store_row _ rfl 27 (.tmp 8) (.tmp 58) rfl (w.heap.size + 3) rfl Z Z _ rfl hr8 (szSFrom HZL.out) rfl hzo ?_)
    | fail)
  have hc9 := Blk.cells (t := 27) (setRow_at (cs' := Z.toArray) hr8)
  (try simp only [Exit.inBlock, Exit.then])
  refine bodyPost_ret (results_agg_tmp rfl _ _ _ _ _ rfl Try.underlying27 rfl (szSFrom HZL.out) hc9) rfl ?_
  exact ⟨.slice none 0 0, by rw [HZB]; rfl, ⟨by simp [St.zero], Own.nil _ _ _⟩, grown_then HI.out.ext (setRow_only _) (.inr (by rintro b ⟨⟩; omega))⟩
set_option maxRecDepth 100000 in
set_option maxHeartbeats 8000000 in
theorem RNext4e (w : World) (F : Fp) (s : St) (p0 p1 : Nat) (v : Value) (SC PC OC Z : List Value) (sd : Int) (r1 am cid cam oid : Nat) (cside : Int) (fd : Nat → Int) (rm : Nat → Int) (hin : RNextIn w SC PC OC Z sd s.cs s.round r1 am cid cam oid 4 cside 0 fd rm sd) (hneg : fd oid < 0) (hr1 : r1 = s.round + 1)
    (hsc : SC = stc s v) (hpc : PC = ptc p0 p1) (hs : StOk s) (hc : Conds w F v s.cs) (hF : ∀ b, F b → b < w.heap.size) (hrd' : s.round < 200) (h8 : List.length (α := Cd) s.cs ≤ 8) (hp0 : p0 < M64) (hp1 : p1 < M64) :
    Calls Try.prog 13 #[.agg SC.toArray, .agg PC.toArray, .int .i64 sd, .agg OC.toArray] w fun e w' => ∃ v', e = .returned (.tuple #[.agg (stc (((St.zero, 6) : St × Int)).1 v').toArray, .int .i64 (((St.zero, 6) : St × Int)).2]) ∧ OwnFrom w' v' (((St.zero, 6) : St × Int)).1.cs ∧ Ext w w' := by
  obtain ⟨i1, z1, hi1, hz1, hi2, hi3, hi4⟩ := partsFrom
  obtain ⟨A, c, xs, rfl, hlc, hcm, hA, hcell, hall⟩ := conds_open hc
  clear hc
  unfold maxLen at hcm
  have hs6 : SC[6]? = some (.slice A (List.length (α := Cd) s.cs) c) := by rw [hsc]; rfl
  have hs0 : SC[0]? = some (.int .u32 (s.chan : Int)) := by rw [hsc]; rfl
  have hsm : (SC.drop 2).take 2 = ptc s.m0 s.m1 := by rw [hsc]; rfl
  have hst : (SC.drop 4).take 2 = ptc s.t0 s.t1 := by rw [hsc]; rfl
  have HPE := Lib.hid hpc
  have HR1 := Lib.hid hr1
  clear hsc hpc hr1
  obtain ⟨rd, hrd⟩ : ∃ rd, rd = s.round := ⟨_, rfl⟩
  rw [← hrd] at hin hrd'
  have hz := hin.zi
  have hzo := hin.zo
  have HZB : Hid (Z = zst) := hin.zE
  have HSL := Lib.hid hin.sl
  have HPL := Lib.hid hin.pl
  have HOL := Lib.hid hin.ol
  have HZL := Lib.hid hin.zl
  have hb0 : Blk ((((w.alloc (.cells SC.toArray 27)).alloc (.cells PC.toArray 24)).alloc (.cells OC.toArray 32)).alloc (.cells Z.toArray 27)) w.heap.size 27 SC := (Blk.new _ _ _).keep ((((Ext.refl _).alloc _).alloc _).alloc _) (by simp)
  have hb1 : Blk ((((w.alloc (.cells SC.toArray 27)).alloc (.cells PC.toArray 24)).alloc (.cells OC.toArray 32)).alloc (.cells Z.toArray 27)) (w.heap.size + 1) 24 PC := (Blk.new_at (by simp) _ _).keep (((Ext.refl _).alloc _).alloc _) (by simp)
  have hb2 : Blk ((((w.alloc (.cells SC.toArray 27)).alloc (.cells PC.toArray 24)).alloc (.cells OC.toArray 32)).alloc (.cells Z.toArray 27)) (w.heap.size + 2) 32 OC := (Blk.new_at (by simp) _ _).keep ((Ext.refl _).alloc _) (by simp)
  have hb3 : Blk ((((w.alloc (.cells SC.toArray 27)).alloc (.cells PC.toArray 24)).alloc (.cells OC.toArray 32)).alloc (.cells Z.toArray 27)) (w.heap.size + 3) 27 Z := Blk.new_at (by simp) _ _
  have hx0 : Ext w ((((w.alloc (.cells SC.toArray 27)).alloc (.cells PC.toArray 24)).alloc (.cells OC.toArray 32)).alloc (.cells Z.toArray 27)) := ((((Ext.refl w).alloc _).alloc _).alloc _).alloc _
  have hcs := hb0.cells
  have hcp := hb1.cells
  have HB0 := Lib.hid hb0
  have HB1 := Lib.hid hb1
  have HB2 := Lib.hid hb2
  have HB3 := Lib.hid hb3
  have HX0 := Lib.hid hx0
  have HIN := Lib.hid hin
  clear hb0 hb1 hb2 hb3 hx0 hin
  have c1' : ∀ W, Ext ((((w.alloc (.cells SC.toArray 27)).alloc (.cells PC.toArray 24)).alloc (.cells OC.toArray 32)).alloc (.cells Z.toArray 27)) W → W.cell? ⟨w.heap.size, 1, none⟩ = some (.int .u64 (rd : Int)) := fun W h => ((HB0.out.keep h (by simp)).cell 1).trans HIN.out.s1
  have C1 := Lib.hid c1'
  have hrb : ((rd : Int) == 200) = false := by rw [beq_eq_false_iff_ne]; omega
  have htb : (sd != sd) = false := bne_self_eq_false _
  have hw1 := HIN.out.w1
  have HRD := Lib.hid hrd
  clear c1' hrd
  go_enter Try.func13, Try.ntmps13
  go_wp2_with (first
    | (refine wpList_alloc _ rfl 27 rfl _ hz ?_)
    | (refine wpList_load_agg _ rfl 27 (.tmp 4) rfl _ rfl SC _ Try.underlying27 rfl (szSFrom HSL.out) hcs ?_)
    | (refine wpList_load_agg _ rfl 24 (.tmp 5) rfl _ rfl PC _ Try.underlying24 rfl (by rw [HPL.out]; kernel_rfl) hcp ?_)
    | fail)
  refine (HIN.out.sn _ HX0.out).mono ?_
  rintro e w1 ⟨rfl, hx1⟩
  have d1 := C1.out w1 hx1
  have hbs := HB0.out.keep hx1 (by simp)
  have d0 := (hbs.cell 0).trans hs0
  have hm2 : Cells w1 ⟨w.heap.size, 2, none⟩ (ptc s.m0 s.m1) := by have h := (hbs.cells.drop 2).take 2; rw [hsm] at h; simpa [Addr.add] using h
  have ht4 : Cells w1 ⟨w.heap.size, 4, none⟩ (ptc s.t0 s.t1) := by have h := (hbs.cells.drop 4).take 2; rw [hst] at h; simpa [Addr.add] using h
  have k0 : (w1.alloc (.cells (stc { s with round := r1, cs := [] } (.slice none 0 0)).toArray 27)).cell? ⟨w.heap.size + 2, 0, none⟩ = some (.int .i64 4) := ((HB2.out.keep (hx1.alloc _) (by simp)).cell 0).trans HIN.out.o0
  have k38 : (w1.alloc (.cells (stc { s with round := r1, cs := [] } (.slice none 0 0)).toArray 27)).cell? ⟨w.heap.size + 2, 38, none⟩ = some (.int .u64 (oid : Int)) := ((HB2.out.keep (hx1.alloc _) (by simp)).cell 38).trans HIN.out.o38
  have hcs2 := (HB0.out.keep (hx1.alloc (.cells (stc { s with round := r1, cs := [] } (.slice none 0 0)).toArray 27)) (by simp)).cells
  have hI : RInv w (w1.alloc (.cells (stc { s with round := r1, cs := [] } (.slice none 0 0)).toArray 27)) SC PC OC Z w1.heap.size { s with round := r1, cs := [] } (.slice none 0 0) [] := by
    have hx := hx1.alloc (.cells (stc { s with round := r1, cs := [] } (.slice none 0 0)).toArray 27)
    exact ⟨HX0.out.trans hx, HB0.out.keep hx (by simp), HB1.out.keep hx (by simp), HB2.out.keep hx (by simp), HB3.out.keep hx (by simp), Blk.new _ _ _, ⟨by simp, Own.nil _ _ _⟩, by simp [Value.ownBlock]⟩
  have hg11 : w.heap.size + 4 ≤ w1.heap.size := by have h1 := HB3.out.lt; have h2 := hx1.size; omega
  have HI := Lib.hid hI
  clear hI hbs
  have hfd := HIN.out.fn _ HI.out.ext oid
  generalize fd oid = fz at *
  have HFD := Lib.hid hfd
  clear hfd
  go_wp2_with (first
    | (go_at_call 30; refine (HIN.out.turn _).mono ?_; rintro e _ ⟨rfl, rfl⟩)
    | (refine wpList_load_agg _ rfl 24 (.tmp 39) rfl _ rfl (ptc s.m0 s.m1) _ Try.underlying24 rfl (n2_size rfl) hm2 ?_)
    | (refine wpList_load_agg _ rfl 24 (.tmp 41) rfl _ rfl (ptc s.t0 s.t1) _ Try.underlying24 rfl (n2_size rfl) ht4 ?_)
    | (refine wpList_build (.inl rfl) 27 _ rfl (.agg (stc { s with round := r1, cs := [] } (.slice none 0 0)).toArray) (by kernel_rfl) ?_)
    | (refine wpList_alloc _ rfl 27 rfl _ hz ?_)
    | (refine wpList_store_new _ rfl 27 (.tmp 11) (.tmp 43) rfl rfl Z (stc { s with round := r1, cs := [] } (.slice none 0 0)) _ rfl (szSFrom rfl) (by rw [HZL.out]; rfl) (stc_one _ _ _ _) ?_)
    | (refine wpList_load_agg _ rfl 27 (.tmp 4) rfl _ rfl SC _ Try.underlying27 rfl (szSFrom HSL.out) hcs2 ?_)
    | fail)
  refine HFD.out.mono ?_
  rintro e w2 ⟨rfl, hx2⟩
  have HI := Lib.hid (HI.out.ext' hx2)
  clear k0 k38 hcs2 hx1 hm2 ht4 d0 d1 hx2
  have hr8 : w2.heap[w.heap.size + 3]? = some (.cells Z.toArray 27 (0, 0)) := HI.out.z
  go_wp2_with (first
    | (refine wpList_build (.inl rfl) 27 _ rfl (.agg zst.toArray) (by kernel_rfl) ?_; rw [← HZB])
    | (refine wpList_store_row _ rfl 27 (.tmp 8) (.tmp 58) rfl (w.heap.size + 3) rfl Z Z _ rfl hr8 (szSFrom HZL.out) rfl hzo ?_)
    | fail)
  have hc9 := Blk.cells (t := 27) (setRow_at (cs' := Z.toArray) hr8)
  (try simp only [Exit.inBlock, Exit.then])
  refine bodyPost_ret (results_agg_tmp rfl _ _ _ _ _ rfl Try.underlying27 rfl (szSFrom HZL.out) hc9) rfl ?_
  exact ⟨.slice none 0 0, by rw [HZB]; rfl, ⟨by simp [St.zero], Own.nil _ _ _⟩, grown_then HI.out.ext (setRow_only _) (.inr (by rintro b ⟨⟩; omega))⟩
set_option maxRecDepth 100000 in
set_option maxHeartbeats 8000000 in
theorem RNext2 (w : World) (F : Fp) (s : St) (p0 p1 : Nat) (v : Value) (SC PC OC Z : List Value) (sd : Int) (r1 am cid cam oid : Nat) (cside : Int) (fd : Nat → Int) (rm : Nat → Int) (hin : RNextIn w SC PC OC Z sd s.cs s.round r1 am cid cam oid 2 cside 0 fd rm sd) (cd : Cd) (T : St × Int) (hokc : CondOk cd) (hcd : (OC.drop 2).take 36 = condCells cd) (hcam : cam < M64) (hf1 : cside ≠ sd → T = (.zero, 1)) (hf7 : cside = sd → 0 ≤ fd cid → T = (.zero, 7)) (hf4 : cside = sd → fd cid < 0 → List.length (α := Cd) s.cs = 8 → T = (.zero, 4)) (hfr : cside = sd → fd cid < 0 → List.length (α := Cd) s.cs ≠ 8 → rm cam ≠ 0 → T = (.zero, rm cam)) (hf0 : cside = sd → fd cid < 0 → List.length (α := Cd) s.cs ≠ 8 → rm cam = 0 → T = finM ({ s with round := r1, cs := s.cs ++ [cd] } : St) p0 p1) (hr1 : r1 = s.round + 1)
    (hsc : SC = stc s v) (hpc : PC = ptc p0 p1) (hs : StOk s) (hc : Conds w F v s.cs) (hF : ∀ b, F b → b < w.heap.size) (hrd' : s.round < 200) (h8 : List.length (α := Cd) s.cs ≤ 8) (hp0 : p0 < M64) (hp1 : p1 < M64) :
    Calls Try.prog 13 #[.agg SC.toArray, .agg PC.toArray, .int .i64 sd, .agg OC.toArray] w fun e w' => ∃ v', e = .returned (.tuple #[.agg (stc (T).1 v').toArray, .int .i64 (T).2]) ∧ OwnFrom w' v' (T).1.cs ∧ Ext w w' := by
  have HCD := Lib.hid hcd
  clear hcd
  obtain ⟨i1, z1, hi1, hz1, hi2, hi3, hi4⟩ := partsFrom
  obtain ⟨A, c, xs, rfl, hlc, hcm, hA, hcell, hall⟩ := conds_open hc
  clear hc
  unfold maxLen at hcm
  have hs6 : SC[6]? = some (.slice A (List.length (α := Cd) s.cs) c) := by rw [hsc]; rfl
  have hs0 : SC[0]? = some (.int .u32 (s.chan : Int)) := by rw [hsc]; rfl
  have hsm : (SC.drop 2).take 2 = ptc s.m0 s.m1 := by rw [hsc]; rfl
  have hst : (SC.drop 4).take 2 = ptc s.t0 s.t1 := by rw [hsc]; rfl
  have HPE := Lib.hid hpc
  have HR1 := Lib.hid hr1
  clear hsc hpc hr1
  obtain ⟨rd, hrd⟩ : ∃ rd, rd = s.round := ⟨_, rfl⟩
  rw [← hrd] at hin hrd'
  have hz := hin.zi
  have hzo := hin.zo
  have HZB : Hid (Z = zst) := hin.zE
  have HSL := Lib.hid hin.sl
  have HPL := Lib.hid hin.pl
  have HOL := Lib.hid hin.ol
  have HZL := Lib.hid hin.zl
  have hb0 : Blk ((((w.alloc (.cells SC.toArray 27)).alloc (.cells PC.toArray 24)).alloc (.cells OC.toArray 32)).alloc (.cells Z.toArray 27)) w.heap.size 27 SC := (Blk.new _ _ _).keep ((((Ext.refl _).alloc _).alloc _).alloc _) (by simp)
  have hb1 : Blk ((((w.alloc (.cells SC.toArray 27)).alloc (.cells PC.toArray 24)).alloc (.cells OC.toArray 32)).alloc (.cells Z.toArray 27)) (w.heap.size + 1) 24 PC := (Blk.new_at (by simp) _ _).keep (((Ext.refl _).alloc _).alloc _) (by simp)
  have hb2 : Blk ((((w.alloc (.cells SC.toArray 27)).alloc (.cells PC.toArray 24)).alloc (.cells OC.toArray 32)).alloc (.cells Z.toArray 27)) (w.heap.size + 2) 32 OC := (Blk.new_at (by simp) _ _).keep ((Ext.refl _).alloc _) (by simp)
  have hb3 : Blk ((((w.alloc (.cells SC.toArray 27)).alloc (.cells PC.toArray 24)).alloc (.cells OC.toArray 32)).alloc (.cells Z.toArray 27)) (w.heap.size + 3) 27 Z := Blk.new_at (by simp) _ _
  have hx0 : Ext w ((((w.alloc (.cells SC.toArray 27)).alloc (.cells PC.toArray 24)).alloc (.cells OC.toArray 32)).alloc (.cells Z.toArray 27)) := ((((Ext.refl w).alloc _).alloc _).alloc _).alloc _
  have hcs := hb0.cells
  have hcp := hb1.cells
  have HB0 := Lib.hid hb0
  have HB1 := Lib.hid hb1
  have HB2 := Lib.hid hb2
  have HB3 := Lib.hid hb3
  have HX0 := Lib.hid hx0
  have HIN := Lib.hid hin
  clear hb0 hb1 hb2 hb3 hx0 hin
  have c1' : ∀ W, Ext ((((w.alloc (.cells SC.toArray 27)).alloc (.cells PC.toArray 24)).alloc (.cells OC.toArray 32)).alloc (.cells Z.toArray 27)) W → W.cell? ⟨w.heap.size, 1, none⟩ = some (.int .u64 (rd : Int)) := fun W h => ((HB0.out.keep h (by simp)).cell 1).trans HIN.out.s1
  have C1 := Lib.hid c1'
  have hrb : ((rd : Int) == 200) = false := by rw [beq_eq_false_iff_ne]; omega
  have htb : (sd != sd) = false := bne_self_eq_false _
  have hw1 := HIN.out.w1
  have HRD := Lib.hid hrd
  clear c1' hrd
  go_enter Try.func13, Try.ntmps13
  go_wp2_with (first
    | (refine wpList_alloc _ rfl 27 rfl _ hz ?_)
    | (refine wpList_load_agg _ rfl 27 (.tmp 4) rfl _ rfl SC _ Try.underlying27 rfl (szSFrom HSL.out) hcs ?_)
    | (refine wpList_load_agg _ rfl 24 (.tmp 5) rfl _ rfl PC _ Try.underlying24 rfl (by rw [HPL.out]; kernel_rfl) hcp ?_)
    | fail)
  refine (HIN.out.sn _ HX0.out).mono ?_
  rintro e w1 ⟨rfl, hx1⟩
  have d1 := C1.out w1 hx1
  have hbs := HB0.out.keep hx1 (by simp)
  have d0 := (hbs.cell 0).trans hs0
  have hm2 : Cells w1 ⟨w.heap.size, 2, none⟩ (ptc s.m0 s.m1) := by have h := (hbs.cells.drop 2).take 2; rw [hsm] at h; simpa [Addr.add] using h
  have ht4 : Cells w1 ⟨w.heap.size, 4, none⟩ (ptc s.t0 s.t1) := by have h := (hbs.cells.drop 4).take 2; rw [hst] at h; simpa [Addr.add] using h
  have k0 : (w1.alloc (.cells (stc { s with round := r1, cs := [] } (.slice none 0 0)).toArray 27)).cell? ⟨w.heap.size + 2, 0, none⟩ = some (.int .i64 2) := ((HB2.out.keep (hx1.alloc _) (by simp)).cell 0).trans HIN.out.o0
  have hI : RInv w (w1.alloc (.cells (stc { s with round := r1, cs := [] } (.slice none 0 0)).toArray 27)) SC PC OC Z w1.heap.size { s with round := r1, cs := [] } (.slice none 0 0) [] := by
    have hx := hx1.alloc (.cells (stc { s with round := r1, cs := [] } (.slice none 0 0)).toArray 27)
    exact ⟨HX0.out.trans hx, HB0.out.keep hx (by simp), HB1.out.keep hx (by simp), HB2.out.keep hx (by simp), HB3.out.keep hx (by simp), Blk.new _ _ _, ⟨by simp, Own.nil _ _ _⟩, by simp [Value.ownBlock]⟩
  have hg11 : w.heap.size + 4 ≤ w1.heap.size := by have h1 := HB3.out.lt; have h2 := hx1.size; omega
  have HI := Lib.hid hI
  clear hI hbs
  go_wp2_with (first
    | (go_at_call 30; refine (HIN.out.turn _).mono ?_; rintro e _ ⟨rfl, rfl⟩)
    | (refine wpList_load_agg _ rfl 24 (.tmp 39) rfl _ rfl (ptc s.m0 s.m1) _ Try.underlying24 rfl (n2_size rfl) hm2 ?_)
    | (refine wpList_load_agg _ rfl 24 (.tmp 41) rfl _ rfl (ptc s.t0 s.t1) _ Try.underlying24 rfl (n2_size rfl) ht4 ?_)
    | (refine wpList_build (.inl rfl) 27 _ rfl (.agg (stc { s with round := r1, cs := [] } (.slice none 0 0)).toArray) (by kernel_rfl) ?_)
    | (refine wpList_alloc _ rfl 27 rfl _ hz ?_)
    | (refine wpList_store_new _ rfl 27 (.tmp 11) (.tmp 43) rfl rfl Z (stc { s with round := r1, cs := [] } (.slice none 0 0)) _ rfl (szSFrom rfl) (by rw [HZL.out]; rfl) (stc_one _ _ _ _) ?_)
    | fail
    | fail)
  generalize w1.alloc (.cells (stc { s with round := r1, cs := [] } (.slice none 0 0)).toArray 27) = w2 at *
  generalize w1.heap.size = g11 at *
  clear k0
  go_loopw [13] (fun i wr => ∃ (j : Nat) (v' : Value), j ≤ List.length (α := Cd) s.cs ∧ i = .int .i64 j ∧ RInv w wr SC PC OC Z g11 { s with round := r1, cs := [] } v' (keptM s.cs none j)) (fun i _ => List.length (α := Cd) s.cs - (intOf i).toNat)
  case atStart => exact ⟨0, .slice none 0 0, by omega, rfl, by rw [kept_zero]; exact HI.out⟩
  case round =>
    clear HI
    obtain ⟨j, v', hj, rfl, hI⟩ := hrel
    have HI := Lib.hid hI
    clear hI
    have e6 : wr.cell? ⟨w.heap.size, 6, none⟩ = some (.slice A (List.length (α := Cd) s.cs) c) := (HI.out.sc.cell 6).trans hs6
    by_cases hlt : j < List.length (α := Cd) s.cs
    · obtain ⟨ad, rfl, hf, hcells⟩ := hcell (by omega)
      have hjb : ((j : Int) != -1) = true := by rw [bne_iff_ne]; omega
      obtain ⟨hcc, hok⟩ := conds_at hall (hcells.keep (HI.out.ext.same hF _ hf)) hlt
      have hks := kept_step s.cs none j hlt (by simp)
      have hkl := kept_len s.cs none j
      have hone := condCells_one s.cs[j]
      have HCL := Lib.hid (condCells_len hok)
      generalize hck : s.cs[j] = ck at *
      generalize hCE : condCells ck = C at *
      have HCE := Lib.hid hCE
      have HKS := Lib.hid hks
      have HKL := Lib.hid hkl
      have HOKC := Lib.hid hok
      clear hks hkl hcells hCE hok hck
      go_wp2
      have hcc : Cells wr.drew (ad.add (j * 36)) C := hcc
      have hd6 : wr.drew.cell? ⟨w.heap.size, 6, none⟩ = some (.slice (some ad) (List.length (α := Cd) s.cs) c) := e6
      have HI := Lib.hid (HI.out.ext' (Ext.refl wr).drew)
      refine startL 10 (KeepB fun b => b = g11 ∨ b ≤ w.heap.size) (by kernel_rfl) ?_
      (try simp only [Act.put, List.setIfInBounds_toArray, List.set_cons_succ, List.set_cons_zero])
      generalize wr.drew = w0 at *
      have hc6 : w0.cell? ⟨g11, 6, none⟩ = some v' := (HI.out.nb.cell 6).trans rfl
      have C6 := Lib.hid hc6
      have D6 := Lib.hid hd6
      have HCC := Lib.hid hcc
      clear hc6 hd6 hcc e6
      refine takeN (fun _ _ _ => rfl) 0 rfl (by kernel_rfl) (by kernel_rfl) (by kernel_rfl) rfl (fun _ _ _ _ h => h) rfl (fun K hK => ?_)
      go_big_quiet_op
      first | refine hK _ ?_ | refine ⟨_, fun _ _ => rfl, hK _ ?_⟩
      clear hK K
      refine takeL (fun _ _ _ => rfl) (fun _ _ _ h1 h2 b hb => (h2 b hb).trans (h1 b hb)) 1 [10] rfl (by kernel_rfl) (by kernel_rfl) (by kernel_rfl) (by kernel_rfl) rfl (fun _ _ _ _ h => h) rfl (fun K hK => ?_)
      refine quiet_cell _ _ rfl _ rfl _ _ Try.underlying25 rfl (fun W' h => KeepB.cell h C6.out (by simp)) ?_
      refine hK _ ?_
      simp only [Act.put, List.setIfInBounds_toArray, List.set_cons_succ, List.set_cons_zero]
      clear hK K
      refine takeN (fun _ _ _ => rfl) 2 rfl (by kernel_rfl) (by kernel_rfl) (by kernel_rfl) rfl (fun _ _ _ _ h => h) rfl (fun K hK => ?_)
      go_big_quiet_op
      first | refine hK _ ?_ | refine ⟨_, fun _ _ => rfl, hK _ ?_⟩
      clear hK K
      refine takeL (fun _ _ _ => rfl) (fun _ _ _ h1 h2 b hb => (h2 b hb).trans (h1 b hb)) 3 [10] rfl (by kernel_rfl) (by kernel_rfl) (by kernel_rfl) (by kernel_rfl) rfl (fun _ _ _ _ h => h) rfl (fun K hK => ?_)
      refine quiet_cell _ _ rfl _ rfl _ _ Try.underlying25 rfl (fun W' h => KeepB.cell h D6.out (by simp)) ?_
      refine hK _ ?_
      simp only [Act.put, List.setIfInBounds_toArray, List.set_cons_succ, List.set_cons_zero]
      clear hK K
      refine takeN (fun _ _ _ => rfl) 4 rfl (by kernel_rfl) (by kernel_rfl) (by kernel_rfl) rfl (fun _ _ _ _ h => h) rfl (fun K hK => ?_)
      go_big_quiet_op
      first | refine hK _ ?_ | refine ⟨_, fun _ _ => rfl, hK _ ?_⟩
      clear hK K
      refine takeN (fun _ _ _ => rfl) 5 rfl (by kernel_rfl) (by kernel_rfl) (by kernel_rfl) rfl (fun _ _ _ _ h => h) rfl (fun K hK => ?_)
      go_big_quiet_op
      first | refine hK _ ?_ | refine ⟨_, fun _ _ => rfl, hK _ ?_⟩
      clear hK K
      refine takeL (fun _ _ _ => rfl) (fun _ _ _ h1 h2 b hb => (h2 b hb).trans (h1 b hb)) 6 [10] rfl (by kernel_rfl) (by kernel_rfl) (by kernel_rfl) (by kernel_rfl) rfl (fun _ _ _ _ h => h) rfl (fun K hK => ?_)
      refine quiet_agg 30 (.tmp 74) rfl _ rfl C _ Try.underlying30 rfl (szDFrom HCL.out) (fun W' h => KeepB.cells h HCC.out (.inr (by rw [add_block]; have := hF _ hf; omega))) ?_
      refine hK _ ?_
      simp only [Act.put, List.setIfInBounds_toArray, List.set_cons_succ, List.set_cons_zero]
      clear hK K
      refine stepL 7 rfl (by kernel_rfl) rfl (fun K hK => ?_)
      refine wp_one w0 25 (.tmp 75) rfl 30 C Try.underlying25 rfl (szDFrom HCL.out) zDFrom (by rw [HCL.out]; decide) (by rw [HCL.out]; decide) ?_
      refine hK _ _ (fun _ b hb => ((Ext.refl w0).alloc _).block b (by have h1 := HI.out.nb.lt; have h2 := HI.out.sc.lt; rcases hb with rfl | hb <;> omega) (by simp)) ?_
      clear hK K
      (try simp only [Act.put, List.setIfInBounds_toArray, List.set_cons_succ, List.set_cons_zero])
      refine stepL 8 rfl (by kernel_rfl) rfl (fun K hK => ?_)
      refine wp_app _ (.tmp 70) (.tmp 76) _ _ rfl 30 30 i1 z1 36 64 Try.underlying25 Try.underlying25 hi1 hz1 hi2 hi3 hi4 (by decide) _ _ _ rfl (HI.out.own.2.ext ((Ext.refl w0).alloc _)) _ 1 1 C rfl (by rw [HCL.out]) (src_new_at rfl C _ 1) hone (by have := HKL.out; unfold maxLen; omega) (by have := HKL.out; omega) ?_
      intro v7 w7 ho7 hm7
      obtain ⟨A7, c7, hv7⟩ := Own.form ho7
      subst hv7
      refine hK _ _ (fun _ b hb => hm7.grown.block b (by have h1 := HI.out.nb.lt; have h2 := HI.out.sc.lt; simp; rcases hb with rfl | hb <;> omega) (fun e => by have h9 := HI.out.far b e.symm; rcases hb with hb | hb <;> omega)) ?_
      clear hK K
      (try simp only [Act.put, List.setIfInBounds_toArray, List.set_cons_succ, List.set_cons_zero])
      refine takeN (fun _ _ _ => rfl) 9 rfl (by kernel_rfl) (by kernel_rfl) (by kernel_rfl) rfl (fun _ _ _ _ h => h) rfl (fun K hK => ?_)
      go_big_quiet_op
      first | refine hK _ ?_ | refine ⟨_, fun _ _ => rfl, hK _ ?_⟩
      clear hK K
      refine stepL 10 rfl (by kernel_rfl) rfl (fun K hK => ?_)
      have HB7 := Lib.hid ((HI.out.nb.keep ((Ext.refl w0).alloc (.cells C.toArray 30)) (by simp)).keep hm7.grown (fun e => (HI.out.far _ e.symm).2 rfl))
      have s9 : w7.cell? ⟨g11, 6, none⟩ = some v' := (HB7.out.cell 6).trans rfl
      have f9 : w7.frozen? ⟨g11, 6, none⟩ = false := HB7.out.free 6
      go_simp
      refine hK _ _ (fun h => absurd rfl h) ?_
      clear hK K
      refine doneL (by kernel_rfl) ?_ _
      have hI8 := HI.out.grow ((Ext.refl w0).alloc (.cells C.toArray 30)) hm7 (by rw [HCE.out]; exact ho7) HOKC.out hg11
      have HI8 := Lib.hid hI8
      clear hI8 s9 f9 ho7
      go_wp2
      go_roundw
      case rel => exact ⟨j + 1, _, by omega, by go_num, by rw [HKS.out]; exact HI8.out⟩
      case measure => simp [intOf]; omega
    · obtain rfl : j = List.length (α := Cd) s.cs := by omega
      have hkf : keptM s.cs none (List.length (α := Cd) s.cs) = s.cs := List.take_length
      have k0 : wr.cell? ⟨w.heap.size + 2, 0, none⟩ = some (.int .i64 2) := (HI.out.oc.cell 0).trans HIN.out.o0
      have k3 : wr.cell? ⟨w.heap.size + 2, 3, none⟩ = some (.int .i64 cside) := (HI.out.oc.cell 3).trans HIN.out.o3
      by_cases hcs : cside = sd
      · have hsb : (cside != sd) = false := by rw [hcs]; exact bne_self_eq_false _
        have k2 : wr.cell? ⟨w.heap.size + 2, 2, none⟩ = some (.int .u64 (cid : Int)) := (HI.out.oc.cell 2).trans HIN.out.o2
        have hcs3 := HI.out.sc.cells
        have hfd := HIN.out.fn wr HI.out.ext cid
        have HCSD := Lib.hid hcs
        clear hcs
        go_wp2_with (first
          | (refine wpList_load_agg _ rfl 27 (.tmp 4) rfl _ rfl SC _ Try.underlying27 rfl (szSFrom HSL.out) hcs3 ?_)
          | fail)
        refine hfd.mono ?_
        rintro e w6 ⟨rfl, hx6⟩
        have HI := Lib.hid (HI.out.ext' hx6)
        clear k0 k2 k3 hcs3 hx6 hfd e6
        generalize w6 = wr at *
        obtain ⟨zf, hzf⟩ : ∃ zf, zf = fd cid := ⟨_, rfl⟩
        rw [← hzf]
        have HZF := Lib.hid hzf
        clear hzf
        by_cases hf : 0 ≤ zf
        · have htl := hf7 HCSD.out (by rw [← HZF.out]; exact hf)
          have hr8 : wr.heap[w.heap.size + 3]? = some (.cells Z.toArray 27 (0, 0)) := HI.out.z
          go_wp2_with (first
            | (refine wpList_build (.inl rfl) 27 _ rfl (.agg zst.toArray) (by kernel_rfl) ?_; rw [← HZB])
            | (refine wpList_store_row _ rfl 27 (.tmp 8) (.tmp 141) rfl (w.heap.size + 3) rfl Z Z _ rfl hr8 (szSFrom HZL.out) rfl hzo ?_)
            | fail)
          have hc9 := Blk.cells (t := 27) (setRow_at (cs' := Z.toArray) hr8)
          (try simp only [Exit.inBlock, Exit.then])
          refine bodyPost_ret (results_agg_tmp rfl _ _ _ _ _ rfl Try.underlying27 rfl (szSFrom HZL.out) hc9) rfl ?_
          refine ⟨.slice none 0 0, ?_, ?_, grown_then HI.out.ext (setRow_only _) (.inr (by rintro b ⟨⟩; omega))⟩
          · rw [htl, HZB]; rfl
          · rw [htl]; exact ⟨by simp [St.zero], Own.nil _ _ _⟩
        · have hfn : zf < 0 := by omega
          have e6 : wr.cell? ⟨w.heap.size, 6, none⟩ = some (.slice A (List.length (α := Cd) s.cs) c) := (HI.out.sc.cell 6).trans hs6
          obtain ⟨ln, hln⟩ : ∃ ln, ln = List.length (α := Cd) s.cs := ⟨_, rfl⟩
          rw [← hln] at e6
          have HLN := Lib.hid hln
          clear hln
          by_cases hl8 : ln = 8
          · have htl := hf4 HCSD.out (by rw [← HZF.out]; exact hfn) (by rw [← HLN.out]; exact hl8)
            subst hl8
            have hr8 : wr.heap[w.heap.size + 3]? = some (.cells Z.toArray 27 (0, 0)) := HI.out.z
            go_wp2_with (first
              | (refine wpList_build (.inl rfl) 27 _ rfl (.agg zst.toArray) (by kernel_rfl) ?_; rw [← HZB])
              | (refine wpList_store_row _ rfl 27 (.tmp 8) (.tmp 146) rfl (w.heap.size + 3) rfl Z Z _ rfl hr8 (szSFrom HZL.out) rfl hzo ?_)
              | fail)
            have hc9 := Blk.cells (t := 27) (setRow_at (cs' := Z.toArray) hr8)
            (try simp only [Exit.inBlock, Exit.then])
            refine bodyPost_ret (results_agg_tmp rfl _ _ _ _ _ rfl Try.underlying27 rfl (szSFrom HZL.out) hc9) rfl ?_
            refine ⟨.slice none 0 0, ?_, ?_, grown_then HI.out.ext (setRow_only _) (.inr (by rintro b ⟨⟩; omega))⟩
            · rw [htl, HZB]; rfl
            · rw [htl]; exact ⟨by simp [St.zero], Own.nil _ _ _⟩
          · have hlb : ((ln : Int) == 8) = false := by rw [beq_eq_false_iff_ne]; omega
            have k4 : wr.cell? ⟨w.heap.size + 2, 4, none⟩ = some (.int .u64 (cam : Int)) := (HI.out.oc.cell 4).trans HIN.out.o4
            have hcs3 := HI.out.sc.cells
            have hcp3 := HI.out.pc.cells
            have hrm := HIN.out.room wr HI.out.ext cam hcam
            go_wp2_with (first
              | (refine wpList_load_agg _ rfl 27 (.tmp 4) rfl _ rfl SC _ Try.underlying27 rfl (szSFrom HSL.out) hcs3 ?_)
              | (refine wpList_load_agg _ rfl 24 (.tmp 5) rfl _ rfl PC _ Try.underlying24 rfl (n2_size HPL.out) hcp3 ?_)
              | fail)
            refine hrm.mono ?_
            rintro e w6 ⟨rfl, hx6⟩
            have HI := Lib.hid (HI.out.ext' hx6)
            clear k4 hcs3 hcp3 hx6 hrm e6
            generalize w6 = wr at *
            obtain ⟨zr, hzr⟩ : ∃ zr, zr = rm cam := ⟨_, rfl⟩
            rw [← hzr]
            have HZR := Lib.hid hzr
            clear hzr
            by_cases hzz : zr = 0
            · have htl := hf0 HCSD.out (by rw [← HZF.out]; exact hfn) (by rw [← HLN.out]; exact hl8) (by rw [← HZR.out]; exact hzz)
              subst hzz
              have hk6 : wr.cell? ⟨g11, 6, none⟩ = some v' := (HI.out.nb.cell 6).trans rfl
              have hcc : Cells wr ⟨w.heap.size + 2, 2, none⟩ (condCells cd) := by have h := (HI.out.oc.cells.drop 2).take 36; rw [HCD.out] at h; simpa [Addr.add] using h
              have hone := condCells_one cd
              have HCL := Lib.hid (condCells_len hokc)
              have hik := HI.out
              rw [hkf] at hik
              have HI := Lib.hid hik
              clear hik
              generalize hCE : condCells cd = C at *
              have HCE := Lib.hid hCE
              have HOKC := Lib.hid hokc
              clear hCE hokc
              go_wp2_with (first
                | (refine wpList_cell (.inl rfl) 25 (.tmp 158) rfl _ rfl _ _ Try.underlying25 rfl hk6 ?_)
                | (refine wpList_load_agg _ rfl 30 (.tmp 160) rfl _ rfl C _ Try.underlying30 rfl (szDFrom HCL.out) hcc ?_)
                | (refine wpList_one _ rfl 25 (.tmp 161) rfl 30 C Try.underlying25 rfl (szDFrom HCL.out) zDFrom (by rw [HCL.out]; decide) (by rw [HCL.out]; decide) ?_)
                | (at_builtin
                   go_must (refine wpList_app _ rfl (.tmp 159) (.tmp 162) _ _ rfl 30 30 i1 z1 36 64 Try.underlying25 Try.underlying25 hi1 hz1 hi2 hi3 hi4 (by decide) _ _ _ rfl (HI.out.own.2.ext ((Ext.refl wr).alloc _)) _ 1 1 C rfl (by rw [HCL.out]) (src_new_at rfl C _ 1) hone (by unfold maxLen; omega) (by omega) ?_)
                   intro v7 w7 ho7 hm7
                   obtain ⟨A7, c7, hv7⟩ := Own.form ho7
                   subst hv7
                   have HB7 := Lib.hid ((HI.out.nb.keep ((Ext.refl wr).alloc (.cells C.toArray 30)) (by simp)).keep hm7.grown (fun e => (HI.out.far _ e.symm).2 rfl))
                   have s9 : w7.cell? ⟨g11, 6, none⟩ = some v' := (HB7.out.cell 6).trans rfl
                   have f9 : w7.frozen? ⟨g11, 6, none⟩ = false := HB7.out.free 6
                   have hI8 := HI.out.grow ((Ext.refl wr).alloc (.cells C.toArray 30)) hm7 (by rw [HCE.out]; exact ho7) HOKC.out hg11
                   have HI := Lib.hid hI8
                   clear hI8 ho7 hk6 hcc
                   have hmo : StOk ({ s with round := r1, cs := s.cs ++ [cd] } : St) := ⟨hs.chan, by show r1 < M64; rw [HR1.out]; unfold M64; have := HRD.out; omega, hs.m0, hs.m1, hs.t0, hs.t1⟩
                   have hnb : Blk (w7.setCell ⟨g11, 6, none⟩ (Value.slice A7 (List.length (α := Cd) s.cs + 1) c7)) g11 27 (stc ({ s with round := r1, cs := s.cs ++ [cd] } : St) (Value.slice A7 (List.length (α := Cd) s.cs + 1) c7)) := HI.out.nb
                   have hown : OwnFrom (w7.setCell ⟨g11, 6, none⟩ (Value.slice A7 (List.length (α := Cd) s.cs + 1) c7)) (Value.slice A7 (List.length (α := Cd) s.cs + 1) c7) (St.cs ({ s with round := r1, cs := s.cs ++ [cd] } : St)) := HI.out.own
                   have hsm := RSoundC ({ s with round := r1, cs := s.cs ++ [cd] } : St) (Value.slice A7 (List.length (α := Cd) s.cs + 1) c7) p0 p1 (w7.setCell ⟨g11, 6, none⟩ (Value.slice A7 (List.length (α := Cd) s.cs + 1) c7)) _ hmo hp0 hp1 (ownFrom_holds hown) (ownFrom_lt hown)
                   rw [← HPE.out] at hsm
                   have hml : (stc ({ s with round := r1, cs := s.cs ++ [cd] } : St) (Value.slice A7 (List.length (α := Cd) s.cs + 1) c7)).length = 7 := rfl
                   have hmone : ∀ u ∈ stc ({ s with round := r1, cs := s.cs ++ [cd] } : St) (Value.slice A7 (List.length (α := Cd) s.cs + 1) c7), u.oneCell' = true := by obtain ⟨A2, c2, h⟩ := hown.2.form; rw [h]; exact stc_one _ _ _ _
                   obtain ⟨MC, hMC⟩ : ∃ MC, MC = stc ({ s with round := r1, cs := s.cs ++ [cd] } : St) (Value.slice A7 (List.length (α := Cd) s.cs + 1) c7) := ⟨_, rfl⟩
                   rw [← hMC] at hnb hsm hml hmone
                   obtain ⟨zm, hzm⟩ : ∃ zm, zm = soundM ({ s with round := r1, cs := s.cs ++ [cd] } : St) p0 p1 := ⟨_, rfl⟩
                   rw [← hzm] at hsm
                   have hcm2 := hnb.cells
                   have hcp2 := HI.out.pc.cells
                   have HMC := Lib.hid hMC
                   have HZM := Lib.hid hzm
                   have HML := Lib.hid hml
                   have HNB := Lib.hid hnb
                   have HOWN := Lib.hid hown
                   clear hMC hzm hml hnb hown hmo)
                | (refine wpList_load_agg _ rfl 27 (.tmp 11) rfl _ rfl MC _ Try.underlying27 rfl (szSFrom HML.out) hcm2 ?_)
                | (refine wpList_load_agg _ rfl 24 (.tmp 5) rfl _ rfl PC _ Try.underlying24 rfl (n2_size HPL.out) hcp2 ?_)
                | fail)
              refine hsm.mono ?_
              rintro e w5 ⟨rfl, hx5⟩
              have hr8 : w5.heap[w.heap.size + 3]? = some (.cells Z.toArray 27 (0, 0)) := HI.out.z.keep hx5 (by simp)
              have hcm2 := (HNB.out.keep hx5 (by simp)).cells
              by_cases hz0 : zm = 0
              · subst hz0
                go_wp2_with (first
                  | (refine wpList_load_agg _ rfl 27 (.tmp 11) rfl _ rfl MC _ Try.underlying27 rfl (szSFrom HML.out) hcm2 ?_)
                  | (refine wpList_store_row _ rfl 27 (.tmp 8) (.tmp 198) rfl (w.heap.size + 3) rfl Z MC _ rfl hr8 (szSFrom HML.out) (by rw [HML.out, HZL.out]) hmone ?_)
                  | fail)
                have hc9 := Blk.cells (t := 27) (setRow_at (cs' := MC.toArray) hr8)
                (try simp only [Exit.inBlock, Exit.then])
                refine bodyPost_ret (results_agg_tmp rfl _ _ _ _ _ rfl Try.underlying27 rfl (szSFrom HML.out) hc9) rfl ?_
                have hfin : finM ({ s with round := r1, cs := s.cs ++ [cd] } : St) p0 p1 = (({ s with round := r1, cs := s.cs ++ [cd] } : St), 0) := by unfold finM; rw [if_neg (by rw [← HZM.out]; simp)]
                refine ⟨(Value.slice A7 (List.length (α := Cd) s.cs + 1) c7), ?_, ?_, grown_then (HI.out.ext.trans hx5) (setRow_only _) (.inr (by rintro b ⟨⟩; omega))⟩
                · rw [htl, hfin, HMC.out]; rfl
                · rw [htl, hfin]
                  exact ⟨HOWN.out.1, (HOWN.out.2.ext hx5).keep (row := some (w.heap.size + 3)) (setRow_only _) (by
                    cases hvb : (Value.slice A7 (List.length (α := Cd) s.cs + 1) c7).ownBlock with
                    | none => exact .inl rfl
                    | some b => exact .inr (by have := (HI.out.far b hvb).1; simp; omega))⟩
              · have hzb : (zm != 0) = true := by simpa using hz0
                go_wp2_with (first
                  | (refine wpList_build (.inl rfl) 27 _ rfl (.agg zst.toArray) (by kernel_rfl) ?_; rw [← HZB])
                  | (refine wpList_store_row _ rfl 27 (.tmp 8) (.tmp 196) rfl (w.heap.size + 3) rfl Z Z _ rfl hr8 (szSFrom HZL.out) rfl hzo ?_)
                  | fail)
                have hc9 := Blk.cells (t := 27) (setRow_at (cs' := Z.toArray) hr8)
                (try simp only [Exit.inBlock, Exit.then])
                refine bodyPost_ret (results_agg_tmp rfl _ _ _ _ _ rfl Try.underlying27 rfl (szSFrom HZL.out) hc9) rfl ?_
                have hfin : finM ({ s with round := r1, cs := s.cs ++ [cd] } : St) p0 p1 = (.zero, zm) := by unfold finM; rw [if_pos (by rw [← HZM.out]; exact hz0), HZM.out]
                refine ⟨.slice none 0 0, ?_, ?_, grown_then (HI.out.ext.trans hx5) (setRow_only _) (.inr (by rintro b ⟨⟩; omega))⟩
                · rw [htl, hfin, HZB.out]; rfl
                · rw [htl, hfin]; exact ⟨by simp [St.zero], Own.nil _ _ _⟩
            · have hzb : (zr != 0) = true := by simpa using hzz
              have htl := hfr HCSD.out (by rw [← HZF.out]; exact hfn) (by rw [← HLN.out]; exact hl8) (by rw [← HZR.out]; exact hzz)
              rw [← HZR.out] at htl
              have hr8 : wr.heap[w.heap.size + 3]? = some (.cells Z.toArray 27 (0, 0)) := HI.out.z
              go_wp2_with (first
                | (refine wpList_build (.inl rfl) 27 _ rfl (.agg zst.toArray) (by kernel_rfl) ?_; rw [← HZB])
                | (refine wpList_store_row _ rfl 27 (.tmp 8) (.tmp 156) rfl (w.heap.size + 3) rfl Z Z _ rfl hr8 (szSFrom HZL.out) rfl hzo ?_)
                | fail)
              have hc9 := Blk.cells (t := 27) (setRow_at (cs' := Z.toArray) hr8)
              (try simp only [Exit.inBlock, Exit.then])
              refine bodyPost_ret (results_agg_tmp rfl _ _ _ _ _ rfl Try.underlying27 rfl (szSFrom HZL.out) hc9) rfl ?_
              refine ⟨.slice none 0 0, ?_, ?_, grown_then HI.out.ext (setRow_only _) (.inr (by rintro b ⟨⟩; omega))⟩
              · rw [htl, HZB]; rfl
              · rw [htl]; exact ⟨by simp [St.zero], Own.nil _ _ _⟩
      · have hsb : (cside != sd) = true := by simpa using hcs
        have htl := hf1 hcs
        have hr8 : wr.heap[w.heap.size + 3]? = some (.cells Z.toArray 27 (0, 0)) := HI.out.z
        go_wp2_with (first
          | (refine wpList_build (.inl rfl) 27 _ rfl (.agg zst.toArray) (by kernel_rfl) ?_; rw [← HZB])
          | (refine wpList_store_row _ rfl 27 (.tmp 8) (.tmp 134) rfl (w.heap.size + 3) rfl Z Z _ rfl hr8 (szSFrom HZL.out) rfl hzo ?_)
          | fail)
        have hc9 := Blk.cells (t := 27) (setRow_at (cs' := Z.toArray) hr8)
        (try simp only [Exit.inBlock, Exit.then])
        refine bodyPost_ret (results_agg_tmp rfl _ _ _ _ _ rfl Try.underlying27 rfl (szSFrom HZL.out) hc9) rfl ?_
        refine ⟨.slice none 0 0, ?_, ?_, grown_then HI.out.ext (setRow_only _) (.inr (by rintro b ⟨⟩; omega))⟩
        · rw [htl, HZB]; rfl
        · rw [htl]; exact ⟨by simp [St.zero], Own.nil _ _ _⟩
set_option maxRecDepth 100000 in
set_option maxHeartbeats 8000000 in
theorem RNext3s0 (w : World) (F : Fp) (s : St) (p0 p1 : Nat) (v : Value) (SC PC OC Z : List Value) (sd : Int) (r1 am cid cam oid : Nat) (cside : Int) (fd : Nat → Int) (rm : Nat → Int) (hin : RNextIn w SC PC OC Z sd s.cs s.round r1 am cid cam oid 3 cside 0 fd rm sd) (T : St × Int) (at' : Nat) (hat : fd oid = (at' : Int)) (hal : at' < List.length (α := Cd) s.cs) (cq : Nat) (hcq : (s.cs[at']).2.2.1 = cq) (hsd3 : (s.cs[at']).2.1 = 0) (hfin0 : s.m0 + cq < M64 → T = finM ({ s with round := r1, m0 := s.m0 + cq, cs := s.cs.eraseIdx at' } : St) p0 p1) (hfin1 : ¬ s.m0 + cq < M64 → T = (.zero, 11)) (hr1 : r1 = s.round + 1)
    (hsc : SC = stc s v) (hpc : PC = ptc p0 p1) (hs : StOk s) (hc : Conds w F v s.cs) (hF : ∀ b, F b → b < w.heap.size) (hrd' : s.round < 200) (h8 : List.length (α := Cd) s.cs ≤ 8) (hp0 : p0 < M64) (hp1 : p1 < M64) :
    Calls Try.prog 13 #[.agg SC.toArray, .agg PC.toArray, .int .i64 sd, .agg OC.toArray] w fun e w' => ∃ v', e = .returned (.tuple #[.agg (stc (T).1 v').toArray, .int .i64 (T).2]) ∧ OwnFrom w' v' (T).1.cs ∧ Ext w w' := by
  obtain ⟨i1, z1, hi1, hz1, hi2, hi3, hi4⟩ := partsFrom
  obtain ⟨A, c, xs, rfl, hlc, hcm, hA, hcell, hall⟩ := conds_open hc
  clear hc
  unfold maxLen at hcm
  have hs6 : SC[6]? = some (.slice A (List.length (α := Cd) s.cs) c) := by rw [hsc]; rfl
  have hs0 : SC[0]? = some (.int .u32 (s.chan : Int)) := by rw [hsc]; rfl
  have hsm : (SC.drop 2).take 2 = ptc s.m0 s.m1 := by rw [hsc]; rfl
  have hst : (SC.drop 4).take 2 = ptc s.t0 s.t1 := by rw [hsc]; rfl
  have HPE := Lib.hid hpc
  have HR1 := Lib.hid hr1
  clear hsc hpc hr1
  obtain ⟨rd, hrd⟩ : ∃ rd, rd = s.round := ⟨_, rfl⟩
  rw [← hrd] at hin hrd'
  have hz := hin.zi
  have hzo := hin.zo
  have HZB : Hid (Z = zst) := hin.zE
  have HSL := Lib.hid hin.sl
  have HPL := Lib.hid hin.pl
  have HOL := Lib.hid hin.ol
  have HZL := Lib.hid hin.zl
  have hb0 : Blk ((((w.alloc (.cells SC.toArray 27)).alloc (.cells PC.toArray 24)).alloc (.cells OC.toArray 32)).alloc (.cells Z.toArray 27)) w.heap.size 27 SC := (Blk.new _ _ _).keep ((((Ext.refl _).alloc _).alloc _).alloc _) (by simp)
  have hb1 : Blk ((((w.alloc (.cells SC.toArray 27)).alloc (.cells PC.toArray 24)).alloc (.cells OC.toArray 32)).alloc (.cells Z.toArray 27)) (w.heap.size + 1) 24 PC := (Blk.new_at (by simp) _ _).keep (((Ext.refl _).alloc _).alloc _) (by simp)
  have hb2 : Blk ((((w.alloc (.cells SC.toArray 27)).alloc (.cells PC.toArray 24)).alloc (.cells OC.toArray 32)).alloc (.cells Z.toArray 27)) (w.heap.size + 2) 32 OC := (Blk.new_at (by simp) _ _).keep ((Ext.refl _).alloc _) (by simp)
  have hb3 : Blk ((((w.alloc (.cells SC.toArray 27)).alloc (.cells PC.toArray 24)).alloc (.cells OC.toArray 32)).alloc (.cells Z.toArray 27)) (w.heap.size + 3) 27 Z := Blk.new_at (by simp) _ _
  have hx0 : Ext w ((((w.alloc (.cells SC.toArray 27)).alloc (.cells PC.toArray 24)).alloc (.cells OC.toArray 32)).alloc (.cells Z.toArray 27)) := ((((Ext.refl w).alloc _).alloc _).alloc _).alloc _
  have hcs := hb0.cells
  have hcp := hb1.cells
  have HB0 := Lib.hid hb0
  have HB1 := Lib.hid hb1
  have HB2 := Lib.hid hb2
  have HB3 := Lib.hid hb3
  have HX0 := Lib.hid hx0
  have HIN := Lib.hid hin
  clear hb0 hb1 hb2 hb3 hx0 hin
  have c1' : ∀ W, Ext ((((w.alloc (.cells SC.toArray 27)).alloc (.cells PC.toArray 24)).alloc (.cells OC.toArray 32)).alloc (.cells Z.toArray 27)) W → W.cell? ⟨w.heap.size, 1, none⟩ = some (.int .u64 (rd : Int)) := fun W h => ((HB0.out.keep h (by simp)).cell 1).trans HIN.out.s1
  have C1 := Lib.hid c1'
  have hrb : ((rd : Int) == 200) = false := by rw [beq_eq_false_iff_ne]; omega
  have htb : (sd != sd) = false := bne_self_eq_false _
  have hw1 := HIN.out.w1
  have HRD := Lib.hid hrd
  clear c1' hrd
  go_enter Try.func13, Try.ntmps13
  go_wp2_with (first
    | (refine wpList_alloc _ rfl 27 rfl _ hz ?_)
    | (refine wpList_load_agg _ rfl 27 (.tmp 4) rfl _ rfl SC _ Try.underlying27 rfl (szSFrom HSL.out) hcs ?_)
    | (refine wpList_load_agg _ rfl 24 (.tmp 5) rfl _ rfl PC _ Try.underlying24 rfl (by rw [HPL.out]; kernel_rfl) hcp ?_)
    | fail)
  refine (HIN.out.sn _ HX0.out).mono ?_
  rintro e w1 ⟨rfl, hx1⟩
  have d1 := C1.out w1 hx1
  have hbs := HB0.out.keep hx1 (by simp)
  have d0 := (hbs.cell 0).trans hs0
  have hm2 : Cells w1 ⟨w.heap.size, 2, none⟩ (ptc s.m0 s.m1) := by have h := (hbs.cells.drop 2).take 2; rw [hsm] at h; simpa [Addr.add] using h
  have ht4 : Cells w1 ⟨w.heap.size, 4, none⟩ (ptc s.t0 s.t1) := by have h := (hbs.cells.drop 4).take 2; rw [hst] at h; simpa [Addr.add] using h
  have k0 : (w1.alloc (.cells (stc { s with round := r1, cs := [] } (.slice none 0 0)).toArray 27)).cell? ⟨w.heap.size + 2, 0, none⟩ = some (.int .i64 3) := ((HB2.out.keep (hx1.alloc _) (by simp)).cell 0).trans HIN.out.o0
  have k38 : (w1.alloc (.cells (stc { s with round := r1, cs := [] } (.slice none 0 0)).toArray 27)).cell? ⟨w.heap.size + 2, 38, none⟩ = some (.int .u64 (oid : Int)) := ((HB2.out.keep (hx1.alloc _) (by simp)).cell 38).trans HIN.out.o38
  have hcs2 := (HB0.out.keep (hx1.alloc (.cells (stc { s with round := r1, cs := [] } (.slice none 0 0)).toArray 27)) (by simp)).cells
  have hI : RInv w (w1.alloc (.cells (stc { s with round := r1, cs := [] } (.slice none 0 0)).toArray 27)) SC PC OC Z w1.heap.size { s with round := r1, cs := [] } (.slice none 0 0) [] := by
    have hx := hx1.alloc (.cells (stc { s with round := r1, cs := [] } (.slice none 0 0)).toArray 27)
    exact ⟨HX0.out.trans hx, HB0.out.keep hx (by simp), HB1.out.keep hx (by simp), HB2.out.keep hx (by simp), HB3.out.keep hx (by simp), Blk.new _ _ _, ⟨by simp, Own.nil _ _ _⟩, by simp [Value.ownBlock]⟩
  have hg11 : w.heap.size + 4 ≤ w1.heap.size := by have h1 := HB3.out.lt; have h2 := hx1.size; omega
  have HI := Lib.hid hI
  clear hI hbs
  have hfd := HIN.out.fn _ HI.out.ext oid
  rw [hat] at hfd
  have HFD := Lib.hid hfd
  have hatn : ¬ ((at' : Int) < 0) := by omega
  clear hfd
  go_wp2_with (first
    | (go_at_call 30; refine (HIN.out.turn _).mono ?_; rintro e _ ⟨rfl, rfl⟩)
    | (refine wpList_load_agg _ rfl 24 (.tmp 39) rfl _ rfl (ptc s.m0 s.m1) _ Try.underlying24 rfl (n2_size rfl) hm2 ?_)
    | (refine wpList_load_agg _ rfl 24 (.tmp 41) rfl _ rfl (ptc s.t0 s.t1) _ Try.underlying24 rfl (n2_size rfl) ht4 ?_)
    | (refine wpList_build (.inl rfl) 27 _ rfl (.agg (stc { s with round := r1, cs := [] } (.slice none 0 0)).toArray) (by kernel_rfl) ?_)
    | (refine wpList_alloc _ rfl 27 rfl _ hz ?_)
    | (refine wpList_store_new _ rfl 27 (.tmp 11) (.tmp 43) rfl rfl Z (stc { s with round := r1, cs := [] } (.slice none 0 0)) _ rfl (szSFrom rfl) (by rw [HZL.out]; rfl) (stc_one _ _ _ _) ?_)
    | (refine wpList_load_agg _ rfl 27 (.tmp 4) rfl _ rfl SC _ Try.underlying27 rfl (szSFrom HSL.out) hcs2 ?_)
    | (go_at_call 27; refine HFD.out.mono ?_; rintro e w2 ⟨rfl, hx2⟩)
    | fail)
  have HI := Lib.hid (HI.out.ext' hx2)
  generalize w1.heap.size = g11 at *
  clear k0 k38 hcs2 hx1 hm2 ht4 d0 d1
  go_loopw [13] (fun i wr => ∃ (j : Nat) (v' : Value), j ≤ List.length (α := Cd) s.cs ∧ i = .int .i64 j ∧ RInv w wr SC PC OC Z g11 { s with round := r1, cs := [] } v' (keptM s.cs (some at') j)) (fun i _ => List.length (α := Cd) s.cs - (intOf i).toNat)
  case atStart => exact ⟨0, .slice none 0 0, by omega, rfl, by rw [kept_zero]; exact HI.out⟩
  case round =>
    clear HI
    obtain ⟨j, v', hj, rfl, hI⟩ := hrel
    have HI := Lib.hid hI
    clear hI
    have e6 : wr.cell? ⟨w.heap.size, 6, none⟩ = some (.slice A (List.length (α := Cd) s.cs) c) := (HI.out.sc.cell 6).trans hs6
    by_cases hlt : j < List.length (α := Cd) s.cs
    · obtain ⟨ad, rfl, hf, hcells⟩ := hcell (by omega)
      by_cases hje : at' = j
      · subst hje
        have hjb : ((at' : Int) != (at' : Int)) = false := bne_self_eq_false _
        have hks := kept_skip s.cs at' hlt
        have HKS := Lib.hid hks
        clear hks hcells
        go_wp2
        go_roundw
        case rel => exact ⟨at' + 1, v', by omega, by go_num, by rw [HKS.out]; exact HI.out⟩
        case measure => simp [intOf]; omega
      · have hjb : ((j : Int) != (at' : Int)) = true := by rw [bne_iff_ne]; omega
        have hne : (some at') ≠ some j := fun e => hje (Option.some.inj e)
        obtain ⟨hcc, hok⟩ := conds_at hall (hcells.keep (HI.out.ext.same hF _ hf)) hlt
        have hks := kept_step s.cs (some at') j hlt hne
        have hkl := kept_len s.cs (some at') j
        have hone := condCells_one s.cs[j]
        have HCL := Lib.hid (condCells_len hok)
        generalize hck : s.cs[j] = ck at *
        generalize hCE : condCells ck = C at *
        have HCE := Lib.hid hCE
        have HKS := Lib.hid hks
        have HKL := Lib.hid hkl
        have HOKC := Lib.hid hok
        clear hks hkl hcells hCE hok hck
        go_wp2
        have hcc : Cells wr.drew (ad.add (j * 36)) C := hcc
        have hd6 : wr.drew.cell? ⟨w.heap.size, 6, none⟩ = some (.slice (some ad) (List.length (α := Cd) s.cs) c) := e6
        have HI := Lib.hid (HI.out.ext' (Ext.refl wr).drew)
        refine startL 10 (KeepB fun b => b = g11 ∨ b ≤ w.heap.size) (by kernel_rfl) ?_
        (try simp only [Act.put, List.setIfInBounds_toArray, List.set_cons_succ, List.set_cons_zero])
        generalize wr.drew = w0 at *
        have hc6 : w0.cell? ⟨g11, 6, none⟩ = some v' := (HI.out.nb.cell 6).trans rfl
        have C6 := Lib.hid hc6
        have D6 := Lib.hid hd6
        have HCC := Lib.hid hcc
        clear hc6 hd6 hcc e6
        refine takeN (fun _ _ _ => rfl) 0 rfl (by kernel_rfl) (by kernel_rfl) (by kernel_rfl) rfl (fun _ _ _ _ h => h) rfl (fun K hK => ?_)
        go_big_quiet_op
        first | refine hK _ ?_ | refine ⟨_, fun _ _ => rfl, hK _ ?_⟩
        clear hK K
        refine takeL (fun _ _ _ => rfl) (fun _ _ _ h1 h2 b hb => (h2 b hb).trans (h1 b hb)) 1 [10] rfl (by kernel_rfl) (by kernel_rfl) (by kernel_rfl) (by kernel_rfl) rfl (fun _ _ _ _ h => h) rfl (fun K hK => ?_)
        refine quiet_cell _ _ rfl _ rfl _ _ Try.underlying25 rfl (fun W' h => KeepB.cell h C6.out (by simp)) ?_
        refine hK _ ?_
        simp only [Act.put, List.setIfInBounds_toArray, List.set_cons_succ, List.set_cons_zero]
        clear hK K
        refine takeN (fun _ _ _ => rfl) 2 rfl (by kernel_rfl) (by kernel_rfl) (by kernel_rfl) rfl (fun _ _ _ _ h => h) rfl (fun K hK => ?_)
        go_big_quiet_op
        first | refine hK _ ?_ | refine ⟨_, fun _ _ => rfl, hK _ ?_⟩
        clear hK K
        refine takeL (fun _ _ _ => rfl) (fun _ _ _ h1 h2 b hb => (h2 b hb).trans (h1 b hb)) 3 [10] rfl (by kernel_rfl) (by kernel_rfl) (by kernel_rfl) (by kernel_rfl) rfl (fun _ _ _ _ h => h) rfl (fun K hK => ?_)
        refine quiet_cell _ _ rfl _ rfl _ _ Try.underlying25 rfl (fun W' h => KeepB.cell h D6.out (by simp)) ?_
        refine hK _ ?_
        simp only [Act.put, List.setIfInBounds_toArray, List.set_cons_succ, List.set_cons_zero]
        clear hK K
        refine takeN (fun _ _ _ => rfl) 4 rfl (by kernel_rfl) (by kernel_rfl) (by kernel_rfl) rfl (fun _ _ _ _ h => h) rfl (fun K hK => ?_)
        go_big_quiet_op
        first | refine hK _ ?_ | refine ⟨_, fun _ _ => rfl, hK _ ?_⟩
        clear hK K
        refine takeN (fun _ _ _ => rfl) 5 rfl (by kernel_rfl) (by kernel_rfl) (by kernel_rfl) rfl (fun _ _ _ _ h => h) rfl (fun K hK => ?_)
        go_big_quiet_op
        first | refine hK _ ?_ | refine ⟨_, fun _ _ => rfl, hK _ ?_⟩
        clear hK K
        refine takeL (fun _ _ _ => rfl) (fun _ _ _ h1 h2 b hb => (h2 b hb).trans (h1 b hb)) 6 [10] rfl (by kernel_rfl) (by kernel_rfl) (by kernel_rfl) (by kernel_rfl) rfl (fun _ _ _ _ h => h) rfl (fun K hK => ?_)
        refine quiet_agg 30 (.tmp 74) rfl _ rfl C _ Try.underlying30 rfl (szDFrom HCL.out) (fun W' h => KeepB.cells h HCC.out (.inr (by rw [add_block]; have := hF _ hf; omega))) ?_
        refine hK _ ?_
        simp only [Act.put, List.setIfInBounds_toArray, List.set_cons_succ, List.set_cons_zero]
        clear hK K
        refine stepL 7 rfl (by kernel_rfl) rfl (fun K hK => ?_)
        refine wp_one w0 25 (.tmp 75) rfl 30 C Try.underlying25 rfl (szDFrom HCL.out) zDFrom (by rw [HCL.out]; decide) (by rw [HCL.out]; decide) ?_
        refine hK _ _ (fun _ b hb => ((Ext.refl w0).alloc _).block b (by have h1 := HI.out.nb.lt; have h2 := HI.out.sc.lt; rcases hb with rfl | hb <;> omega) (by simp)) ?_
        clear hK K
        (try simp only [Act.put, List.setIfInBounds_toArray, List.set_cons_succ, List.set_cons_zero])
        refine stepL 8 rfl (by kernel_rfl) rfl (fun K hK => ?_)
        refine wp_app _ (.tmp 70) (.tmp 76) _ _ rfl 30 30 i1 z1 36 64 Try.underlying25 Try.underlying25 hi1 hz1 hi2 hi3 hi4 (by decide) _ _ _ rfl (HI.out.own.2.ext ((Ext.refl w0).alloc _)) _ 1 1 C rfl (by rw [HCL.out]) (src_new_at rfl C _ 1) hone (by have := HKL.out; unfold maxLen; omega) (by have := HKL.out; omega) ?_
        intro v7 w7 ho7 hm7
        obtain ⟨A7, c7, hv7⟩ := Own.form ho7
        subst hv7
        refine hK _ _ (fun _ b hb => hm7.grown.block b (by have h1 := HI.out.nb.lt; have h2 := HI.out.sc.lt; simp; rcases hb with rfl | hb <;> omega) (fun e => by have h9 := HI.out.far b e.symm; rcases hb with hb | hb <;> omega)) ?_
        clear hK K
        (try simp only [Act.put, List.setIfInBounds_toArray, List.set_cons_succ, List.set_cons_zero])
        refine takeN (fun _ _ _ => rfl) 9 rfl (by kernel_rfl) (by kernel_rfl) (by kernel_rfl) rfl (fun _ _ _ _ h => h) rfl (fun K hK => ?_)
        go_big_quiet_op
        first | refine hK _ ?_ | refine ⟨_, fun _ _ => rfl, hK _ ?_⟩
        clear hK K
        refine stepL 10 rfl (by kernel_rfl) rfl (fun K hK => ?_)
        have HB7 := Lib.hid ((HI.out.nb.keep ((Ext.refl w0).alloc (.cells C.toArray 30)) (by simp)).keep hm7.grown (fun e => (HI.out.far _ e.symm).2 rfl))
        have s9 : w7.cell? ⟨g11, 6, none⟩ = some v' := (HB7.out.cell 6).trans rfl
        have f9 : w7.frozen? ⟨g11, 6, none⟩ = false := HB7.out.free 6
        go_simp
        refine hK _ _ (fun h => absurd rfl h) ?_
        clear hK K
        refine doneL (by kernel_rfl) ?_ _
        have hI8 := HI.out.grow ((Ext.refl w0).alloc (.cells C.toArray 30)) hm7 (by rw [HCE.out]; exact ho7) HOKC.out hg11
        have HI8 := Lib.hid hI8
        clear hI8 s9 f9 ho7
        go_wp2
        go_roundw
        case rel => exact ⟨j + 1, _, by omega, by go_num, by rw [HKS.out]; exact HI8.out⟩
        case measure => simp [intOf]; omega
    · obtain rfl : j = List.length (α := Cd) s.cs := by omega
      have hkf : keptM s.cs (some at') (List.length (α := Cd) s.cs) = s.cs.eraseIdx at' := by show (s.cs.take (List.length (α := Cd) s.cs)).eraseIdx at' = _; rw [List.take_length]
      have k0 : wr.cell? ⟨w.heap.size + 2, 0, none⟩ = some (.int .i64 3) := (HI.out.oc.cell 0).trans HIN.out.o0
      obtain ⟨ad, rfl, hf, hcells⟩ := hcell (by omega)
      obtain ⟨hcc, hok⟩ := conds_at hall (hcells.keep (HI.out.ext.same hF _ hf)) hal
      have hone := condCells_one s.cs[at']
      have hcql : cq < M64 := by rw [← hcq]; exact cond_am_lt hok
      have HCL := Lib.hid (condCells_len hok)
      have HC1 : Hid ((condCells s.cs[at'])[1]? = some (.int .i64 0)) := by show some (Value.int .i64 (s.cs[at']).2.1) = _; rw [hsd3]
      have HC2 : Hid ((condCells s.cs[at'])[2]? = some (.int .u64 (cq : Int))) := by show some (Value.int .u64 ((s.cs[at']).2.2.1 : Int)) = _; rw [hcq]
      obtain ⟨ZD, hzd, hzdl⟩ : ∃ ZD : List Value, (Try.prog.info? 30).bind (fun i => i.zero.map (·.cells)) = some ZD.toArray ∧ ZD.length = 36 := ⟨_, zRCond, rfl⟩
      have HZD := Lib.hid hzdl
      generalize hCE : condCells s.cs[at'] = C at *
      clear hcells hCE hok hzdl hsd3 hcq
      have hadd := fun W => RAdd s.m0 cq W hs.m0 hcql
      go_wp2_with (first
        | (refine wpList_load_agg _ rfl 30 (.tmp 170) rfl _ rfl C _ Try.underlying30 rfl (szDFrom HCL.out) hcc ?_)
        | (refine wpList_alloc _ rfl 30 rfl _ hzd ?_)
        | (refine wpList_store_new _ rfl 30 (.tmp 15) (.tmp 171) rfl rfl ZD C _ rfl (szDFrom HCL.out) (by rw [HCL.out, HZD.out]) hone ?_)
        | fail)
      clear hzd hcc e6 k0
      by_cases hov : s.m0 + cq < M64
      · have ea : addM s.m0 cq = (s.m0 + cq, 0) := by unfold addM; rw [if_pos hov]
        have htl := hfin0 hov
        rw [ea] at hadd
        simp only [numErr] at hadd
        have HADD := Lib.hid hadd
        clear hadd ea
        refine startL 15 Since (by kernel_rfl) ?_
        (try simp only [Act.put, List.setIfInBounds_toArray, List.set_cons_succ, List.set_cons_zero])
        have hxd : Ext wr (wr.alloc (.cells C.toArray 30)).drew := ((Ext.refl wr).alloc (.cells C.toArray 30)).drew
        have hb15 : Blk (wr.alloc (.cells C.toArray 30)).drew wr.heap.size 30 C := (Blk.new wr _ C).keep (Ext.refl _).drew (by simp)
        have HI := Lib.hid (HI.out.ext' hxd)
        clear hxd
        generalize World.drew _ = w0 at *
        generalize wr.heap.size = g15 at *
        have cM : w0.cell? ⟨g11, 2, none⟩ = some (.int .u64 (s.m0 : Int)) := (HI.out.nb.cell 2).trans rfl
        have cS : w0.cell? ⟨g15, 1, none⟩ = some (.int .i64 0) := (hb15.cell 1).trans HC1.out
        have cQ : w0.cell? ⟨g15, 2, none⟩ = some (.int .u64 (cq : Int)) := (hb15.cell 2).trans HC2.out
        clear hb15
        refine takeN (fun _ => Ext.refl _) 0 rfl (by kernel_rfl) (by kernel_rfl) (by kernel_rfl) rfl (fun _ _ _ _ h => h) rfl (fun K hK => ?_)
        go_big_quiet_op
        first | refine hK _ ?_ | refine ⟨_, fun _ _ => rfl, hK _ ?_⟩
        clear hK K
        refine takeL (fun _ => Ext.refl _) (fun _ _ _ h1 h2 => Ext.trans h1 h2) 1 [15] rfl (by kernel_rfl) (by kernel_rfl) (by kernel_rfl) (by kernel_rfl) rfl (fun _ _ _ _ h => h) rfl (fun K hK => ?_)
        refine quiet_cell _ _ rfl _ rfl _ _ Try.underlying3 rfl (fun W' h => World.grownBy.cell h cS (by simp)) ?_
        refine hK _ ?_
        simp only [Act.put, List.setIfInBounds_toArray, List.set_cons_succ, List.set_cons_zero]
        clear hK K
        refine takeN (fun _ => Ext.refl _) 2 rfl (by kernel_rfl) (by kernel_rfl) (by kernel_rfl) rfl (fun _ _ _ _ h => h) rfl (fun K hK => ?_)
        go_big_quiet_op
        first | refine hK _ ?_ | refine ⟨_, fun _ _ => rfl, hK _ ?_⟩
        clear hK K
        refine takeL (fun _ => Ext.refl _) (fun _ _ _ h1 h2 => Ext.trans h1 h2) 3 [15] rfl (by kernel_rfl) (by kernel_rfl) (by kernel_rfl) (by kernel_rfl) rfl (fun _ _ _ _ h => h) rfl (fun K hK => ?_)
        refine quiet_cell _ _ rfl _ rfl _ _ Try.underlying3 rfl (fun W' h => World.grownBy.cell h cS (by simp)) ?_
        refine hK _ ?_
        simp only [Act.put, List.setIfInBounds_toArray, List.set_cons_succ, List.set_cons_zero]
        clear hK K
        refine takeN (fun _ => Ext.refl _) 4 rfl (by kernel_rfl) (by kernel_rfl) (by kernel_rfl) rfl (fun _ _ _ _ h => h) rfl (fun K hK => ?_)
        go_big_quiet_op
        first | refine hK _ ?_ | refine ⟨_, fun _ _ => rfl, hK _ ?_⟩
        clear hK K
        refine takeN (fun _ => Ext.refl _) 5 rfl (by kernel_rfl) (by kernel_rfl) (by kernel_rfl) rfl (fun _ _ _ _ h => h) rfl (fun K hK => ?_)
        go_big_quiet_op
        first | refine hK _ ?_ | refine ⟨_, fun _ _ => rfl, hK _ ?_⟩
        clear hK K
        refine takeL (fun _ => Ext.refl _) (fun _ _ _ h1 h2 => Ext.trans h1 h2) 6 [15] rfl (by kernel_rfl) (by kernel_rfl) (by kernel_rfl) (by kernel_rfl) rfl (fun _ _ _ _ h => h) rfl (fun K hK => ?_)
        refine quiet_cell _ _ rfl _ rfl _ _ Try.underlying23 rfl (fun W' h => World.grownBy.cell h cM (by simp)) ?_
        refine hK _ ?_
        simp only [Act.put, List.setIfInBounds_toArray, List.set_cons_succ, List.set_cons_zero]
        clear hK K
        refine takeN (fun _ => Ext.refl _) 7 rfl (by kernel_rfl) (by kernel_rfl) (by kernel_rfl) rfl (fun _ _ _ _ h => h) rfl (fun K hK => ?_)
        go_big_quiet_op
        first | refine hK _ ?_ | refine ⟨_, fun _ _ => rfl, hK _ ?_⟩
        clear hK K
        refine takeL (fun _ => Ext.refl _) (fun _ _ _ h1 h2 => Ext.trans h1 h2) 8 [15] rfl (by kernel_rfl) (by kernel_rfl) (by kernel_rfl) (by kernel_rfl) rfl (fun _ _ _ _ h => h) rfl (fun K hK => ?_)
        refine quiet_cell _ _ rfl _ rfl _ _ Try.underlying23 rfl (fun W' h => World.grownBy.cell h cQ (by simp)) ?_
        refine hK _ ?_
        simp only [Act.put, List.setIfInBounds_toArray, List.set_cons_succ, List.set_cons_zero]
        clear hK K
        refine takeN (fun _ => Ext.refl _) 13 rfl (by kernel_rfl) (by kernel_rfl) (by kernel_rfl) rfl (fun _ _ _ _ h => h) rfl (fun K hK => ?_)
        go_big_quiet_op
        first | refine hK _ ?_ | refine ⟨_, fun _ _ => rfl, hK _ ?_⟩
        clear hK K
        refine stepL 9 rfl (by kernel_rfl) rfl (fun K hK => ?_)
        go_simp
        refine (HADD.out _).mono ?_
        rintro e w5 ⟨rfl, hx5⟩
        obtain rfl := hx5
        refine hK _ _ (fun _ => Ext.refl _) ?_
        clear hK K
        refine takeN (fun _ => Ext.refl _) 10 rfl (by kernel_rfl) (by kernel_rfl) (by kernel_rfl) rfl (fun _ _ _ _ h => h) rfl (fun K hK => ?_)
        go_big_quiet_op
        first | refine hK _ ?_ | refine ⟨_, fun _ _ => rfl, hK _ ?_⟩
        clear hK K
        refine takeN (fun _ => Ext.refl _) 11 rfl (by kernel_rfl) (by kernel_rfl) (by kernel_rfl) rfl (fun _ _ _ _ h => h) rfl (fun K hK => ?_)
        go_big_quiet_op
        first | refine hK _ ?_ | refine ⟨_, fun _ _ => rfl, hK _ ?_⟩
        clear hK K
        refine takeN (fun _ => Ext.refl _) 12 rfl (by kernel_rfl) (by kernel_rfl) (by kernel_rfl) rfl (fun _ _ _ _ h => h) rfl (fun K hK => ?_)
        go_big_quiet_op
        first | refine hK _ ?_ | refine ⟨_, fun _ _ => rfl, hK _ ?_⟩
        clear hK K
        refine takeN (fun _ => Ext.refl _) 14 rfl (by kernel_rfl) (by kernel_rfl) (by kernel_rfl) rfl (fun _ _ _ _ h => h) rfl (fun K hK => ?_)
        go_big_quiet_op
        first | refine hK _ ?_ | refine ⟨_, fun _ _ => rfl, hK _ ?_⟩
        clear hK K
        refine stepL 15 rfl (by kernel_rfl) rfl (fun K hK => ?_)
        have s9 : w0.cell? ⟨g11, 2, none⟩ = some (.int .u64 (s.m0 : Int)) := cM
        have f9 : w0.frozen? ⟨g11, 2, none⟩ = false := HI.out.nb.free 2
        go_simp
        refine hK _ _ (fun h => absurd rfl h) ?_
        clear hK K
        refine takeN (fun _ => Ext.refl _) 16 rfl (by kernel_rfl) (by kernel_rfl) (by kernel_rfl) rfl (fun _ _ _ _ h => h) rfl (fun K hK => ?_)
        go_big_quiet_op
        first | refine hK _ ?_ | refine ⟨_, fun _ _ => rfl, hK _ ?_⟩
        clear hK K
        refine doneL (by kernel_rfl) ?_ _
        have hI9 := HI.out.put (n1 := ({ s with round := r1, m0 := s.m0 + cq, cs := [] } : St)) 2 (.int .u64 ((s.m0 : Int) + (cq : Int) : Int)) (by simp [stc]) hg11
        generalize w0.setCell ⟨g11, 2, none⟩ (.int .u64 ((s.m0 : Int) + (cq : Int) : Int)) = wr at *
        have HI := Lib.hid hI9
        clear hI9 cM cS cQ s9 f9
        have hmo : StOk ({ s with round := r1, m0 := s.m0 + cq, cs := s.cs.eraseIdx at' } : St) := ⟨hs.chan, by show r1 < M64; rw [HR1.out]; unfold M64; have := HRD.out; omega, (by show s.m0 + cq < M64; exact hov), hs.m1, hs.t0, hs.t1⟩
        have hnb : Blk wr g11 27 (stc ({ s with round := r1, m0 := s.m0 + cq, cs := s.cs.eraseIdx at' } : St) v') := HI.out.nb
        have hown : OwnFrom wr v' (St.cs ({ s with round := r1, m0 := s.m0 + cq, cs := s.cs.eraseIdx at' } : St)) := by have h := HI.out.own; rw [hkf] at h; exact h
        have hsm := RSoundC ({ s with round := r1, m0 := s.m0 + cq, cs := s.cs.eraseIdx at' } : St) v' p0 p1 wr _ hmo hp0 hp1 (ownFrom_holds hown) (ownFrom_lt hown)
        rw [← HPE.out] at hsm
        have hml : (stc ({ s with round := r1, m0 := s.m0 + cq, cs := s.cs.eraseIdx at' } : St) v').length = 7 := rfl
        have hmone : ∀ u ∈ stc ({ s with round := r1, m0 := s.m0 + cq, cs := s.cs.eraseIdx at' } : St) v', u.oneCell' = true := by obtain ⟨A2, c2, h⟩ := hown.2.form; rw [h]; exact stc_one _ _ _ _
        obtain ⟨MC, hMC⟩ : ∃ MC, MC = stc ({ s with round := r1, m0 := s.m0 + cq, cs := s.cs.eraseIdx at' } : St) v' := ⟨_, rfl⟩
        rw [← hMC] at hnb hsm hml hmone
        obtain ⟨zm, hzm⟩ : ∃ zm, zm = soundM ({ s with round := r1, m0 := s.m0 + cq, cs := s.cs.eraseIdx at' } : St) p0 p1 := ⟨_, rfl⟩
        rw [← hzm] at hsm
        have hcm2 := hnb.cells
        have hcp2 := HI.out.pc.cells
        have HMC := Lib.hid hMC
        have HZM := Lib.hid hzm
        have HML := Lib.hid hml
        have HNB := Lib.hid hnb
        have HOWN := Lib.hid hown
        clear hMC hzm hml hnb hown hmo
        go_wp2_with (first
          | (refine wpList_load_agg _ rfl 27 (.tmp 11) rfl _ rfl MC _ Try.underlying27 rfl (szSFrom HML.out) hcm2 ?_)
          | (refine wpList_load_agg _ rfl 24 (.tmp 5) rfl _ rfl PC _ Try.underlying24 rfl (n2_size HPL.out) hcp2 ?_)
          | fail)
        refine hsm.mono ?_
        rintro e w5 ⟨rfl, hx5⟩
        have hr8 : w5.heap[w.heap.size + 3]? = some (.cells Z.toArray 27 (0, 0)) := HI.out.z.keep hx5 (by simp)
        have hcm2 := (HNB.out.keep hx5 (by simp)).cells
        by_cases hz0 : zm = 0
        · subst hz0
          go_wp2_with (first
            | (refine wpList_load_agg _ rfl 27 (.tmp 11) rfl _ rfl MC _ Try.underlying27 rfl (szSFrom HML.out) hcm2 ?_)
            | (refine wpList_store_row _ rfl 27 (.tmp 8) (.tmp 198) rfl (w.heap.size + 3) rfl Z MC _ rfl hr8 (szSFrom HML.out) (by rw [HML.out, HZL.out]) hmone ?_)
            | fail)
          have hc9 := Blk.cells (t := 27) (setRow_at (cs' := MC.toArray) hr8)
          (try simp only [Exit.inBlock, Exit.then])
          refine bodyPost_ret (results_agg_tmp rfl _ _ _ _ _ rfl Try.underlying27 rfl (szSFrom HML.out) hc9) rfl ?_
          have hfin : finM ({ s with round := r1, m0 := s.m0 + cq, cs := s.cs.eraseIdx at' } : St) p0 p1 = (({ s with round := r1, m0 := s.m0 + cq, cs := s.cs.eraseIdx at' } : St), 0) := by unfold finM; rw [if_neg (by rw [← HZM.out]; simp)]
          refine ⟨v', ?_, ?_, grown_then (HI.out.ext.trans hx5) (setRow_only _) (.inr (by rintro b ⟨⟩; omega))⟩
          · rw [htl, hfin, HMC.out]; rfl
          · rw [htl, hfin]
            exact ⟨HOWN.out.1, (HOWN.out.2.ext hx5).keep (row := some (w.heap.size + 3)) (setRow_only _) (by
              cases hvb : v'.ownBlock with
              | none => exact .inl rfl
              | some b => exact .inr (by have := (HI.out.far b hvb).1; simp; omega))⟩
        · have hzb : (zm != 0) = true := by simpa using hz0
          go_wp2_with (first
            | (refine wpList_build (.inl rfl) 27 _ rfl (.agg zst.toArray) (by kernel_rfl) ?_; rw [← HZB])
            | (refine wpList_store_row _ rfl 27 (.tmp 8) (.tmp 196) rfl (w.heap.size + 3) rfl Z Z _ rfl hr8 (szSFrom HZL.out) rfl hzo ?_)
            | fail)
          have hc9 := Blk.cells (t := 27) (setRow_at (cs' := Z.toArray) hr8)
          (try simp only [Exit.inBlock, Exit.then])
          refine bodyPost_ret (results_agg_tmp rfl _ _ _ _ _ rfl Try.underlying27 rfl (szSFrom HZL.out) hc9) rfl ?_
          have hfin : finM ({ s with round := r1, m0 := s.m0 + cq, cs := s.cs.eraseIdx at' } : St) p0 p1 = (.zero, zm) := by unfold finM; rw [if_pos (by rw [← HZM.out]; exact hz0), HZM.out]
          refine ⟨.slice none 0 0, ?_, ?_, grown_then (HI.out.ext.trans hx5) (setRow_only _) (.inr (by rintro b ⟨⟩; omega))⟩
          · rw [htl, hfin, HZB.out]; rfl
          · rw [htl, hfin]; exact ⟨by simp [St.zero], Own.nil _ _ _⟩
      · have ea : addM s.m0 cq = (0, 11) := by unfold addM; rw [if_neg hov]
        have htl := hfin1 hov
        rw [ea] at hadd
        simp only [numErr] at hadd
        have HADD := Lib.hid hadd
        clear hadd ea
        refine startL 15 Since (by kernel_rfl) ?_
        (try simp only [Act.put, List.setIfInBounds_toArray, List.set_cons_succ, List.set_cons_zero])
        have hxd : Ext wr (wr.alloc (.cells C.toArray 30)).drew := ((Ext.refl wr).alloc (.cells C.toArray 30)).drew
        have hb15 : Blk (wr.alloc (.cells C.toArray 30)).drew wr.heap.size 30 C := (Blk.new wr _ C).keep (Ext.refl _).drew (by simp)
        have HI := Lib.hid (HI.out.ext' hxd)
        clear hxd
        generalize World.drew _ = w0 at *
        generalize wr.heap.size = g15 at *
        have cM : w0.cell? ⟨g11, 2, none⟩ = some (.int .u64 (s.m0 : Int)) := (HI.out.nb.cell 2).trans rfl
        have cS : w0.cell? ⟨g15, 1, none⟩ = some (.int .i64 0) := (hb15.cell 1).trans HC1.out
        have cQ : w0.cell? ⟨g15, 2, none⟩ = some (.int .u64 (cq : Int)) := (hb15.cell 2).trans HC2.out
        clear hb15
        refine takeN (fun _ => Ext.refl _) 0 rfl (by kernel_rfl) (by kernel_rfl) (by kernel_rfl) rfl (fun _ _ _ _ h => h) rfl (fun K hK => ?_)
        go_big_quiet_op
        first | refine hK _ ?_ | refine ⟨_, fun _ _ => rfl, hK _ ?_⟩
        clear hK K
        refine takeL (fun _ => Ext.refl _) (fun _ _ _ h1 h2 => Ext.trans h1 h2) 1 [15] rfl (by kernel_rfl) (by kernel_rfl) (by kernel_rfl) (by kernel_rfl) rfl (fun _ _ _ _ h => h) rfl (fun K hK => ?_)
        refine quiet_cell _ _ rfl _ rfl _ _ Try.underlying3 rfl (fun W' h => World.grownBy.cell h cS (by simp)) ?_
        refine hK _ ?_
        simp only [Act.put, List.setIfInBounds_toArray, List.set_cons_succ, List.set_cons_zero]
        clear hK K
        refine takeN (fun _ => Ext.refl _) 2 rfl (by kernel_rfl) (by kernel_rfl) (by kernel_rfl) rfl (fun _ _ _ _ h => h) rfl (fun K hK => ?_)
        go_big_quiet_op
        first | refine hK _ ?_ | refine ⟨_, fun _ _ => rfl, hK _ ?_⟩
        clear hK K
        refine takeL (fun _ => Ext.refl _) (fun _ _ _ h1 h2 => Ext.trans h1 h2) 3 [15] rfl (by kernel_rfl) (by kernel_rfl) (by kernel_rfl) (by kernel_rfl) rfl (fun _ _ _ _ h => h) rfl (fun K hK => ?_)
        refine quiet_cell _ _ rfl _ rfl _ _ Try.underlying3 rfl (fun W' h => World.grownBy.cell h cS (by simp)) ?_
        refine hK _ ?_
        simp only [Act.put, List.setIfInBounds_toArray, List.set_cons_succ, List.set_cons_zero]
        clear hK K
        refine takeN (fun _ => Ext.refl _) 4 rfl (by kernel_rfl) (by kernel_rfl) (by kernel_rfl) rfl (fun _ _ _ _ h => h) rfl (fun K hK => ?_)
        go_big_quiet_op
        first | refine hK _ ?_ | refine ⟨_, fun _ _ => rfl, hK _ ?_⟩
        clear hK K
        refine takeN (fun _ => Ext.refl _) 5 rfl (by kernel_rfl) (by kernel_rfl) (by kernel_rfl) rfl (fun _ _ _ _ h => h) rfl (fun K hK => ?_)
        go_big_quiet_op
        first | refine hK _ ?_ | refine ⟨_, fun _ _ => rfl, hK _ ?_⟩
        clear hK K
        refine takeL (fun _ => Ext.refl _) (fun _ _ _ h1 h2 => Ext.trans h1 h2) 6 [15] rfl (by kernel_rfl) (by kernel_rfl) (by kernel_rfl) (by kernel_rfl) rfl (fun _ _ _ _ h => h) rfl (fun K hK => ?_)
        refine quiet_cell _ _ rfl _ rfl _ _ Try.underlying23 rfl (fun W' h => World.grownBy.cell h cM (by simp)) ?_
        refine hK _ ?_
        simp only [Act.put, List.setIfInBounds_toArray, List.set_cons_succ, List.set_cons_zero]
        clear hK K
        refine takeN (fun _ => Ext.refl _) 7 rfl (by kernel_rfl) (by kernel_rfl) (by kernel_rfl) rfl (fun _ _ _ _ h => h) rfl (fun K hK => ?_)
        go_big_quiet_op
        first | refine hK _ ?_ | refine ⟨_, fun _ _ => rfl, hK _ ?_⟩
        clear hK K
        refine takeL (fun _ => Ext.refl _) (fun _ _ _ h1 h2 => Ext.trans h1 h2) 8 [15] rfl (by kernel_rfl) (by kernel_rfl) (by kernel_rfl) (by kernel_rfl) rfl (fun _ _ _ _ h => h) rfl (fun K hK => ?_)
        refine quiet_cell _ _ rfl _ rfl _ _ Try.underlying23 rfl (fun W' h => World.grownBy.cell h cQ (by simp)) ?_
        refine hK _ ?_
        simp only [Act.put, List.setIfInBounds_toArray, List.set_cons_succ, List.set_cons_zero]
        clear hK K
        refine takeN (fun _ => Ext.refl _) 13 rfl (by kernel_rfl) (by kernel_rfl) (by kernel_rfl) rfl (fun _ _ _ _ h => h) rfl (fun K hK => ?_)
        go_big_quiet_op
        first | refine hK _ ?_ | refine ⟨_, fun _ _ => rfl, hK _ ?_⟩
        clear hK K
        refine stepL 9 rfl (by kernel_rfl) rfl (fun K hK => ?_)
        go_simp
        refine (HADD.out _).mono ?_
        rintro e w5 ⟨rfl, hx5⟩
        obtain rfl := hx5
        refine hK _ _ (fun _ => Ext.refl _) ?_
        clear hK K
        refine takeN (fun _ => Ext.refl _) 10 rfl (by kernel_rfl) (by kernel_rfl) (by kernel_rfl) rfl (fun _ _ _ _ h => h) rfl (fun K hK => ?_)
        go_big_quiet_op
        first | refine hK _ ?_ | refine ⟨_, fun _ _ => rfl, hK _ ?_⟩
        clear hK K
        refine takeN (fun _ => Ext.refl _) 11 rfl (by kernel_rfl) (by kernel_rfl) (by kernel_rfl) rfl (fun _ _ _ _ h => h) rfl (fun K hK => ?_)
        go_big_quiet_op
        first | refine hK _ ?_ | refine ⟨_, fun _ _ => rfl, hK _ ?_⟩
        clear hK K
        refine takeN (fun _ => Ext.refl _) 12 rfl (by kernel_rfl) (by kernel_rfl) (by kernel_rfl) rfl (fun _ _ _ _ h => h) rfl (fun K hK => ?_)
        go_big_quiet_op
        first | refine hK _ ?_ | refine ⟨_, fun _ _ => rfl, hK _ ?_⟩
        clear hK K
        refine takeN (fun _ => Ext.refl _) 14 rfl (by kernel_rfl) (by kernel_rfl) (by kernel_rfl) rfl (fun _ _ _ _ h => h) rfl (fun K hK => ?_)
        go_big_quiet_op
        first | refine hK _ ?_ | refine ⟨_, fun _ _ => rfl, hK _ ?_⟩
        clear hK K
        refine stepL 15 rfl (by kernel_rfl) rfl (fun K hK => ?_)
        have s9 : w0.cell? ⟨g11, 2, none⟩ = some (.int .u64 (s.m0 : Int)) := cM
        have f9 : w0.frozen? ⟨g11, 2, none⟩ = false := HI.out.nb.free 2
        go_simp
        refine hK _ _ (fun h => absurd rfl h) ?_
        clear hK K
        refine takeN (fun _ => Ext.refl _) 16 rfl (by kernel_rfl) (by kernel_rfl) (by kernel_rfl) rfl (fun _ _ _ _ h => h) rfl (fun K hK => ?_)
        go_big_quiet_op
        first | refine hK _ ?_ | refine ⟨_, fun _ _ => rfl, hK _ ?_⟩
        clear hK K
        refine doneL (by kernel_rfl) ?_ _
        have hI9 := HI.out.put (n1 := ({ s with round := r1, m0 := 0, cs := [] } : St)) 2 (.int .u64 ((0 : Nat) : Int)) (by simp [stc]) hg11
        generalize w0.setCell ⟨g11, 2, none⟩ (.int .u64 ((0 : Nat) : Int)) = wr at *
        have HI := Lib.hid hI9
        clear hI9 cM cS cQ s9 f9
        have hr8 : wr.heap[w.heap.size + 3]? = some (.cells Z.toArray 27 (0, 0)) := HI.out.z
        go_wp2_with (first
          | (refine wpList_build (.inl rfl) 27 _ rfl (.agg zst.toArray) (by kernel_rfl) ?_; rw [← HZB])
          | (refine wpList_store_row _ rfl 27 (.tmp 8) (.tmp 189) rfl (w.heap.size + 3) rfl Z Z _ rfl hr8 (szSFrom HZL.out) rfl hzo ?_)
          | fail)
        have hc9 := Blk.cells (t := 27) (setRow_at (cs' := Z.toArray) hr8)
        (try simp only [Exit.inBlock, Exit.then])
        refine bodyPost_ret (results_agg_tmp rfl _ _ _ _ _ rfl Try.underlying27 rfl (szSFrom HZL.out) hc9) rfl ?_
        refine ⟨.slice none 0 0, ?_, ?_, grown_then HI.out.ext (setRow_only _) (.inr (by rintro b ⟨⟩; omega))⟩
        · rw [htl, HZB]; rfl
        · rw [htl]; exact ⟨by simp [St.zero], Own.nil _ _ _⟩
set_option maxRecDepth 100000 in
set_option maxHeartbeats 8000000 in
theorem RNext3s1 (w : World) (F : Fp) (s : St) (p0 p1 : Nat) (v : Value) (SC PC OC Z : List Value) (sd : Int) (r1 am cid cam oid : Nat) (cside : Int) (fd : Nat → Int) (rm : Nat → Int) (hin : RNextIn w SC PC OC Z sd s.cs s.round r1 am cid cam oid 3 cside 0 fd rm sd) (T : St × Int) (at' : Nat) (hat : fd oid = (at' : Int)) (hal : at' < List.length (α := Cd) s.cs) (cq : Nat) (hcq : (s.cs[at']).2.2.1 = cq) (hsd3 : (s.cs[at']).2.1 = 1) (hfin0 : s.m1 + cq < M64 → T = finM ({ s with round := r1, m1 := s.m1 + cq, cs := s.cs.eraseIdx at' } : St) p0 p1) (hfin1 : ¬ s.m1 + cq < M64 → T = (.zero, 11)) (hr1 : r1 = s.round + 1)
    (hsc : SC = stc s v) (hpc : PC = ptc p0 p1) (hs : StOk s) (hc : Conds w F v s.cs) (hF : ∀ b, F b → b < w.heap.size) (hrd' : s.round < 200) (h8 : List.length (α := Cd) s.cs ≤ 8) (hp0 : p0 < M64) (hp1 : p1 < M64) :
    Calls Try.prog 13 #[.agg SC.toArray, .agg PC.toArray, .int .i64 sd, .agg OC.toArray] w fun e w' => ∃ v', e = .returned (.tuple #[.agg (stc (T).1 v').toArray, .int .i64 (T).2]) ∧ OwnFrom w' v' (T).1.cs ∧ Ext w w' := by
  obtain ⟨i1, z1, hi1, hz1, hi2, hi3, hi4⟩ := partsFrom
  obtain ⟨A, c, xs, rfl, hlc, hcm, hA, hcell, hall⟩ := conds_open hc
  clear hc
  unfold maxLen at hcm
  have hs6 : SC[6]? = some (.slice A (List.length (α := Cd) s.cs) c) := by rw [hsc]; rfl
  have hs0 : SC[0]? = some (.int .u32 (s.chan : Int)) := by rw [hsc]; rfl
  have hsm : (SC.drop 2).take 2 = ptc s.m0 s.m1 := by rw [hsc]; rfl
  have hst : (SC.drop 4).take 2 = ptc s.t0 s.t1 := by rw [hsc]; rfl
  have HPE := Lib.hid hpc
  have HR1 := Lib.hid hr1
  clear hsc hpc hr1
  obtain ⟨rd, hrd⟩ : ∃ rd, rd = s.round := ⟨_, rfl⟩
  rw [← hrd] at hin hrd'
  have hz := hin.zi
  have hzo := hin.zo
  have HZB : Hid (Z = zst) := hin.zE
  have HSL := Lib.hid hin.sl
  have HPL := Lib.hid hin.pl
  have HOL := Lib.hid hin.ol
  have HZL := Lib.hid hin.zl
  have hb0 : Blk ((((w.alloc (.cells SC.toArray 27)).alloc (.cells PC.toArray 24)).alloc (.cells OC.toArray 32)).alloc (.cells Z.toArray 27)) w.heap.size 27 SC := (Blk.new _ _ _).keep ((((Ext.refl _).alloc _).alloc _).alloc _) (by simp)
  have hb1 : Blk ((((w.alloc (.cells SC.toArray 27)).alloc (.cells PC.toArray 24)).alloc (.cells OC.toArray 32)).alloc (.cells Z.toArray 27)) (w.heap.size + 1) 24 PC := (Blk.new_at (by simp) _ _).keep (((Ext.refl _).alloc _).alloc _) (by simp)
  have hb2 : Blk ((((w.alloc (.cells SC.toArray 27)).alloc (.cells PC.toArray 24)).alloc (.cells OC.toArray 32)).alloc (.cells Z.toArray 27)) (w.heap.size + 2) 32 OC := (Blk.new_at (by simp) _ _).keep ((Ext.refl _).alloc _) (by simp)
  have hb3 : Blk ((((w.alloc (.cells SC.toArray 27)).alloc (.cells PC.toArray 24)).alloc (.cells OC.toArray 32)).alloc (.cells Z.toArray 27)) (w.heap.size + 3) 27 Z := Blk.new_at (by simp) _ _
  have hx0 : Ext w ((((w.alloc (.cells SC.toArray 27)).alloc (.cells PC.toArray 24)).alloc (.cells OC.toArray 32)).alloc (.cells Z.toArray 27)) := ((((Ext.refl w).alloc _).alloc _).alloc _).alloc _
  have hcs := hb0.cells
  have hcp := hb1.cells
  have HB0 := Lib.hid hb0
  have HB1 := Lib.hid hb1
  have HB2 := Lib.hid hb2
  have HB3 := Lib.hid hb3
  have HX0 := Lib.hid hx0
  have HIN := Lib.hid hin
  clear hb0 hb1 hb2 hb3 hx0 hin
  have c1' : ∀ W, Ext ((((w.alloc (.cells SC.toArray 27)).alloc (.cells PC.toArray 24)).alloc (.cells OC.toArray 32)).alloc (.cells Z.toArray 27)) W → W.cell? ⟨w.heap.size, 1, none⟩ = some (.int .u64 (rd : Int)) := fun W h => ((HB0.out.keep h (by simp)).cell 1).trans HIN.out.s1
  have C1 := Lib.hid c1'
  have hrb : ((rd : Int) == 200) = false := by rw [beq_eq_false_iff_ne]; omega
  have htb : (sd != sd) = false := bne_self_eq_false _
  have hw1 := HIN.out.w1
  have HRD := Lib.hid hrd
  clear c1' hrd
  go_enter Try.func13, Try.ntmps13
  go_wp2_with (first
    | (refine wpList_alloc _ rfl 27 rfl _ hz ?_)
    | (refine wpList_load_agg _ rfl 27 (.tmp 4) rfl _ rfl SC _ Try.underlying27 rfl (szSFrom HSL.out) hcs ?_)
    | (refine wpList_load_agg _ rfl 24 (.tmp 5) rfl _ rfl PC _ Try.underlying24 rfl (by rw [HPL.out]; kernel_rfl) hcp ?_)
    | fail)
  refine (HIN.out.sn _ HX0.out).mono ?_
  rintro e w1 ⟨rfl, hx1⟩
  have d1 := C1.out w1 hx1
  have hbs := HB0.out.keep hx1 (by simp)
  have d0 := (hbs.cell 0).trans hs0
  have hm2 : Cells w1 ⟨w.heap.size, 2, none⟩ (ptc s.m0 s.m1) := by have h := (hbs.cells.drop 2).take 2; rw [hsm] at h; simpa [Addr.add] using h
  have ht4 : Cells w1 ⟨w.heap.size, 4, none⟩ (ptc s.t0 s.t1) := by have h := (hbs.cells.drop 4).take 2; rw [hst] at h; simpa [Addr.add] using h
  have k0 : (w1.alloc (.cells (stc { s with round := r1, cs := [] } (.slice none 0 0)).toArray 27)).cell? ⟨w.heap.size + 2, 0, none⟩ = some (.int .i64 3) := ((HB2.out.keep (hx1.alloc _) (by simp)).cell 0).trans HIN.out.o0
  have k38 : (w1.alloc (.cells (stc { s with round := r1, cs := [] } (.slice none 0 0)).toArray 27)).cell? ⟨w.heap.size + 2, 38, none⟩ = some (.int .u64 (oid : Int)) := ((HB2.out.keep (hx1.alloc _) (by simp)).cell 38).trans HIN.out.o38
  have hcs2 := (HB0.out.keep (hx1.alloc (.cells (stc { s with round := r1, cs := [] } (.slice none 0 0)).toArray 27)) (by simp)).cells
  have hI : RInv w (w1.alloc (.cells (stc { s with round := r1, cs := [] } (.slice none 0 0)).toArray 27)) SC PC OC Z w1.heap.size { s with round := r1, cs := [] } (.slice none 0 0) [] := by
    have hx := hx1.alloc (.cells (stc { s with round := r1, cs := [] } (.slice none 0 0)).toArray 27)
    exact ⟨HX0.out.trans hx, HB0.out.keep hx (by simp), HB1.out.keep hx (by simp), HB2.out.keep hx (by simp), HB3.out.keep hx (by simp), Blk.new _ _ _, ⟨by simp, Own.nil _ _ _⟩, by simp [Value.ownBlock]⟩
  have hg11 : w.heap.size + 4 ≤ w1.heap.size := by have h1 := HB3.out.lt; have h2 := hx1.size; omega
  have HI := Lib.hid hI
  clear hI hbs
  have hfd := HIN.out.fn _ HI.out.ext oid
  rw [hat] at hfd
  have HFD := Lib.hid hfd
  have hatn : ¬ ((at' : Int) < 0) := by omega
  clear hfd
  go_wp2_with (first
    | (go_at_call 30; refine (HIN.out.turn _).mono ?_; rintro e _ ⟨rfl, rfl⟩)
    | (refine wpList_load_agg _ rfl 24 (.tmp 39) rfl _ rfl (ptc s.m0 s.m1) _ Try.underlying24 rfl (n2_size rfl) hm2 ?_)
    | (refine wpList_load_agg _ rfl 24 (.tmp 41) rfl _ rfl (ptc s.t0 s.t1) _ Try.underlying24 rfl (n2_size rfl) ht4 ?_)
    | (refine wpList_build (.inl rfl) 27 _ rfl (.agg (stc { s with round := r1, cs := [] } (.slice none 0 0)).toArray) (by kernel_rfl) ?_)
    | (refine wpList_alloc _ rfl 27 rfl _ hz ?_)
    | (refine wpList_store_new _ rfl 27 (.tmp 11) (.tmp 43) rfl rfl Z (stc { s with round := r1, cs := [] } (.slice none 0 0)) _ rfl (szSFrom rfl) (by rw [HZL.out]; rfl) (stc_one _ _ _ _) ?_)
    | (refine wpList_load_agg _ rfl 27 (.tmp 4) rfl _ rfl SC _ Try.underlying27 rfl (szSFrom HSL.out) hcs2 ?_)
    | (go_at_call 27; refine HFD.out.mono ?_; rintro e w2 ⟨rfl, hx2⟩)
    | fail)
  have HI := Lib.hid (HI.out.ext' hx2)
  generalize w1.heap.size = g11 at *
  clear k0 k38 hcs2 hx1 hm2 ht4 d0 d1
  go_loopw [13] (fun i wr => ∃ (j : Nat) (v' : Value), j ≤ List.length (α := Cd) s.cs ∧ i = .int .i64 j ∧ RInv w wr SC PC OC Z g11 { s with round := r1, cs := [] } v' (keptM s.cs (some at') j)) (fun i _ => List.length (α := Cd) s.cs - (intOf i).toNat)
  case atStart => exact ⟨0, .slice none 0 0, by omega, rfl, by rw [kept_zero]; exact HI.out⟩
  case round =>
    clear HI
    obtain ⟨j, v', hj, rfl, hI⟩ := hrel
    have HI := Lib.hid hI
    clear hI
    have e6 : wr.cell? ⟨w.heap.size, 6, none⟩ = some (.slice A (List.length (α := Cd) s.cs) c) := (HI.out.sc.cell 6).trans hs6
    by_cases hlt : j < List.length (α := Cd) s.cs
    · obtain ⟨ad, rfl, hf, hcells⟩ := hcell (by omega)
      by_cases hje : at' = j
      · subst hje
        have hjb : ((at' : Int) != (at' : Int)) = false := bne_self_eq_false _
        have hks := kept_skip s.cs at' hlt
        have HKS := Lib.hid hks
        clear hks hcells
        go_wp2
        go_roundw
        case rel => exact ⟨at' + 1, v', by omega, by go_num, by rw [HKS.out]; exact HI.out⟩
        case measure => simp [intOf]; omega
      · have hjb : ((j : Int) != (at' : Int)) = true := by rw [bne_iff_ne]; omega
        have hne : (some at') ≠ some j := fun e => hje (Option.some.inj e)
        obtain ⟨hcc, hok⟩ := conds_at hall (hcells.keep (HI.out.ext.same hF _ hf)) hlt
        have hks := kept_step s.cs (some at') j hlt hne
        have hkl := kept_len s.cs (some at') j
        have hone := condCells_one s.cs[j]
        have HCL := Lib.hid (condCells_len hok)
        generalize hck : s.cs[j] = ck at *
        generalize hCE : condCells ck = C at *
        have HCE := Lib.hid hCE
        have HKS := Lib.hid hks
        have HKL := Lib.hid hkl
        have HOKC := Lib.hid hok
        clear hks hkl hcells hCE hok hck
        go_wp2
        have hcc : Cells wr.drew (ad.add (j * 36)) C := hcc
        have hd6 : wr.drew.cell? ⟨w.heap.size, 6, none⟩ = some (.slice (some ad) (List.length (α := Cd) s.cs) c) := e6
        have HI := Lib.hid (HI.out.ext' (Ext.refl wr).drew)
        refine startL 10 (KeepB fun b => b = g11 ∨ b ≤ w.heap.size) (by kernel_rfl) ?_
        (try simp only [Act.put, List.setIfInBounds_toArray, List.set_cons_succ, List.set_cons_zero])
        generalize wr.drew = w0 at *
        have hc6 : w0.cell? ⟨g11, 6, none⟩ = some v' := (HI.out.nb.cell 6).trans rfl
        have C6 := Lib.hid hc6
        have D6 := Lib.hid hd6
        have HCC := Lib.hid hcc
        clear hc6 hd6 hcc e6
        refine takeN (fun _ _ _ => rfl) 0 rfl (by kernel_rfl) (by kernel_rfl) (by kernel_rfl) rfl (fun _ _ _ _ h => h) rfl (fun K hK => ?_)
        go_big_quiet_op
        first | refine hK _ ?_ | refine ⟨_, fun _ _ => rfl, hK _ ?_⟩
        clear hK K
        refine takeL (fun _ _ _ => rfl) (fun _ _ _ h1 h2 b hb => (h2 b hb).trans (h1 b hb)) 1 [10] rfl (by kernel_rfl) (by kernel_rfl) (by kernel_rfl) (by kernel_rfl) rfl (fun _ _ _ _ h => h) rfl (fun K hK => ?_)
        refine quiet_cell _ _ rfl _ rfl _ _ Try.underlying25 rfl (fun W' h => KeepB.cell h C6.out (by simp)) ?_
        refine hK _ ?_
        simp only [Act.put, List.setIfInBounds_toArray, List.set_cons_succ, List.set_cons_zero]
        clear hK K
        refine takeN (fun _ _ _ => rfl) 2 rfl (by kernel_rfl) (by kernel_rfl) (by kernel_rfl) rfl (fun _ _ _ _ h => h) rfl (fun K hK => ?_)
        go_big_quiet_op
        first | refine hK _ ?_ | refine ⟨_, fun _ _ => rfl, hK _ ?_⟩
        clear hK K
        refine takeL (fun _ _ _ => rfl) (fun _ _ _ h1 h2 b hb => (h2 b hb).trans (h1 b hb)) 3 [10] rfl (by kernel_rfl) (by kernel_rfl) (by kernel_rfl) (by kernel_rfl) rfl (fun _ _ _ _ h => h) rfl (fun K hK => ?_)
        refine quiet_cell _ _ rfl _ rfl _ _ Try.underlying25 rfl (fun W' h => KeepB.cell h D6.out (by simp)) ?_
        refine hK _ ?_
        simp only [Act.put, List.setIfInBounds_toArray, List.set_cons_succ, List.set_cons_zero]
        clear hK K
        refine takeN (fun _ _ _ => rfl) 4 rfl (by kernel_rfl) (by kernel_rfl) (by kernel_rfl) rfl (fun _ _ _ _ h => h) rfl (fun K hK => ?_)
        go_big_quiet_op
        first | refine hK _ ?_ | refine ⟨_, fun _ _ => rfl, hK _ ?_⟩
        clear hK K
        refine takeN (fun _ _ _ => rfl) 5 rfl (by kernel_rfl) (by kernel_rfl) (by kernel_rfl) rfl (fun _ _ _ _ h => h) rfl (fun K hK => ?_)
        go_big_quiet_op
        first | refine hK _ ?_ | refine ⟨_, fun _ _ => rfl, hK _ ?_⟩
        clear hK K
        refine takeL (fun _ _ _ => rfl) (fun _ _ _ h1 h2 b hb => (h2 b hb).trans (h1 b hb)) 6 [10] rfl (by kernel_rfl) (by kernel_rfl) (by kernel_rfl) (by kernel_rfl) rfl (fun _ _ _ _ h => h) rfl (fun K hK => ?_)
        refine quiet_agg 30 (.tmp 74) rfl _ rfl C _ Try.underlying30 rfl (szDFrom HCL.out) (fun W' h => KeepB.cells h HCC.out (.inr (by rw [add_block]; have := hF _ hf; omega))) ?_
        refine hK _ ?_
        simp only [Act.put, List.setIfInBounds_toArray, List.set_cons_succ, List.set_cons_zero]
        clear hK K
        refine stepL 7 rfl (by kernel_rfl) rfl (fun K hK => ?_)
        refine wp_one w0 25 (.tmp 75) rfl 30 C Try.underlying25 rfl (szDFrom HCL.out) zDFrom (by rw [HCL.out]; decide) (by rw [HCL.out]; decide) ?_
        refine hK _ _ (fun _ b hb => ((Ext.refl w0).alloc _).block b (by have h1 := HI.out.nb.lt; have h2 := HI.out.sc.lt; rcases hb with rfl | hb <;> omega) (by simp)) ?_
        clear hK K
        (try simp only [Act.put, List.setIfInBounds_toArray, List.set_cons_succ, List.set_cons_zero])
        refine stepL 8 rfl (by kernel_rfl) rfl (fun K hK => ?_)
        refine wp_app _ (.tmp 70) (.tmp 76) _ _ rfl 30 30 i1 z1 36 64 Try.underlying25 Try.underlying25 hi1 hz1 hi2 hi3 hi4 (by decide) _ _ _ rfl (HI.out.own.2.ext ((Ext.refl w0).alloc _)) _ 1 1 C rfl (by rw [HCL.out]) (src_new_at rfl C _ 1) hone (by have := HKL.out; unfold maxLen; omega) (by have := HKL.out; omega) ?_
        intro v7 w7 ho7 hm7
        obtain ⟨A7, c7, hv7⟩ := Own.form ho7
        subst hv7
        refine hK _ _ (fun _ b hb => hm7.grown.block b (by have h1 := HI.out.nb.lt; have h2 := HI.out.sc.lt; simp; rcases hb with rfl | hb <;> omega) (fun e => by have h9 := HI.out.far b e.symm; rcases hb with hb | hb <;> omega)) ?_
        clear hK K
        (try simp only [Act.put, List.setIfInBounds_toArray, List.set_cons_succ, List.set_cons_zero])
        refine takeN (fun _ _ _ => rfl) 9 rfl (by kernel_rfl) (by kernel_rfl) (by kernel_rfl) rfl (fun _ _ _ _ h => h) rfl (fun K hK => ?_)
        go_big_quiet_op
        first | refine hK _ ?_ | refine ⟨_, fun _ _ => rfl, hK _ ?_⟩
        clear hK K
        refine stepL 10 rfl (by kernel_rfl) rfl (fun K hK => ?_)
        have HB7 := Lib.hid ((HI.out.nb.keep ((Ext.refl w0).alloc (.cells C.toArray 30)) (by simp)).keep hm7.grown (fun e => (HI.out.far _ e.symm).2 rfl))
        have s9 : w7.cell? ⟨g11, 6, none⟩ = some v' := (HB7.out.cell 6).trans rfl
        have f9 : w7.frozen? ⟨g11, 6, none⟩ = false := HB7.out.free 6
        go_simp
        refine hK _ _ (fun h => absurd rfl h) ?_
        clear hK K
        refine doneL (by kernel_rfl) ?_ _
        have hI8 := HI.out.grow ((Ext.refl w0).alloc (.cells C.toArray 30)) hm7 (by rw [HCE.out]; exact ho7) HOKC.out hg11
        have HI8 := Lib.hid hI8
        clear hI8 s9 f9 ho7
        go_wp2
        go_roundw
        case rel => exact ⟨j + 1, _, by omega, by go_num, by rw [HKS.out]; exact HI8.out⟩
        case measure => simp [intOf]; omega
    · obtain rfl : j = List.length (α := Cd) s.cs := by omega
      have hkf : keptM s.cs (some at') (List.length (α := Cd) s.cs) = s.cs.eraseIdx at' := by show (s.cs.take (List.length (α := Cd) s.cs)).eraseIdx at' = _; rw [List.take_length]
      have k0 : wr.cell? ⟨w.heap.size + 2, 0, none⟩ = some (.int .i64 3) := (HI.out.oc.cell 0).trans HIN.out.o0
      obtain ⟨ad, rfl, hf, hcells⟩ := hcell (by omega)
      obtain ⟨hcc, hok⟩ := conds_at hall (hcells.keep (HI.out.ext.same hF _ hf)) hal
      have hone := condCells_one s.cs[at']
      have hcql : cq < M64 := by rw [← hcq]; exact cond_am_lt hok
      have HCL := Lib.hid (condCells_len hok)
      have HC1 : Hid ((condCells s.cs[at'])[1]? = some (.int .i64 1)) := by show some (Value.int .i64 (s.cs[at']).2.1) = _; rw [hsd3]
      have HC2 : Hid ((condCells s.cs[at'])[2]? = some (.int .u64 (cq : Int))) := by show some (Value.int .u64 ((s.cs[at']).2.2.1 : Int)) = _; rw [hcq]
      obtain ⟨ZD, hzd, hzdl⟩ : ∃ ZD : List Value, (Try.prog.info? 30).bind (fun i => i.zero.map (·.cells)) = some ZD.toArray ∧ ZD.length = 36 := ⟨_, zRCond, rfl⟩
      have HZD := Lib.hid hzdl
      generalize hCE : condCells s.cs[at'] = C at *
      clear hcells hCE hok hzdl hsd3 hcq
      have hadd := fun W => RAdd s.m1 cq W hs.m1 hcql
      go_wp2_with (first
        | (refine wpList_load_agg _ rfl 30 (.tmp 170) rfl _ rfl C _ Try.underlying30 rfl (szDFrom HCL.out) hcc ?_)
        | (refine wpList_alloc _ rfl 30 rfl _ hzd ?_)
        | (refine wpList_store_new _ rfl 30 (.tmp 15) (.tmp 171) rfl rfl ZD C _ rfl (szDFrom HCL.out) (by rw [HCL.out, HZD.out]) hone ?_)
        | fail)
      clear hzd hcc e6 k0
      by_cases hov : s.m1 + cq < M64
      · have ea : addM s.m1 cq = (s.m1 + cq, 0) := by unfold addM; rw [if_pos hov]
        have htl := hfin0 hov
        rw [ea] at hadd
        simp only [numErr] at hadd
        have HADD := Lib.hid hadd
        clear hadd ea
        refine startL 15 Since (by kernel_rfl) ?_
        (try simp only [Act.put, List.setIfInBounds_toArray, List.set_cons_succ, List.set_cons_zero])
        have hxd : Ext wr (wr.alloc (.cells C.toArray 30)).drew := ((Ext.refl wr).alloc (.cells C.toArray 30)).drew
        have hb15 : Blk (wr.alloc (.cells C.toArray 30)).drew wr.heap.size 30 C := (Blk.new wr _ C).keep (Ext.refl _).drew (by simp)
        have HI := Lib.hid (HI.out.ext' hxd)
        clear hxd
        generalize World.drew _ = w0 at *
        generalize wr.heap.size = g15 at *
        have cM : w0.cell? ⟨g11, 3, none⟩ = some (.int .u64 (s.m1 : Int)) := (HI.out.nb.cell 3).trans rfl
        have cS : w0.cell? ⟨g15, 1, none⟩ = some (.int .i64 1) := (hb15.cell 1).trans HC1.out
        have cQ : w0.cell? ⟨g15, 2, none⟩ = some (.int .u64 (cq : Int)) := (hb15.cell 2).trans HC2.out
        clear hb15
        refine takeN (fun _ => Ext.refl _) 0 rfl (by kernel_rfl) (by kernel_rfl) (by kernel_rfl) rfl (fun _ _ _ _ h => h) rfl (fun K hK => ?_)
        go_big_quiet_op
        first | refine hK _ ?_ | refine ⟨_, fun _ _ => rfl, hK _ ?_⟩
        clear hK K
        refine takeL (fun _ => Ext.refl _) (fun _ _ _ h1 h2 => Ext.trans h1 h2) 1 [15] rfl (by kernel_rfl) (by kernel_rfl) (by kernel_rfl) (by kernel_rfl) rfl (fun _ _ _ _ h => h) rfl (fun K hK => ?_)
        refine quiet_cell _ _ rfl _ rfl _ _ Try.underlying3 rfl (fun W' h => World.grownBy.cell h cS (by simp)) ?_
        refine hK _ ?_
        simp only [Act.put, List.setIfInBounds_toArray, List.set_cons_succ, List.set_cons_zero]
        clear hK K
        refine takeN (fun _ => Ext.refl _) 2 rfl (by kernel_rfl) (by kernel_rfl) (by kernel_rfl) rfl (fun _ _ _ _ h => h) rfl (fun K hK => ?_)
        go_big_quiet_op
        first | refine hK _ ?_ | refine ⟨_, fun _ _ => rfl, hK _ ?_⟩
        clear hK K
        refine takeL (fun _ => Ext.refl _) (fun _ _ _ h1 h2 => Ext.trans h1 h2) 3 [15] rfl (by kernel_rfl) (by kernel_rfl) (by kernel_rfl) (by kernel_rfl) rfl (fun _ _ _ _ h => h) rfl (fun K hK => ?_)
        refine quiet_cell _ _ rfl _ rfl _ _ Try.underlying3 rfl (fun W' h => World.grownBy.cell h cS (by simp)) ?_
        refine hK _ ?_
        simp only [Act.put, List.setIfInBounds_toArray, List.set_cons_succ, List.set_cons_zero]
        clear hK K
        refine takeN (fun _ => Ext.refl _) 4 rfl (by kernel_rfl) (by kernel_rfl) (by kernel_rfl) rfl (fun _ _ _ _ h => h) rfl (fun K hK => ?_)
        go_big_quiet_op
        first | refine hK _ ?_ | refine ⟨_, fun _ _ => rfl, hK _ ?_⟩
        clear hK K
        refine takeN (fun _ => Ext.refl _) 5 rfl (by kernel_rfl) (by kernel_rfl) (by kernel_rfl) rfl (fun _ _ _ _ h => h) rfl (fun K hK => ?_)
        go_big_quiet_op
        first | refine hK _ ?_ | refine ⟨_, fun _ _ => rfl, hK _ ?_⟩
        clear hK K
        refine takeL (fun _ => Ext.refl _) (fun _ _ _ h1 h2 => Ext.trans h1 h2) 6 [15] rfl (by kernel_rfl) (by kernel_rfl) (by kernel_rfl) (by kernel_rfl) rfl (fun _ _ _ _ h => h) rfl (fun K hK => ?_)
        refine quiet_cell _ _ rfl _ rfl _ _ Try.underlying23 rfl (fun W' h => World.grownBy.cell h cM (by simp)) ?_
        refine hK _ ?_
        simp only [Act.put, List.setIfInBounds_toArray, List.set_cons_succ, List.set_cons_zero]
        clear hK K
        refine takeN (fun _ => Ext.refl _) 7 rfl (by kernel_rfl) (by kernel_rfl) (by kernel_rfl) rfl (fun _ _ _ _ h => h) rfl (fun K hK => ?_)
        go_big_quiet_op
        first | refine hK _ ?_ | refine ⟨_, fun _ _ => rfl, hK _ ?_⟩
        clear hK K
        refine takeL (fun _ => Ext.refl _) (fun _ _ _ h1 h2 => Ext.trans h1 h2) 8 [15] rfl (by kernel_rfl) (by kernel_rfl) (by kernel_rfl) (by kernel_rfl) rfl (fun _ _ _ _ h => h) rfl (fun K hK => ?_)
        refine quiet_cell _ _ rfl _ rfl _ _ Try.underlying23 rfl (fun W' h => World.grownBy.cell h cQ (by simp)) ?_
        refine hK _ ?_
        simp only [Act.put, List.setIfInBounds_toArray, List.set_cons_succ, List.set_cons_zero]
        clear hK K
        refine takeN (fun _ => Ext.refl _) 13 rfl (by kernel_rfl) (by kernel_rfl) (by kernel_rfl) rfl (fun _ _ _ _ h => h) rfl (fun K hK => ?_)
        go_big_quiet_op
        first | refine hK _ ?_ | refine ⟨_, fun _ _ => rfl, hK _ ?_⟩
        clear hK K
        refine stepL 9 rfl (by kernel_rfl) rfl (fun K hK => ?_)
        go_simp
        refine (HADD.out _).mono ?_
        rintro e w5 ⟨rfl, hx5⟩
        obtain rfl := hx5
        refine hK _ _ (fun _ => Ext.refl _) ?_
        clear hK K
        refine takeN (fun _ => Ext.refl _) 10 rfl (by kernel_rfl) (by kernel_rfl) (by kernel_rfl) rfl (fun _ _ _ _ h => h) rfl (fun K hK => ?_)
        go_big_quiet_op
        first | refine hK _ ?_ | refine ⟨_, fun _ _ => rfl, hK _ ?_⟩
        clear hK K
        refine takeN (fun _ => Ext.refl _) 11 rfl (by kernel_rfl) (by kernel_rfl) (by kernel_rfl) rfl (fun _ _ _ _ h => h) rfl (fun K hK => ?_)
        go_big_quiet_op
        first | refine hK _ ?_ | refine ⟨_, fun _ _ => rfl, hK _ ?_⟩
        clear hK K
        refine takeN (fun _ => Ext.refl _) 12 rfl (by kernel_rfl) (by kernel_rfl) (by kernel_rfl) rfl (fun _ _ _ _ h => h) rfl (fun K hK => ?_)
        go_big_quiet_op
        first | refine hK _ ?_ | refine ⟨_, fun _ _ => rfl, hK _ ?_⟩
        clear hK K
        refine takeN (fun _ => Ext.refl _) 14 rfl (by kernel_rfl) (by kernel_rfl) (by kernel_rfl) rfl (fun _ _ _ _ h => h) rfl (fun K hK => ?_)
        go_big_quiet_op
        first | refine hK _ ?_ | refine ⟨_, fun _ _ => rfl, hK _ ?_⟩
        clear hK K
        refine stepL 15 rfl (by kernel_rfl) rfl (fun K hK => ?_)
        have s9 : w0.cell? ⟨g11, 3, none⟩ = some (.int .u64 (s.m1 : Int)) := cM
        have f9 : w0.frozen? ⟨g11, 3, none⟩ = false := HI.out.nb.free 3
        go_simp
        refine hK _ _ (fun h => absurd rfl h) ?_
        clear hK K
        refine takeN (fun _ => Ext.refl _) 16 rfl (by kernel_rfl) (by kernel_rfl) (by kernel_rfl) rfl (fun _ _ _ _ h => h) rfl (fun K hK => ?_)
        go_big_quiet_op
        first | refine hK _ ?_ | refine ⟨_, fun _ _ => rfl, hK _ ?_⟩
        clear hK K
        refine doneL (by kernel_rfl) ?_ _
        have hI9 := HI.out.put (n1 := ({ s with round := r1, m1 := s.m1 + cq, cs := [] } : St)) 3 (.int .u64 ((s.m1 : Int) + (cq : Int) : Int)) (by simp [stc]) hg11
        generalize w0.setCell ⟨g11, 3, none⟩ (.int .u64 ((s.m1 : Int) + (cq : Int) : Int)) = wr at *
        have HI := Lib.hid hI9
        clear hI9 cM cS cQ s9 f9
        have hmo : StOk ({ s with round := r1, m1 := s.m1 + cq, cs := s.cs.eraseIdx at' } : St) := ⟨hs.chan, by show r1 < M64; rw [HR1.out]; unfold M64; have := HRD.out; omega, hs.m0, (by show s.m1 + cq < M64; exact hov), hs.t0, hs.t1⟩
        have hnb : Blk wr g11 27 (stc ({ s with round := r1, m1 := s.m1 + cq, cs := s.cs.eraseIdx at' } : St) v') := HI.out.nb
        have hown : OwnFrom wr v' (St.cs ({ s with round := r1, m1 := s.m1 + cq, cs := s.cs.eraseIdx at' } : St)) := by have h := HI.out.own; rw [hkf] at h; exact h
        have hsm := RSoundC ({ s with round := r1, m1 := s.m1 + cq, cs := s.cs.eraseIdx at' } : St) v' p0 p1 wr _ hmo hp0 hp1 (ownFrom_holds hown) (ownFrom_lt hown)
        rw [← HPE.out] at hsm
        have hml : (stc ({ s with round := r1, m1 := s.m1 + cq, cs := s.cs.eraseIdx at' } : St) v').length = 7 := rfl
        have hmone : ∀ u ∈ stc ({ s with round := r1, m1 := s.m1 + cq, cs := s.cs.eraseIdx at' } : St) v', u.oneCell' = true := by obtain ⟨A2, c2, h⟩ := hown.2.form; rw [h]; exact stc_one _ _ _ _
        obtain ⟨MC, hMC⟩ : ∃ MC, MC = stc ({ s with round := r1, m1 := s.m1 + cq, cs := s.cs.eraseIdx at' } : St) v' := ⟨_, rfl⟩
        rw [← hMC] at hnb hsm hml hmone
        obtain ⟨zm, hzm⟩ : ∃ zm, zm = soundM ({ s with round := r1, m1 := s.m1 + cq, cs := s.cs.eraseIdx at' } : St) p0 p1 := ⟨_, rfl⟩
        rw [← hzm] at hsm
        have hcm2 := hnb.cells
        have hcp2 := HI.out.pc.cells
        have HMC := Lib.hid hMC
        have HZM := Lib.hid hzm
        have HML := Lib.hid hml
        have HNB := Lib.hid hnb
        have HOWN := Lib.hid hown
        clear hMC hzm hml hnb hown hmo
        go_wp2_with (first
          | (refine wpList_load_agg _ rfl 27 (.tmp 11) rfl _ rfl MC _ Try.underlying27 rfl (szSFrom HML.out) hcm2 ?_)
          | (refine wpList_load_agg _ rfl 24 (.tmp 5) rfl _ rfl PC _ Try.underlying24 rfl (n2_size HPL.out) hcp2 ?_)
          | fail)
        refine hsm.mono ?_
        rintro e w5 ⟨rfl, hx5⟩
        have hr8 : w5.heap[w.heap.size + 3]? = some (.cells Z.toArray 27 (0, 0)) := HI.out.z.keep hx5 (by simp)
        have hcm2 := (HNB.out.keep hx5 (by simp)).cells
        by_cases hz0 : zm = 0
        · subst hz0
          go_wp2_with (first
            | (refine wpList_load_agg _ rfl 27 (.tmp 11) rfl _ rfl MC _ Try.underlying27 rfl (szSFrom HML.out) hcm2 ?_)
            | (refine wpList_store_row _ rfl 27 (.tmp 8) (.tmp 198) rfl (w.heap.size + 3) rfl Z MC _ rfl hr8 (szSFrom HML.out) (by rw [HML.out, HZL.out]) hmone ?_)
            | fail)
          have hc9 := Blk.cells (t := 27) (setRow_at (cs' := MC.toArray) hr8)
          (try simp only [Exit.inBlock, Exit.then])
          refine bodyPost_ret (results_agg_tmp rfl _ _ _ _ _ rfl Try.underlying27 rfl (szSFrom HML.out) hc9) rfl ?_
          have hfin : finM ({ s with round := r1, m1 := s.m1 + cq, cs := s.cs.eraseIdx at' } : St) p0 p1 = (({ s with round := r1, m1 := s.m1 + cq, cs := s.cs.eraseIdx at' } : St), 0) := by unfold finM; rw [if_neg (by rw [← HZM.out]; simp)]
          refine ⟨v', ?_, ?_, grown_then (HI.out.ext.trans hx5) (setRow_only _) (.inr (by rintro b ⟨⟩; omega))⟩
          · rw [htl, hfin, HMC.out]; rfl
          · rw [htl, hfin]
            exact ⟨HOWN.out.1, (HOWN.out.2.ext hx5).keep (row := some (w.heap.size + 3)) (setRow_only _) (by
              cases hvb : v'.ownBlock with
              | none => exact .inl rfl
              | some b => exact .inr (by have := (HI.out.far b hvb).1; simp; omega))⟩
        · have hzb : (zm != 0) = true := by simpa using hz0
          go_wp2_with (first
            | (refine wpList_build (.inl rfl) 27 _ rfl (.agg zst.toArray) (by kernel_rfl) ?_; rw [← HZB])
            | (refine wpList_store_row _ rfl 27 (.tmp 8) (.tmp 196) rfl (w.heap.size + 3) rfl Z Z _ rfl hr8 (szSFrom HZL.out) rfl hzo ?_)
            | fail)
          have hc9 := Blk.cells (t := 27) (setRow_at (cs' := Z.toArray) hr8)
          (try simp only [Exit.inBlock, Exit.then])
          refine bodyPost_ret (results_agg_tmp rfl _ _ _ _ _ rfl Try.underlying27 rfl (szSFrom HZL.out) hc9) rfl ?_
          have hfin : finM ({ s with round := r1, m1 := s.m1 + cq, cs := s.cs.eraseIdx at' } : St) p0 p1 = (.zero, zm) := by unfold finM; rw [if_pos (by rw [← HZM.out]; exact hz0), HZM.out]
          refine ⟨.slice none 0 0, ?_, ?_, grown_then (HI.out.ext.trans hx5) (setRow_only _) (.inr (by rintro b ⟨⟩; omega))⟩
          · rw [htl, hfin, HZB.out]; rfl
          · rw [htl, hfin]; exact ⟨by simp [St.zero], Own.nil _ _ _⟩
      · have ea : addM s.m1 cq = (0, 11) := by unfold addM; rw [if_neg hov]
        have htl := hfin1 hov
        rw [ea] at hadd
        simp only [numErr] at hadd
        have HADD := Lib.hid hadd
        clear hadd ea
        refine startL 15 Since (by kernel_rfl) ?_
        (try simp only [Act.put, List.setIfInBounds_toArray, List.set_cons_succ, List.set_cons_zero])
        have hxd : Ext wr (wr.alloc (.cells C.toArray 30)).drew := ((Ext.refl wr).alloc (.cells C.toArray 30)).drew
        have hb15 : Blk (wr.alloc (.cells C.toArray 30)).drew wr.heap.size 30 C := (Blk.new wr _ C).keep (Ext.refl _).drew (by simp)
        have HI := Lib.hid (HI.out.ext' hxd)
        clear hxd
        generalize World.drew _ = w0 at *
        generalize wr.heap.size = g15 at *
        have cM : w0.cell? ⟨g11, 3, none⟩ = some (.int .u64 (s.m1 : Int)) := (HI.out.nb.cell 3).trans rfl
        have cS : w0.cell? ⟨g15, 1, none⟩ = some (.int .i64 1) := (hb15.cell 1).trans HC1.out
        have cQ : w0.cell? ⟨g15, 2, none⟩ = some (.int .u64 (cq : Int)) := (hb15.cell 2).trans HC2.out
        clear hb15
        refine takeN (fun _ => Ext.refl _) 0 rfl (by kernel_rfl) (by kernel_rfl) (by kernel_rfl) rfl (fun _ _ _ _ h => h) rfl (fun K hK => ?_)
        go_big_quiet_op
        first | refine hK _ ?_ | refine ⟨_, fun _ _ => rfl, hK _ ?_⟩
        clear hK K
        refine takeL (fun _ => Ext.refl _) (fun _ _ _ h1 h2 => Ext.trans h1 h2) 1 [15] rfl (by kernel_rfl) (by kernel_rfl) (by kernel_rfl) (by kernel_rfl) rfl (fun _ _ _ _ h => h) rfl (fun K hK => ?_)
        refine quiet_cell _ _ rfl _ rfl _ _ Try.underlying3 rfl (fun W' h => World.grownBy.cell h cS (by simp)) ?_
        refine hK _ ?_
        simp only [Act.put, List.setIfInBounds_toArray, List.set_cons_succ, List.set_cons_zero]
        clear hK K
        refine takeN (fun _ => Ext.refl _) 2 rfl (by kernel_rfl) (by kernel_rfl) (by kernel_rfl) rfl (fun _ _ _ _ h => h) rfl (fun K hK => ?_)
        go_big_quiet_op
        first | refine hK _ ?_ | refine ⟨_, fun _ _ => rfl, hK _ ?_⟩
        clear hK K
        refine takeL (fun _ => Ext.refl _) (fun _ _ _ h1 h2 => Ext.trans h1 h2) 3 [15] rfl (by kernel_rfl) (by kernel_rfl) (by kernel_rfl) (by kernel_rfl) rfl (fun _ _ _ _ h => h) rfl (fun K hK => ?_)
        refine quiet_cell _ _ rfl _ rfl _ _ Try.underlying3 rfl (fun W' h => World.grownBy.cell h cS (by simp)) ?_
        refine hK _ ?_
        simp only [Act.put, List.setIfInBounds_toArray, List.set_cons_succ, List.set_cons_zero]
        clear hK K
        refine takeN (fun _ => Ext.refl _) 4 rfl (by kernel_rfl) (by kernel_rfl) (by kernel_rfl) rfl (fun _ _ _ _ h => h) rfl (fun K hK => ?_)
        go_big_quiet_op
        first | refine hK _ ?_ | refine ⟨_, fun _ _ => rfl, hK _ ?_⟩
        clear hK K
        refine takeN (fun _ => Ext.refl _) 5 rfl (by kernel_rfl) (by kernel_rfl) (by kernel_rfl) rfl (fun _ _ _ _ h => h) rfl (fun K hK => ?_)
        go_big_quiet_op
        first | refine hK _ ?_ | refine ⟨_, fun _ _ => rfl, hK _ ?_⟩
        clear hK K
        refine takeL (fun _ => Ext.refl _) (fun _ _ _ h1 h2 => Ext.trans h1 h2) 6 [15] rfl (by kernel_rfl) (by kernel_rfl) (by kernel_rfl) (by kernel_rfl) rfl (fun _ _ _ _ h => h) rfl (fun K hK => ?_)
        refine quiet_cell _ _ rfl _ rfl _ _ Try.underlying23 rfl (fun W' h => World.grownBy.cell h cM (by simp)) ?_
        refine hK _ ?_
        simp only [Act.put, List.setIfInBounds_toArray, List.set_cons_succ, List.set_cons_zero]
        clear hK K
        refine takeN (fun _ => Ext.refl _) 7 rfl (by kernel_rfl) (by kernel_rfl) (by kernel_rfl) rfl (fun _ _ _ _ h => h) rfl (fun K hK => ?_)
        go_big_quiet_op
        first | refine hK _ ?_ | refine ⟨_, fun _ _ => rfl, hK _ ?_⟩
        clear hK K
        refine takeL (fun _ => Ext.refl _) (fun _ _ _ h1 h2 => Ext.trans h1 h2) 8 [15] rfl (by kernel_rfl) (by kernel_rfl) (by kernel_rfl) (by kernel_rfl) rfl (fun _ _ _ _ h => h) rfl (fun K hK => ?_)
        refine quiet_cell _ _ rfl _ rfl _ _ Try.underlying23 rfl (fun W' h => World.grownBy.cell h cQ (by simp)) ?_
        refine hK _ ?_
        simp only [Act.put, List.setIfInBounds_toArray, List.set_cons_succ, List.set_cons_zero]
        clear hK K
        refine takeN (fun _ => Ext.refl _) 13 rfl (by kernel_rfl) (by kernel_rfl) (by kernel_rfl) rfl (fun _ _ _ _ h => h) rfl (fun K hK => ?_)
        go_big_quiet_op
        first | refine hK _ ?_ | refine ⟨_, fun _ _ => rfl, hK _ ?_⟩
        clear hK K
        refine stepL 9 rfl (by kernel_rfl) rfl (fun K hK => ?_)
        go_simp
        refine (HADD.out _).mono ?_
        rintro e w5 ⟨rfl, hx5⟩
        obtain rfl := hx5
        refine hK _ _ (fun _ => Ext.refl _) ?_
        clear hK K
        refine takeN (fun _ => Ext.refl _) 10 rfl (by kernel_rfl) (by kernel_rfl) (by kernel_rfl) rfl (fun _ _ _ _ h => h) rfl (fun K hK => ?_)
        go_big_quiet_op
        first | refine hK _ ?_ | refine ⟨_, fun _ _ => rfl, hK _ ?_⟩
        clear hK K
        refine takeN (fun _ => Ext.refl _) 11 rfl (by kernel_rfl) (by kernel_rfl) (by kernel_rfl) rfl (fun _ _ _ _ h => h) rfl (fun K hK => ?_)
        go_big_quiet_op
        first | refine hK _ ?_ | refine ⟨_, fun _ _ => rfl, hK _ ?_⟩
        clear hK K
        refine takeN (fun _ => Ext.refl _) 12 rfl (by kernel_rfl) (by kernel_rfl) (by kernel_rfl) rfl (fun _ _ _ _ h => h) rfl (fun K hK => ?_)
        go_big_quiet_op
        first | refine hK _ ?_ | refine ⟨_, fun _ _ => rfl, hK _ ?_⟩
        clear hK K
        refine takeN (fun _ => Ext.refl _) 14 rfl (by kernel_rfl) (by kernel_rfl) (by kernel_rfl) rfl (fun _ _ _ _ h => h) rfl (fun K hK => ?_)
        go_big_quiet_op
        first | refine hK _ ?_ | refine ⟨_, fun _ _ => rfl, hK _ ?_⟩
        clear hK K
        refine stepL 15 rfl (by kernel_rfl) rfl (fun K hK => ?_)
        have s9 : w0.cell? ⟨g11, 3, none⟩ = some (.int .u64 (s.m1 : Int)) := cM
        have f9 : w0.frozen? ⟨g11, 3, none⟩ = false := HI.out.nb.free 3
        go_simp
        refine hK _ _ (fun h => absurd rfl h) ?_
        clear hK K
        refine takeN (fun _ => Ext.refl _) 16 rfl (by kernel_rfl) (by kernel_rfl) (by kernel_rfl) rfl (fun _ _ _ _ h => h) rfl (fun K hK => ?_)
        go_big_quiet_op
        first | refine hK _ ?_ | refine ⟨_, fun _ _ => rfl, hK _ ?_⟩
        clear hK K
        refine doneL (by kernel_rfl) ?_ _
        have hI9 := HI.out.put (n1 := ({ s with round := r1, m1 := 0, cs := [] } : St)) 3 (.int .u64 ((0 : Nat) : Int)) (by simp [stc]) hg11
        generalize w0.setCell ⟨g11, 3, none⟩ (.int .u64 ((0 : Nat) : Int)) = wr at *
        have HI := Lib.hid hI9
        clear hI9 cM cS cQ s9 f9
        have hr8 : wr.heap[w.heap.size + 3]? = some (.cells Z.toArray 27 (0, 0)) := HI.out.z
        go_wp2_with (first
          | (refine wpList_build (.inl rfl) 27 _ rfl (.agg zst.toArray) (by kernel_rfl) ?_; rw [← HZB])
          | (refine wpList_store_row _ rfl 27 (.tmp 8) (.tmp 189) rfl (w.heap.size + 3) rfl Z Z _ rfl hr8 (szSFrom HZL.out) rfl hzo ?_)
          | fail)
        have hc9 := Blk.cells (t := 27) (setRow_at (cs' := Z.toArray) hr8)
        (try simp only [Exit.inBlock, Exit.then])
        refine bodyPost_ret (results_agg_tmp rfl _ _ _ _ _ rfl Try.underlying27 rfl (szSFrom HZL.out) hc9) rfl ?_
        refine ⟨.slice none 0 0, ?_, ?_, grown_then HI.out.ext (setRow_only _) (.inr (by rintro b ⟨⟩; omega))⟩
        · rw [htl, HZB]; rfl
        · rw [htl]; exact ⟨by simp [St.zero], Own.nil _ _ _⟩
end Go.Proofs.Ytnpolfihbfdggaa

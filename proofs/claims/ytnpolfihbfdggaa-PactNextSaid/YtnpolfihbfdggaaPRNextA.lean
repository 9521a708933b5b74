/- Walk of the document's Next of layer 12. Conditions: the numbers are in their bounds. -/
import Derived.Test.YtnpolfihbfdggaaPRSound
set_option linter.unusedVariables false
set_option linter.unusedSimpArgs false
set_option linter.unnecessarySimpa false
namespace Go.Proofs.Ytnpolfihbfdggaa
section
open Go.RowKit

set_option maxRecDepth 100000 in
set_option maxHeartbeats 2000000 in
theorem RRoom1 (w : World) (SC PC : List Value) (sd : Int) (am fa : Nat) (fe res : Int) (hsl : SC.length = 7) (hpl : PC.length = 2) (hfl : fa < M64) (ham : am < M64)
    (hres : res = if am = 0 then 1 else if fe ≠ 0 then fe else if fa < am then 28 else 0)
    (hfr : ∀ W, Ext w W → Calls Try.prog 24 #[.agg SC.toArray, .agg PC.toArray, .int .i64 sd] W fun e w' => e = .returned (numErr (fa, fe)) ∧ Ext W w') :
    Calls Try.prog 35 #[.agg SC.toArray, .agg PC.toArray, .int .i64 sd, .int .u64 (am : Int)] w fun e w' => e = .returned (.int .i64 res) ∧ Ext w w' := by
  unfold M64 at hfl ham
  have hb0 : Blk ((w.alloc (.cells SC.toArray 27)).alloc (.cells PC.toArray 24)) w.heap.size 27 SC := (Blk.new _ _ _).keep ((Ext.refl _).alloc _) (by simp)
  have hb1 : Blk ((w.alloc (.cells SC.toArray 27)).alloc (.cells PC.toArray 24)) (w.heap.size + 1) 24 PC := Blk.new_at (by simp) _ _
  have hx0 : Ext w ((w.alloc (.cells SC.toArray 27)).alloc (.cells PC.toArray 24)) := ((Ext.refl w).alloc _).alloc _
  have hcs := hb0.cells
  have hcp := hb1.cells
  simp only [numErr] at hfr
  have HSL := Lib.hid hsl
  have HPL := Lib.hid hpl
  have HFR := Lib.hid hfr
  have HX0 := Lib.hid hx0
  clear hb0 hb1 hx0 hsl hpl hfr
  by_cases h0 : am = 0
  · rw [if_pos h0] at hres
    subst h0
    have HR := Lib.hid hres
    clear hres
    go_enter Try.func35, Try.ntmps35
    go_wp2
    go_ret
    exact ⟨by rw [HR.out]; rfl, HX0.out⟩
  · rw [if_neg h0] at hres
    have hb : ((am : Int) == 0) = false := by rw [beq_eq_false_iff_ne]; omega
    by_cases hfe : fe = 0
    · rw [if_neg (by omega)] at hres
      have hfb : (fe != 0) = false := by simpa using hfe
      by_cases hlt : fa < am
      · rw [if_pos hlt] at hres
        have HR := Lib.hid hres
        clear hres hfe
        go_enter Try.func35, Try.ntmps35
        go_wp2_with (first
          | (refine wpList_load_agg _ rfl 27 (.tmp 4) rfl _ rfl SC _ Try.underlying27 rfl (szSFrom HSL.out) hcs ?_)
          | (refine wpList_load_agg _ rfl 24 (.tmp 5) rfl _ rfl PC _ Try.underlying24 rfl (by rw [HPL.out]; kernel_rfl) hcp ?_)
          | (go_at_call 24; refine (HFR.out _ HX0.out).mono ?_; rintro e w5 ⟨rfl, hx5⟩)
          | fail)
        go_ret
        exact ⟨by rw [HR.out]; rfl, HX0.out.trans hx5⟩
      · rw [if_neg hlt] at hres
        have HR := Lib.hid hres
        clear hres hfe
        go_enter Try.func35, Try.ntmps35
        go_wp2_with (first
          | (refine wpList_load_agg _ rfl 27 (.tmp 4) rfl _ rfl SC _ Try.underlying27 rfl (szSFrom HSL.out) hcs ?_)
          | (refine wpList_load_agg _ rfl 24 (.tmp 5) rfl _ rfl PC _ Try.underlying24 rfl (by rw [HPL.out]; kernel_rfl) hcp ?_)
          | (go_at_call 24; refine (HFR.out _ HX0.out).mono ?_; rintro e w5 ⟨rfl, hx5⟩)
          | fail)
        go_ret
        exact ⟨by rw [HR.out]; rfl, HX0.out.trans hx5⟩
    · rw [if_pos hfe] at hres
      have hfb : (fe != 0) = true := by simpa using hfe
      have HR := Lib.hid hres
      clear hres hfe
      go_enter Try.func35, Try.ntmps35
      go_wp2_with (first
        | (refine wpList_load_agg _ rfl 27 (.tmp 4) rfl _ rfl SC _ Try.underlying27 rfl (szSFrom HSL.out) hcs ?_)
        | (refine wpList_load_agg _ rfl 24 (.tmp 5) rfl _ rfl PC _ Try.underlying24 rfl (by rw [HPL.out]; kernel_rfl) hcp ?_)
        | (go_at_call 24; refine (HFR.out _ HX0.out).mono ?_; rintro e w5 ⟨rfl, hx5⟩)
        | fail)
      go_ret
      exact ⟨by rw [HR.out]; rfl, HX0.out.trans hx5⟩
end
section
open Go.RowKit

/-- What the walk needs of the cells and the calls. -/
structure RNextIn (w : World) (SC PC OC Z : List Value) (sd : Int) (cs : List Cd) (rd r1 am cid cam oid : Nat) (kind cside z : Int) (fd : Nat → Int) (rm : Nat → Int) (tn : Int) : Prop where
  sl : SC.length = 7
  pl : PC.length = 2
  ol : OC.length = 39
  zl : Z.length = 7
  zE : Z = zst
  zi : (Try.prog.info? 27).bind (fun i => i.zero.map (·.cells)) = some Z.toArray
  zo : ∀ u ∈ Z, u.oneCell' = true
  s1 : SC[1]? = some (.int .u64 (rd : Int))
  o0 : OC[0]? = some (.int .i64 kind)
  o1 : OC[1]? = some (.int .u64 (am : Int))
  o2 : OC[2]? = some (.int .u64 (cid : Int))
  o3 : OC[3]? = some (.int .i64 cside)
  o4 : OC[4]? = some (.int .u64 (cam : Int))
  o38 : OC[38]? = some (.int .u64 (oid : Int))
  sn : ∀ W, Ext w W → Calls Try.prog 26 #[.agg SC.toArray, .agg PC.toArray] W fun e w' => e = .returned (.int .i64 z) ∧ Ext W w'
  fn : ∀ W, Ext w W → ∀ id : Nat, Calls Try.prog 27 #[.agg SC.toArray, .int .u64 (id : Int)] W fun e w' => e = .returned (.int .i64 (fd id)) ∧ Ext W w'
  room : ∀ W, Ext w W → ∀ a : Nat, a < M64 → Calls Try.prog 35 #[.agg SC.toArray, .agg PC.toArray, .int .i64 sd, .int .u64 (a : Int)] W fun e w' => e = .returned (.int .i64 (rm a)) ∧ Ext W w'
  turn : ∀ W, Calls Try.prog 30 #[.int .u64 (r1 : Int)] W fun e w' => e = .returned (.int .i64 tn) ∧ W = w'
  w1 : IntKind.u64.wrap ((rd : Int) + 1) = (r1 : Int)
set_option maxRecDepth 100000 in
set_option maxHeartbeats 4000000 in
theorem RNextA (w : World) (SC PC OC Z : List Value) (sd : Int) (cs : List Cd) (rd r1 am cid cam oid : Nat) (kind cside z : Int) (fd : Nat → Int) (rm : Nat → Int) (tn : Int) (hin : RNextIn w SC PC OC Z sd cs rd r1 am cid cam oid kind cside z fd rm tn) (hz0 : z ≠ 0) :
    Calls Try.prog 13 #[.agg SC.toArray, .agg PC.toArray, .int .i64 sd, .agg OC.toArray] w fun e w' => e = .returned (.tuple #[.agg Z.toArray, .int .i64 z]) ∧ Ext w w' := by
  have hz := hin.zi
  have hzo := hin.zo
  have HZB : Hid (Z = zst) := hin.zE
  have HSL := Lib.hid hin.sl
  have HPL := Lib.hid hin.pl
  have HOL := Lib.hid hin.ol
  have HZL := Lib.hid hin.zl
  have hb0 : Blk ((((w.alloc (.cells SC.toArray 27)).alloc (.cells PC.toArray 24)).alloc (.cells OC.toArray 32)).alloc (.cells Z.toArray 27)) w.heap.size 27 SC := (Blk.new _ _ _).keep ((((Ext.refl _).alloc _).alloc _).alloc _) (by simp)
  have hb1 : Blk ((((w.alloc (.cells SC.toArray 27)).alloc (.cells PC.toArray 24)).alloc (.cells OC.toArray 32)).alloc (.cells Z.toArray 27)) (w.heap.size + 1) 24 PC := (Blk.new_at (by simp) _ _).keep (((Ext.refl _).alloc _).alloc _) (by simp)
  have hb2 : Blk ((((w.alloc (.cells SC.toArray 27)).alloc (.cells PC.toArray 24)).alloc (.cells OC.toArray 32)).alloc (.cells Z.toArray 27)) (w.heap.size + 2) 32 OC := (Blk.new_at (by simp) _ _).keep ((Ext.refl _).alloc _) (by simp)
  have hb3 : Blk ((((w.alloc (.cells SC.toArray 27)).alloc (.cells PC.toArray 24)).alloc (.cells OC.toArray 32)).alloc (.cells Z.toArray 27)) (w.heap.size + 3) 27 Z := Blk.new_at (by simp) _ _
  have hx0 : Ext w ((((w.alloc (.cells SC.toArray 27)).alloc (.cells PC.toArray 24)).alloc (.cells OC.toArray 32)).alloc (.cells Z.toArray 27)) := ((((Ext.refl w).alloc _).alloc _).alloc _).alloc _
  have hcs := hb0.cells
  have hcp := hb1.cells
  have HB0 := Lib.hid hb0
  have HB1 := Lib.hid hb1
  have HB2 := Lib.hid hb2
  have HB3 := Lib.hid hb3
  have HX0 := Lib.hid hx0
  have HIN := Lib.hid hin
  clear hb0 hb1 hb2 hb3 hx0 hin
  have hzb : (z != 0) = true := by simpa using hz0
  clear hz0
  go_enter Try.func13, Try.ntmps13
  go_wp2_with (first
    | (refine wpList_alloc _ rfl 27 rfl _ hz ?_)
    | (refine wpList_load_agg _ rfl 27 (.tmp 4) rfl _ rfl SC _ Try.underlying27 rfl (szSFrom HSL.out) hcs ?_)
    | (refine wpList_load_agg _ rfl 24 (.tmp 5) rfl _ rfl PC _ Try.underlying24 rfl (by rw [HPL.out]; kernel_rfl) hcp ?_)
    | fail)
  refine (HIN.out.sn _ HX0.out).mono ?_
  rintro e w1 ⟨rfl, hx1⟩
  have hr8 : w1.heap[w.heap.size + 3]? = some (.cells Z.toArray 27 (0, 0)) := HB3.out.keep hx1 (by simp)
  go_wp2_with (first
    | (refine wpList_build (.inl rfl) 27 _ rfl (.agg zst.toArray) (by kernel_rfl) ?_; rw [← HZB.out])
    | (refine wpList_store_row _ rfl 27 (.tmp 8) (.tmp 21) rfl (w.heap.size + 3) rfl Z Z _ rfl hr8 (szSFrom HZL.out) rfl hzo ?_)
    | fail)
  have hc9 := Blk.cells (t := 27) (setRow_at (cs' := Z.toArray) hr8)
  (try simp only [Exit.inBlock, Exit.then])
  refine bodyPost_ret (results_agg_tmp rfl _ _ _ _ _ rfl Try.underlying27 rfl (szSFrom HZL.out) hc9) rfl ?_
  exact ⟨rfl, grown_then (HX0.out.trans hx1) (setRow_only _) (.inr (by rintro b ⟨⟩; omega))⟩
set_option maxRecDepth 100000 in
set_option maxHeartbeats 4000000 in
theorem RNextB (w : World) (SC PC OC Z : List Value) (sd : Int) (cs : List Cd) (rd r1 am cid cam oid : Nat) (kind cside z : Int) (fd : Nat → Int) (rm : Nat → Int) (tn : Int) (hin : RNextIn w SC PC OC Z sd cs rd r1 am cid cam oid kind cside z fd rm tn) (hz0 : z = 0) (hr : rd = 200) :
    Calls Try.prog 13 #[.agg SC.toArray, .agg PC.toArray, .int .i64 sd, .agg OC.toArray] w fun e w' => e = .returned (.tuple #[.agg Z.toArray, .int .i64 8]) ∧ Ext w w' := by
  have hz := hin.zi
  have hzo := hin.zo
  have HZB : Hid (Z = zst) := hin.zE
  have HSL := Lib.hid hin.sl
  have HPL := Lib.hid hin.pl
  have HOL := Lib.hid hin.ol
  have HZL := Lib.hid hin.zl
  have hb0 : Blk ((((w.alloc (.cells SC.toArray 27)).alloc (.cells PC.toArray 24)).alloc (.cells OC.toArray 32)).alloc (.cells Z.toArray 27)) w.heap.size 27 SC := (Blk.new _ _ _).keep ((((Ext.refl _).alloc _).alloc _).alloc _) (by simp)
  have hb1 : Blk ((((w.alloc (.cells SC.toArray 27)).alloc (.cells PC.toArray 24)).alloc (.cells OC.toArray 32)).alloc (.cells Z.toArray 27)) (w.heap.size + 1) 24 PC := (Blk.new_at (by simp) _ _).keep (((Ext.refl _).alloc _).alloc _) (by simp)
  have hb2 : Blk ((((w.alloc (.cells SC.toArray 27)).alloc (.cells PC.toArray 24)).alloc (.cells OC.toArray 32)).alloc (.cells Z.toArray 27)) (w.heap.size + 2) 32 OC := (Blk.new_at (by simp) _ _).keep ((Ext.refl _).alloc _) (by simp)
  have hb3 : Blk ((((w.alloc (.cells SC.toArray 27)).alloc (.cells PC.toArray 24)).alloc (.cells OC.toArray 32)).alloc (.cells Z.toArray 27)) (w.heap.size + 3) 27 Z := Blk.new_at (by simp) _ _
  have hx0 : Ext w ((((w.alloc (.cells SC.toArray 27)).alloc (.cells PC.toArray 24)).alloc (.cells OC.toArray 32)).alloc (.cells Z.toArray 27)) := ((((Ext.refl w).alloc _).alloc _).alloc _).alloc _
  have hcs := hb0.cells
  have hcp := hb1.cells
  have HB0 := Lib.hid hb0
  have HB1 := Lib.hid hb1
  have HB2 := Lib.hid hb2
  have HB3 := Lib.hid hb3
  have HX0 := Lib.hid hx0
  have HIN := Lib.hid hin
  clear hb0 hb1 hb2 hb3 hx0 hin
  subst hz0
  subst hr
  go_enter Try.func13, Try.ntmps13
  go_wp2_with (first
    | (refine wpList_alloc _ rfl 27 rfl _ hz ?_)
    | (refine wpList_load_agg _ rfl 27 (.tmp 4) rfl _ rfl SC _ Try.underlying27 rfl (szSFrom HSL.out) hcs ?_)
    | (refine wpList_load_agg _ rfl 24 (.tmp 5) rfl _ rfl PC _ Try.underlying24 rfl (by rw [HPL.out]; kernel_rfl) hcp ?_)
    | fail)
  refine (HIN.out.sn _ HX0.out).mono ?_
  rintro e w1 ⟨rfl, hx1⟩
  have hr8 : w1.heap[w.heap.size + 3]? = some (.cells Z.toArray 27 (0, 0)) := HB3.out.keep hx1 (by simp)
  have c1 := ((HB0.out.keep hx1 (by simp)).cell 1).trans HIN.out.s1
  go_wp2_with (first
    | (refine wpList_build (.inl rfl) 27 _ rfl (.agg zst.toArray) (by kernel_rfl) ?_; rw [← HZB.out])
    | (refine wpList_store_row _ rfl 27 (.tmp 8) (.tmp 26) rfl (w.heap.size + 3) rfl Z Z _ rfl hr8 (szSFrom HZL.out) rfl hzo ?_)
    | fail)
  have hc9 := Blk.cells (t := 27) (setRow_at (cs' := Z.toArray) hr8)
  (try simp only [Exit.inBlock, Exit.then])
  refine bodyPost_ret (results_agg_tmp rfl _ _ _ _ _ rfl Try.underlying27 rfl (szSFrom HZL.out) hc9) rfl ?_
  exact ⟨rfl, grown_then (HX0.out.trans hx1) (setRow_only _) (.inr (by rintro b ⟨⟩; omega))⟩
set_option maxRecDepth 100000 in
set_option maxHeartbeats 4000000 in
theorem RNextC (w : World) (SC PC OC Z : List Value) (sd : Int) (cs : List Cd) (rd r1 am cid cam oid : Nat) (kind cside z : Int) (fd : Nat → Int) (rm : Nat → Int) (tn : Int) (hin : RNextIn w SC PC OC Z sd cs rd r1 am cid cam oid kind cside z fd rm tn) (hz0 : z = 0) (hr : rd ≠ 200) (ht : sd ≠ tn) :
    Calls Try.prog 13 #[.agg SC.toArray, .agg PC.toArray, .int .i64 sd, .agg OC.toArray] w fun e w' => e = .returned (.tuple #[.agg Z.toArray, .int .i64 26]) ∧ Ext w w' := by
  have hz := hin.zi
  have hzo := hin.zo
  have HZB : Hid (Z = zst) := hin.zE
  have HSL := Lib.hid hin.sl
  have HPL := Lib.hid hin.pl
  have HOL := Lib.hid hin.ol
  have HZL := Lib.hid hin.zl
  have hb0 : Blk ((((w.alloc (.cells SC.toArray 27)).alloc (.cells PC.toArray 24)).alloc (.cells OC.toArray 32)).alloc (.cells Z.toArray 27)) w.heap.size 27 SC := (Blk.new _ _ _).keep ((((Ext.refl _).alloc _).alloc _).alloc _) (by simp)
  have hb1 : Blk ((((w.alloc (.cells SC.toArray 27)).alloc (.cells PC.toArray 24)).alloc (.cells OC.toArray 32)).alloc (.cells Z.toArray 27)) (w.heap.size + 1) 24 PC := (Blk.new_at (by simp) _ _).keep (((Ext.refl _).alloc _).alloc _) (by simp)
  have hb2 : Blk ((((w.alloc (.cells SC.toArray 27)).alloc (.cells PC.toArray 24)).alloc (.cells OC.toArray 32)).alloc (.cells Z.toArray 27)) (w.heap.size + 2) 32 OC := (Blk.new_at (by simp) _ _).keep ((Ext.refl _).alloc _) (by simp)
  have hb3 : Blk ((((w.alloc (.cells SC.toArray 27)).alloc (.cells PC.toArray 24)).alloc (.cells OC.toArray 32)).alloc (.cells Z.toArray 27)) (w.heap.size + 3) 27 Z := Blk.new_at (by simp) _ _
  have hx0 : Ext w ((((w.alloc (.cells SC.toArray 27)).alloc (.cells PC.toArray 24)).alloc (.cells OC.toArray 32)).alloc (.cells Z.toArray 27)) := ((((Ext.refl w).alloc _).alloc _).alloc _).alloc _
  have hcs := hb0.cells
  have hcp := hb1.cells
  have HB0 := Lib.hid hb0
  have HB1 := Lib.hid hb1
  have HB2 := Lib.hid hb2
  have HB3 := Lib.hid hb3
  have HX0 := Lib.hid hx0
  have HIN := Lib.hid hin
  clear hb0 hb1 hb2 hb3 hx0 hin
  subst hz0
  have hrb : ((rd : Int) == 200) = false := by rw [beq_eq_false_iff_ne]; omega
  have htb : (sd != tn) = true := by simpa using ht
  have hw1 := HIN.out.w1
  clear hr ht
  go_enter Try.func13, Try.ntmps13
  go_wp2_with (first
    | (refine wpList_alloc _ rfl 27 rfl _ hz ?_)
    | (refine wpList_load_agg _ rfl 27 (.tmp 4) rfl _ rfl SC _ Try.underlying27 rfl (szSFrom HSL.out) hcs ?_)
    | (refine wpList_load_agg _ rfl 24 (.tmp 5) rfl _ rfl PC _ Try.underlying24 rfl (by rw [HPL.out]; kernel_rfl) hcp ?_)
    | fail)
  refine (HIN.out.sn _ HX0.out).mono ?_
  rintro e w1 ⟨rfl, hx1⟩
  have hr8 : w1.heap[w.heap.size + 3]? = some (.cells Z.toArray 27 (0, 0)) := HB3.out.keep hx1 (by simp)
  have c1 := ((HB0.out.keep hx1 (by simp)).cell 1).trans HIN.out.s1
  go_wp2_with (first
    | (refine wpList_build (.inl rfl) 27 _ rfl (.agg zst.toArray) (by kernel_rfl) ?_; rw [← HZB.out])
    | (refine wpList_store_row _ rfl 27 (.tmp 8) (.tmp 33) rfl (w.heap.size + 3) rfl Z Z _ rfl hr8 (szSFrom HZL.out) rfl hzo ?_)
    | (go_at_call 30; refine (HIN.out.turn _).mono ?_; rintro e _ ⟨rfl, rfl⟩)
    | fail)
  have hc9 := Blk.cells (t := 27) (setRow_at (cs' := Z.toArray) hr8)
  (try simp only [Exit.inBlock, Exit.then])
  refine bodyPost_ret (results_agg_tmp rfl _ _ _ _ _ rfl Try.underlying27 rfl (szSFrom HZL.out) hc9) rfl ?_
  exact ⟨rfl, grown_then (HX0.out.trans hx1) (setRow_only _) (.inr (by rintro b ⟨⟩; omega))⟩
end
end Go.Proofs.Ytnpolfihbfdggaa

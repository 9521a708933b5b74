/- Walk of the pact's act. Conditions: the numbers are in their bounds; the payments lie in a row of their own. -/
import Derived.Test.YtnpolfihbfdggaaPLock
import Derived.Test.YtnpolfihbfdggaaMonoL
set_option linter.unusedVariables false
set_option linter.unusedSimpArgs false
set_option linter.unnecessarySimpa false
namespace Go.Proofs.Ytnpolfihbfdggaa
open Go.RowKit

/-- A wish's cells. -/
def wishCells (o : Wish) : List Value := .int .i64 o.kind :: .int .u64 (o.am : Int) :: (condCells o.c ++ [.int .u64 (o.id : Int)])
theorem wishCells_len {o : Wish} (h : CondOk o.c) : (wishCells o).length = 39 := by simp [wishCells, condCells_len h]
theorem op_size {n : Nat} (h : n = 39) : (Try.prog.info? 46).map (·.size) = some n := by subst h; kernel_rfl
theorem pre4 (w : World) (SC PC OC Z : List Value) : Ext w ((((w.alloc (.cells SC.toArray 36)).alloc (.cells PC.toArray 24)).alloc (.cells OC.toArray 46)).alloc (.cells Z.toArray 36)) ∧ Blk ((((w.alloc (.cells SC.toArray 36)).alloc (.cells PC.toArray 24)).alloc (.cells OC.toArray 46)).alloc (.cells Z.toArray 36)) w.heap.size 36 SC ∧ Blk ((((w.alloc (.cells SC.toArray 36)).alloc (.cells PC.toArray 24)).alloc (.cells OC.toArray 46)).alloc (.cells Z.toArray 36)) (w.heap.size + 1) 24 PC ∧ Blk ((((w.alloc (.cells SC.toArray 36)).alloc (.cells PC.toArray 24)).alloc (.cells OC.toArray 46)).alloc (.cells Z.toArray 36)) (w.heap.size + 2) 46 OC ∧ Blk ((((w.alloc (.cells SC.toArray 36)).alloc (.cells PC.toArray 24)).alloc (.cells OC.toArray 46)).alloc (.cells Z.toArray 36)) (w.heap.size + 3) 36 Z ∧ ((((w.alloc (.cells SC.toArray 36)).alloc (.cells PC.toArray 24)).alloc (.cells OC.toArray 46)).alloc (.cells Z.toArray 36)).heap.size = w.heap.size + 4 := by
  refine ⟨((((Ext.refl w).alloc _).alloc _).alloc _).alloc _, ?_, ?_, ?_, ?_, by simp⟩
  · exact (((Blk.new w 36 SC).keep ((Ext.refl _).alloc _) (by simp)).keep ((Ext.refl _).alloc _) (by simp)).keep ((Ext.refl _).alloc _) (by simp)
  · exact ((Blk.new_at (w := w.alloc (.cells SC.toArray 36)) (by simp) _ PC).keep ((Ext.refl _).alloc _) (by simp)).keep ((Ext.refl _).alloc _) (by simp)
  · exact (Blk.new_at (w := (w.alloc (.cells SC.toArray 36)).alloc (.cells PC.toArray 24)) (by simp) _ OC).keep ((Ext.refl _).alloc _) (by simp)
  · exact Blk.new_at (w := ((w.alloc (.cells SC.toArray 36)).alloc (.cells PC.toArray 24)).alloc (.cells OC.toArray 46)) (by simp) _ Z
/-- What all ways of act are told: the letters of its blocks. -/
structure ActIn (SC PC OC Z : List Value) : Prop where
  sl : SC.length = 7
  pl : PC.length = 2
  ol : OC.length = 39
  zl : Z.length = 7
  zi : (Try.prog.info? 36).bind (fun i => i.zero.map (·.cells)) = some Z.toArray
  zo : ∀ u ∈ Z, u.oneCell' = true
  so : ∀ u ∈ SC, u.oneCell' = true
  zb : (Value.agg zst.toArray) = .agg Z.toArray
set_option maxRecDepth 100000 in
set_option maxHeartbeats 1000000 in
theorem Act1_0 (am m : Nat) (z : Int) (w : World) (SC PC OC Z : List Value) (hin : ActIn SC PC OC Z) (o0 : OC[0]? = some (.int .i64 1)) (o1 : OC[1]? = some (.int .u64 (am : Int))) (sk : SC[2]? = some (.int .u64 (m : Int))) (hm : m < M64) (ham : am < M64)
    (hspd : ∀ W, Ext w W → Calls Try.prog 46 #[.agg SC.toArray, .agg PC.toArray, .int .i64 0, .int .u64 (am : Int)] W fun e w' => e = .returned (.int .i64 z) ∧ Ext W w') :
    Calls Try.prog 34 #[.agg SC.toArray, .agg PC.toArray, .int .i64 0, .agg OC.toArray] w fun e w' => Ext w w' ∧ ((z ≠ 0 ∧ e = .returned (.tuple #[.agg Z.toArray, .int .i64 z])) ∨
      (z = 0 ∧ (addM m am).2 ≠ 0 ∧ e = .returned (.tuple #[.agg Z.toArray, .int .i64 11])) ∨ (z = 0 ∧ (addM m am).2 = 0 ∧ e = .returned (.tuple #[.agg (SC.set 2 (.int .u64 ((m + am : Nat) : Int))).toArray, .int .i64 0]))) := by
  have hz := hin.zi
  have hzo := hin.zo
  have hso := hin.so
  have HZB := Lib.hid hin.zb
  have HSL := Lib.hid hin.sl
  have HPL := Lib.hid hin.pl
  have HOL := Lib.hid hin.ol
  have HZL := Lib.hid hin.zl
  obtain ⟨hx0, hb0, hb1, hb2, hb3, hsz⟩ := pre4 w SC PC OC Z
  have c0 : ((((w.alloc (.cells SC.toArray 36)).alloc (.cells PC.toArray 24)).alloc (.cells OC.toArray 46)).alloc (.cells Z.toArray 36)).cell? ⟨w.heap.size + 2, 0, none⟩ = some (.int .i64 1) := (hb2.cell 0).trans o0
  have HX0 := Lib.hid hx0
  have HB0 := Lib.hid hb0
  have HB1 := Lib.hid hb1
  have HB2 := Lib.hid hb2
  have HB3 := Lib.hid hb3
  have HSZ := Lib.hid hsz
  have hscw := hb0.cells
  have hpcw := hb1.cells
  clear hx0 hb0 hb1 hb2 hb3 hsz hin
  have c1 : ((((w.alloc (.cells SC.toArray 36)).alloc (.cells PC.toArray 24)).alloc (.cells OC.toArray 46)).alloc (.cells Z.toArray 36)).cell? ⟨w.heap.size + 2, 1, none⟩ = some (.int .u64 (am : Int)) := (HB2.out.cell 1).trans o1
  have HSPD := Lib.hid hspd
  clear hspd
  go_enter Try.func34, Try.ntmps34
  go_wp2_with (first
    | (refine wpList_alloc _ rfl 36 rfl _ hz ?_)
    | (refine wpList_load_agg _ rfl 36 (.tmp 4) rfl _ rfl SC _ Try.underlying36 rfl (state_size HSL.out) hscw ?_)
    | (refine wpList_load_agg _ rfl 24 (.tmp 5) rfl _ rfl PC _ Try.underlying24 rfl (by rw [HPL.out]; kernel_rfl) hpcw ?_)
    | fail)
  refine (HSPD.out _ HX0.out).mono ?_
  rintro e w1 ⟨rfl, hx1⟩
  have hxw := HX0.out.trans hx1
  have hz1 := HB3.out.keep hx1 (by simp)
  have hs1 := HB0.out.keep hx1 (by simp)
  have ho1 := HB2.out.keep hx1 (by simp)
  have hr8 : w1.heap[w.heap.size + 3]? = some (.cells Z.toArray 36 (0, 0)) := hz1
  by_cases hz0 : z = 0
  · subst hz0
    have d0 : w1.cell? ⟨w.heap.size + 2, 0, none⟩ = some (.int .i64 1) := (ho1.cell 0).trans o0
    have HS1 := Lib.hid hs1
    have HO1 := Lib.hid ho1
    have HXW := Lib.hid hxw
    obtain ⟨⟨x, ea⟩, hadd⟩ : ∃ p, p = addM m am := ⟨_, rfl⟩
    have hmon := fun W => Money_Add m am W hm ham
    rw [← hadd] at hmon
    simp only [numErr] at hmon
    have HADD := Lib.hid hadd
    have HMON := Lib.hid hmon
    clear hs1 ho1 hz1 hxw hadd hmon
    go_wp2
    have HZ1 := Lib.hid hr8
    clear hr8
    refine startL 11 Since (by kernel_rfl) ?_
    refine takeN (fun a => Ext.refl a) 0 rfl (by kernel_rfl) (by kernel_rfl) (by kernel_rfl) rfl (fun _ _ _ _ h => h) rfl (fun K hK => ?_)
    go_big_quiet_op
    first | refine hK _ ?_ | refine ⟨_, fun _ _ => rfl, hK _ ?_⟩
    clear hK K
    refine takeN (fun a => Ext.refl a) 1 rfl (by kernel_rfl) (by kernel_rfl) (by kernel_rfl) rfl (fun _ _ _ _ h => h) rfl (fun K hK => ?_)
    go_big_quiet_op
    first | refine hK _ ?_ | refine ⟨_, fun _ _ => rfl, hK _ ?_⟩
    clear hK K
    refine takeN (fun a => Ext.refl a) 4 rfl (by kernel_rfl) (by kernel_rfl) (by kernel_rfl) rfl (fun _ _ _ _ h => h) rfl (fun K hK => ?_)
    go_big_quiet_op
    first | refine hK _ ?_ | refine ⟨_, fun _ _ => rfl, hK _ ?_⟩
    clear hK K
    refine takeL (fun a => Ext.refl a) (fun a b c h1 h2 => Ext.trans h1 h2) 5 [11] rfl (by kernel_rfl) (by kernel_rfl) (by kernel_rfl) (by kernel_rfl) rfl (fun _ _ _ _ h => h) rfl (fun K hK => ?_)
    refine quiet_cell _ _ rfl _ rfl _ _ Try.underlying23 rfl (fun W' h => World.grownBy.cell h ((HO1.out.cell 1).trans o1) (by simp)) ?_
    refine hK _ ?_
    simp only [Act.put, List.setIfInBounds_toArray, List.set_cons_succ, List.set_cons_zero]
    clear hK K
    refine nilL (fun a => Ext.refl a) 2 rfl (by kernel_rfl) (by kernel_rfl) (by kernel_rfl) _ rfl _ rfl (fun _ _ _ _ h => h) rfl ?_
    (try simp only [Act.put, List.setIfInBounds_toArray, List.set_cons_succ, List.set_cons_zero])
    refine takeL (fun a => Ext.refl a) (fun a b c h1 h2 => Ext.trans h1 h2) 3 [11] rfl (by kernel_rfl) (by kernel_rfl) (by kernel_rfl) (by kernel_rfl) rfl (fun _ _ _ _ h => h) rfl (fun K hK => ?_)
    refine quiet_cell _ _ rfl _ rfl _ _ Try.underlying23 rfl (fun W' h => World.grownBy.cell h ((HS1.out.cell 2).trans sk) (by simp)) ?_
    refine hK _ ?_
    simp only [Act.put, List.setIfInBounds_toArray, List.set_cons_succ, List.set_cons_zero]
    clear hK K
    refine stepL 6 rfl (by kernel_rfl) rfl (fun K hK => ?_)
    go_simp
    refine (HMON.out _).mono ?_
    rintro e _ ⟨rfl, rfl⟩
    refine hK _ _ (fun _ => Ext.refl _) ?_
    clear hK K
    refine takeN (fun a => Ext.refl a) 7 rfl (by kernel_rfl) (by kernel_rfl) (by kernel_rfl) rfl (fun _ _ _ _ h => h) rfl (fun K hK => ?_)
    go_big_quiet_op
    first | refine hK _ ?_ | refine ⟨_, fun _ _ => rfl, hK _ ?_⟩
    clear hK K
    refine takeN (fun a => Ext.refl a) 8 rfl (by kernel_rfl) (by kernel_rfl) (by kernel_rfl) rfl (fun _ _ _ _ h => h) rfl (fun K hK => ?_)
    go_big_quiet_op
    first | refine hK _ ?_ | refine ⟨_, fun _ _ => rfl, hK _ ?_⟩
    clear hK K
    refine takeN (fun a => Ext.refl a) 9 rfl (by kernel_rfl) (by kernel_rfl) (by kernel_rfl) rfl (fun _ _ _ _ h => h) rfl (fun K hK => ?_)
    go_big_quiet_op
    first | refine hK _ ?_ | refine ⟨_, fun _ _ => rfl, hK _ ?_⟩
    clear hK K
    refine nilL (fun a => Ext.refl a) 10 rfl (by kernel_rfl) (by kernel_rfl) (by kernel_rfl) _ rfl _ rfl (fun _ _ _ _ h => h) rfl ?_
    (try simp only [Act.put, List.setIfInBounds_toArray, List.set_cons_succ, List.set_cons_zero])
    refine stepL 11 rfl (by kernel_rfl) rfl (fun K hK => ?_)
    have s9 : w1.drew.cell? ⟨w.heap.size, 2, none⟩ = some (.int .u64 (m : Int)) := (HS1.out.cell 2).trans sk
    have f9 : w1.drew.frozen? ⟨w.heap.size, 2, none⟩ = false := HS1.out.free 2
    go_simp
    refine hK _ _ (fun h => absurd rfl h) ?_
    clear hK K
    refine takeN (fun a => Ext.refl a) 12 rfl (by kernel_rfl) (by kernel_rfl) (by kernel_rfl) rfl (fun _ _ _ _ h => h) rfl (fun K hK => ?_)
    go_big_quiet_op
    first | refine hK _ ?_ | refine ⟨_, fun _ _ => rfl, hK _ ?_⟩
    clear hK K
    refine doneL (by kernel_rfl) ?_ _
    have hb5 : Blk (w1.drew.setCell ⟨w.heap.size, 2, none⟩ (.int .u64 (x : Int))) w.heap.size 36 (SC.set 2 (.int .u64 (x : Int))) := Blk.set (w := w1.drew) HS1.out 2 _
    have hr8 : (w1.drew.setCell ⟨w.heap.size, 2, none⟩ (.int .u64 (x : Int))).heap[w.heap.size + 3]? = some (.cells Z.toArray 36 (0, 0)) := Blk.keep (w := w1.drew) HZ1.out (only_set 2 _) (by simp)
    have hx5 : Ext w (w1.drew.setCell ⟨w.heap.size, 2, none⟩ (.int .u64 (x : Int))) := grown_then (HXW.out.trans (Ext.refl w1).drew) (only_set 2 _) (.inr (by rintro g ⟨⟩; omega))
    have HX5 := Lib.hid hx5
    clear hx5
    by_cases hea : ea = 0
    · subst hea
      have hsl2 : (SC.set 2 (.int .u64 (x : Int))).length = 7 := by rw [List.length_set]; exact HSL.out
      have hso2 : ∀ u ∈ SC.set 2 (.int .u64 (x : Int)), u.oneCell' = true := fun u hu => by
        rcases List.mem_or_eq_of_mem_set hu with h | h
        · exact hso u h
        · rw [h]; rfl
      obtain ⟨D, hD⟩ : ∃ D, D = SC.set 2 (.int .u64 (x : Int)) := ⟨_, rfl⟩
      rw [← hD] at hb5 hsl2 hso2
      have HD := Lib.hid hD
      have HDL := Lib.hid hsl2
      have hcs5 := hb5.cells
      clear hD hsl2 hb5
      go_wp2_with (first
        | (refine wpList_load_agg _ rfl 36 (.tmp 4) rfl _ rfl D _ Try.underlying36 rfl (state_size HDL.out) hcs5 ?_)
        | (refine wpList_store_row _ rfl 36 (.tmp 8) (.tmp 55) rfl (w.heap.size + 3) rfl Z D _ rfl hr8 (state_size HDL.out) (by rw [HDL.out, HZL.out]) hso2 ?_)
        | fail)
      have hc9 := Blk.cells (t := 36) (setRow_at (cs' := D.toArray) hr8)
      (try simp only [Exit.inBlock, Exit.then])
      refine bodyPost_ret (results_agg_tmp rfl _ _ _ _ _ rfl Try.underlying36 rfl (state_size HDL.out) hc9) rfl ?_
      refine ⟨grown_then HX5.out (setRow_only _) (.inr (by rintro g ⟨⟩; omega)), .inr ⟨by rw [← HADD.out], ?_⟩⟩
      have hx9 : x = m + am := by
        have h := HADD.out
        unfold addM at h
        split at h <;> simp at h
        exact h
      rw [HD.out, hx9]
      rfl
    · have he11 : ea = 11 := by
        have h := HADD.out
        unfold addM at h
        split at h <;> simp at h
        · exact absurd h.2 hea
        · exact h.2
      have hzb : (ea != 0) = true := by simpa using hea
      have HEA := Lib.hid hea
      have HE11 := Lib.hid he11
      clear hea he11 hb5
      go_wp2_with (first
        | (refine wpList_build (.inl rfl) 36 _ rfl (.agg zst.toArray) (by kernel_rfl) ?_; rw [HZB.out])
        | (refine wpList_store_row _ rfl 36 (.tmp 8) (.tmp 53) rfl (w.heap.size + 3) rfl Z Z _ rfl hr8 (state_size HZL.out) rfl hzo ?_)
        | fail)
      have hc9 := Blk.cells (t := 36) (setRow_at (cs' := Z.toArray) hr8)
      (try simp only [Exit.inBlock, Exit.then])
      refine bodyPost_ret (results_agg_tmp rfl _ _ _ _ _ rfl Try.underlying36 rfl (state_size HZL.out) hc9) rfl ?_
      refine ⟨grown_then HX5.out (setRow_only _) (.inr (by rintro g ⟨⟩; omega)), .inl ⟨by rw [← HADD.out]; exact HEA.out, ?_⟩⟩
      rw [← HE11.out]
      rfl
  · have hzb : (z != 0) = true := by simpa using hz0
    go_wp2_with (first
      | (refine wpList_build (.inl rfl) 36 _ rfl (.agg zst.toArray) (by kernel_rfl) ?_; rw [HZB.out])
      | (refine wpList_store_row _ rfl 36 (.tmp 8) (.tmp 29) rfl (w.heap.size + 3) rfl Z Z _ rfl hr8 (state_size HZL.out) rfl hzo ?_)
      | fail)
    have hc9 : Cells (w1.setRow (w.heap.size + 3) Z.toArray) ⟨w.heap.size + 3, 0, none⟩ Z := Blk.cells (t := 36) (setRow_at hr8)
    (try simp only [Exit.inBlock, Exit.then])
    refine bodyPost_ret (results_agg_tmp rfl _ _ _ _ _ rfl Try.underlying36 rfl (state_size HZL.out) hc9) rfl ?_
    exact ⟨grown_then hxw (setRow_only _) (.inr (by rintro g ⟨⟩; omega)), .inl ⟨hz0, rfl⟩⟩
set_option maxRecDepth 100000 in
set_option maxHeartbeats 1000000 in
theorem Act1_1 (am m : Nat) (z : Int) (w : World) (SC PC OC Z : List Value) (hin : ActIn SC PC OC Z) (o0 : OC[0]? = some (.int .i64 1)) (o1 : OC[1]? = some (.int .u64 (am : Int))) (sk : SC[3]? = some (.int .u64 (m : Int))) (hm : m < M64) (ham : am < M64)
    (hspd : ∀ W, Ext w W → Calls Try.prog 46 #[.agg SC.toArray, .agg PC.toArray, .int .i64 1, .int .u64 (am : Int)] W fun e w' => e = .returned (.int .i64 z) ∧ Ext W w') :
    Calls Try.prog 34 #[.agg SC.toArray, .agg PC.toArray, .int .i64 1, .agg OC.toArray] w fun e w' => Ext w w' ∧ ((z ≠ 0 ∧ e = .returned (.tuple #[.agg Z.toArray, .int .i64 z])) ∨
      (z = 0 ∧ (addM m am).2 ≠ 0 ∧ e = .returned (.tuple #[.agg Z.toArray, .int .i64 11])) ∨ (z = 0 ∧ (addM m am).2 = 0 ∧ e = .returned (.tuple #[.agg (SC.set 3 (.int .u64 ((m + am : Nat) : Int))).toArray, .int .i64 0]))) := by
  have hz := hin.zi
  have hzo := hin.zo
  have hso := hin.so
  have HZB := Lib.hid hin.zb
  have HSL := Lib.hid hin.sl
  have HPL := Lib.hid hin.pl
  have HOL := Lib.hid hin.ol
  have HZL := Lib.hid hin.zl
  obtain ⟨hx0, hb0, hb1, hb2, hb3, hsz⟩ := pre4 w SC PC OC Z
  have c0 : ((((w.alloc (.cells SC.toArray 36)).alloc (.cells PC.toArray 24)).alloc (.cells OC.toArray 46)).alloc (.cells Z.toArray 36)).cell? ⟨w.heap.size + 2, 0, none⟩ = some (.int .i64 1) := (hb2.cell 0).trans o0
  have HX0 := Lib.hid hx0
  have HB0 := Lib.hid hb0
  have HB1 := Lib.hid hb1
  have HB2 := Lib.hid hb2
  have HB3 := Lib.hid hb3
  have HSZ := Lib.hid hsz
  have hscw := hb0.cells
  have hpcw := hb1.cells
  clear hx0 hb0 hb1 hb2 hb3 hsz hin
  have c1 : ((((w.alloc (.cells SC.toArray 36)).alloc (.cells PC.toArray 24)).alloc (.cells OC.toArray 46)).alloc (.cells Z.toArray 36)).cell? ⟨w.heap.size + 2, 1, none⟩ = some (.int .u64 (am : Int)) := (HB2.out.cell 1).trans o1
  have HSPD := Lib.hid hspd
  clear hspd
  go_enter Try.func34, Try.ntmps34
  go_wp2_with (first
    | (refine wpList_alloc _ rfl 36 rfl _ hz ?_)
    | (refine wpList_load_agg _ rfl 36 (.tmp 4) rfl _ rfl SC _ Try.underlying36 rfl (state_size HSL.out) hscw ?_)
    | (refine wpList_load_agg _ rfl 24 (.tmp 5) rfl _ rfl PC _ Try.underlying24 rfl (by rw [HPL.out]; kernel_rfl) hpcw ?_)
    | fail)
  refine (HSPD.out _ HX0.out).mono ?_
  rintro e w1 ⟨rfl, hx1⟩
  have hxw := HX0.out.trans hx1
  have hz1 := HB3.out.keep hx1 (by simp)
  have hs1 := HB0.out.keep hx1 (by simp)
  have ho1 := HB2.out.keep hx1 (by simp)
  have hr8 : w1.heap[w.heap.size + 3]? = some (.cells Z.toArray 36 (0, 0)) := hz1
  by_cases hz0 : z = 0
  · subst hz0
    have d0 : w1.cell? ⟨w.heap.size + 2, 0, none⟩ = some (.int .i64 1) := (ho1.cell 0).trans o0
    have HS1 := Lib.hid hs1
    have HO1 := Lib.hid ho1
    have HXW := Lib.hid hxw
    obtain ⟨⟨x, ea⟩, hadd⟩ : ∃ p, p = addM m am := ⟨_, rfl⟩
    have hmon := fun W => Money_Add m am W hm ham
    rw [← hadd] at hmon
    simp only [numErr] at hmon
    have HADD := Lib.hid hadd
    have HMON := Lib.hid hmon
    clear hs1 ho1 hz1 hxw hadd hmon
    go_wp2
    have HZ1 := Lib.hid hr8
    clear hr8
    refine startL 11 Since (by kernel_rfl) ?_
    refine takeN (fun a => Ext.refl a) 0 rfl (by kernel_rfl) (by kernel_rfl) (by kernel_rfl) rfl (fun _ _ _ _ h => h) rfl (fun K hK => ?_)
    go_big_quiet_op
    first | refine hK _ ?_ | refine ⟨_, fun _ _ => rfl, hK _ ?_⟩
    clear hK K
    refine takeN (fun a => Ext.refl a) 1 rfl (by kernel_rfl) (by kernel_rfl) (by kernel_rfl) rfl (fun _ _ _ _ h => h) rfl (fun K hK => ?_)
    go_big_quiet_op
    first | refine hK _ ?_ | refine ⟨_, fun _ _ => rfl, hK _ ?_⟩
    clear hK K
    refine takeN (fun a => Ext.refl a) 4 rfl (by kernel_rfl) (by kernel_rfl) (by kernel_rfl) rfl (fun _ _ _ _ h => h) rfl (fun K hK => ?_)
    go_big_quiet_op
    first | refine hK _ ?_ | refine ⟨_, fun _ _ => rfl, hK _ ?_⟩
    clear hK K
    refine takeL (fun a => Ext.refl a) (fun a b c h1 h2 => Ext.trans h1 h2) 5 [11] rfl (by kernel_rfl) (by kernel_rfl) (by kernel_rfl) (by kernel_rfl) rfl (fun _ _ _ _ h => h) rfl (fun K hK => ?_)
    refine quiet_cell _ _ rfl _ rfl _ _ Try.underlying23 rfl (fun W' h => World.grownBy.cell h ((HO1.out.cell 1).trans o1) (by simp)) ?_
    refine hK _ ?_
    simp only [Act.put, List.setIfInBounds_toArray, List.set_cons_succ, List.set_cons_zero]
    clear hK K
    refine nilL (fun a => Ext.refl a) 2 rfl (by kernel_rfl) (by kernel_rfl) (by kernel_rfl) _ rfl _ rfl (fun _ _ _ _ h => h) rfl ?_
    (try simp only [Act.put, List.setIfInBounds_toArray, List.set_cons_succ, List.set_cons_zero])
    refine takeL (fun a => Ext.refl a) (fun a b c h1 h2 => Ext.trans h1 h2) 3 [11] rfl (by kernel_rfl) (by kernel_rfl) (by kernel_rfl) (by kernel_rfl) rfl (fun _ _ _ _ h => h) rfl (fun K hK => ?_)
    refine quiet_cell _ _ rfl _ rfl _ _ Try.underlying23 rfl (fun W' h => World.grownBy.cell h ((HS1.out.cell 3).trans sk) (by simp)) ?_
    refine hK _ ?_
    simp only [Act.put, List.setIfInBounds_toArray, List.set_cons_succ, List.set_cons_zero]
    clear hK K
    refine stepL 6 rfl (by kernel_rfl) rfl (fun K hK => ?_)
    go_simp
    refine (HMON.out _).mono ?_
    rintro e _ ⟨rfl, rfl⟩
    refine hK _ _ (fun _ => Ext.refl _) ?_
    clear hK K
    refine takeN (fun a => Ext.refl a) 7 rfl (by kernel_rfl) (by kernel_rfl) (by kernel_rfl) rfl (fun _ _ _ _ h => h) rfl (fun K hK => ?_)
    go_big_quiet_op
    first | refine hK _ ?_ | refine ⟨_, fun _ _ => rfl, hK _ ?_⟩
    clear hK K
    refine takeN (fun a => Ext.refl a) 8 rfl (by kernel_rfl) (by kernel_rfl) (by kernel_rfl) rfl (fun _ _ _ _ h => h) rfl (fun K hK => ?_)
    go_big_quiet_op
    first | refine hK _ ?_ | refine ⟨_, fun _ _ => rfl, hK _ ?_⟩
    clear hK K
    refine takeN (fun a => Ext.refl a) 9 rfl (by kernel_rfl) (by kernel_rfl) (by kernel_rfl) rfl (fun _ _ _ _ h => h) rfl (fun K hK => ?_)
    go_big_quiet_op
    first | refine hK _ ?_ | refine ⟨_, fun _ _ => rfl, hK _ ?_⟩
    clear hK K
    refine nilL (fun a => Ext.refl a) 10 rfl (by kernel_rfl) (by kernel_rfl) (by kernel_rfl) _ rfl _ rfl (fun _ _ _ _ h => h) rfl ?_
    (try simp only [Act.put, List.setIfInBounds_toArray, List.set_cons_succ, List.set_cons_zero])
    refine stepL 11 rfl (by kernel_rfl) rfl (fun K hK => ?_)
    have s9 : w1.drew.cell? ⟨w.heap.size, 3, none⟩ = some (.int .u64 (m : Int)) := (HS1.out.cell 3).trans sk
    have f9 : w1.drew.frozen? ⟨w.heap.size, 3, none⟩ = false := HS1.out.free 3
    go_simp
    refine hK _ _ (fun h => absurd rfl h) ?_
    clear hK K
    refine takeN (fun a => Ext.refl a) 12 rfl (by kernel_rfl) (by kernel_rfl) (by kernel_rfl) rfl (fun _ _ _ _ h => h) rfl (fun K hK => ?_)
    go_big_quiet_op
    first | refine hK _ ?_ | refine ⟨_, fun _ _ => rfl, hK _ ?_⟩
    clear hK K
    refine doneL (by kernel_rfl) ?_ _
    have hb5 : Blk (w1.drew.setCell ⟨w.heap.size, 3, none⟩ (.int .u64 (x : Int))) w.heap.size 36 (SC.set 3 (.int .u64 (x : Int))) := Blk.set (w := w1.drew) HS1.out 3 _
    have hr8 : (w1.drew.setCell ⟨w.heap.size, 3, none⟩ (.int .u64 (x : Int))).heap[w.heap.size + 3]? = some (.cells Z.toArray 36 (0, 0)) := Blk.keep (w := w1.drew) HZ1.out (only_set 3 _) (by simp)
    have hx5 : Ext w (w1.drew.setCell ⟨w.heap.size, 3, none⟩ (.int .u64 (x : Int))) := grown_then (HXW.out.trans (Ext.refl w1).drew) (only_set 3 _) (.inr (by rintro g ⟨⟩; omega))
    have HX5 := Lib.hid hx5
    clear hx5
    by_cases hea : ea = 0
    · subst hea
      have hsl2 : (SC.set 3 (.int .u64 (x : Int))).length = 7 := by rw [List.length_set]; exact HSL.out
      have hso2 : ∀ u ∈ SC.set 3 (.int .u64 (x : Int)), u.oneCell' = true := fun u hu => by
        rcases List.mem_or_eq_of_mem_set hu with h | h
        · exact hso u h
        · rw [h]; rfl
      obtain ⟨D, hD⟩ : ∃ D, D = SC.set 3 (.int .u64 (x : Int)) := ⟨_, rfl⟩
      rw [← hD] at hb5 hsl2 hso2
      have HD := Lib.hid hD
      have HDL := Lib.hid hsl2
      have hcs5 := hb5.cells
      clear hD hsl2 hb5
      go_wp2_with (first
        | (refine wpList_load_agg _ rfl 36 (.tmp 4) rfl _ rfl D _ Try.underlying36 rfl (state_size HDL.out) hcs5 ?_)
        | (refine wpList_store_row _ rfl 36 (.tmp 8) (.tmp 55) rfl (w.heap.size + 3) rfl Z D _ rfl hr8 (state_size HDL.out) (by rw [HDL.out, HZL.out]) hso2 ?_)
        | fail)
      have hc9 := Blk.cells (t := 36) (setRow_at (cs' := D.toArray) hr8)
      (try simp only [Exit.inBlock, Exit.then])
      refine bodyPost_ret (results_agg_tmp rfl _ _ _ _ _ rfl Try.underlying36 rfl (state_size HDL.out) hc9) rfl ?_
      refine ⟨grown_then HX5.out (setRow_only _) (.inr (by rintro g ⟨⟩; omega)), .inr ⟨by rw [← HADD.out], ?_⟩⟩
      have hx9 : x = m + am := by
        have h := HADD.out
        unfold addM at h
        split at h <;> simp at h
        exact h
      rw [HD.out, hx9]
      rfl
    · have he11 : ea = 11 := by
        have h := HADD.out
        unfold addM at h
        split at h <;> simp at h
        · exact absurd h.2 hea
        · exact h.2
      have hzb : (ea != 0) = true := by simpa using hea
      have HEA := Lib.hid hea
      have HE11 := Lib.hid he11
      clear hea he11 hb5
      go_wp2_with (first
        | (refine wpList_build (.inl rfl) 36 _ rfl (.agg zst.toArray) (by kernel_rfl) ?_; rw [HZB.out])
        | (refine wpList_store_row _ rfl 36 (.tmp 8) (.tmp 53) rfl (w.heap.size + 3) rfl Z Z _ rfl hr8 (state_size HZL.out) rfl hzo ?_)
        | fail)
      have hc9 := Blk.cells (t := 36) (setRow_at (cs' := Z.toArray) hr8)
      (try simp only [Exit.inBlock, Exit.then])
      refine bodyPost_ret (results_agg_tmp rfl _ _ _ _ _ rfl Try.underlying36 rfl (state_size HZL.out) hc9) rfl ?_
      refine ⟨grown_then HX5.out (setRow_only _) (.inr (by rintro g ⟨⟩; omega)), .inl ⟨by rw [← HADD.out]; exact HEA.out, ?_⟩⟩
      rw [← HE11.out]
      rfl
  · have hzb : (z != 0) = true := by simpa using hz0
    go_wp2_with (first
      | (refine wpList_build (.inl rfl) 36 _ rfl (.agg zst.toArray) (by kernel_rfl) ?_; rw [HZB.out])
      | (refine wpList_store_row _ rfl 36 (.tmp 8) (.tmp 29) rfl (w.heap.size + 3) rfl Z Z _ rfl hr8 (state_size HZL.out) rfl hzo ?_)
      | fail)
    have hc9 : Cells (w1.setRow (w.heap.size + 3) Z.toArray) ⟨w.heap.size + 3, 0, none⟩ Z := Blk.cells (t := 36) (setRow_at hr8)
    (try simp only [Exit.inBlock, Exit.then])
    refine bodyPost_ret (results_agg_tmp rfl _ _ _ _ _ rfl Try.underlying36 rfl (state_size HZL.out) hc9) rfl ?_
    exact ⟨grown_then hxw (setRow_only _) (.inr (by rintro g ⟨⟩; omega)), .inl ⟨hz0, rfl⟩⟩
set_option maxRecDepth 100000 in
set_option maxHeartbeats 1000000 in
theorem Act5_0 (am m : Nat) (z : Int) (w : World) (SC PC OC Z : List Value) (hin : ActIn SC PC OC Z) (o0 : OC[0]? = some (.int .i64 5)) (o1 : OC[1]? = some (.int .u64 (am : Int))) (sk : SC[4]? = some (.int .u64 (m : Int))) (hm : m < M64) (ham : am < M64)
    (hspd : ∀ W, Ext w W → Calls Try.prog 46 #[.agg SC.toArray, .agg PC.toArray, .int .i64 0, .int .u64 (am : Int)] W fun e w' => e = .returned (.int .i64 z) ∧ Ext W w') :
    Calls Try.prog 34 #[.agg SC.toArray, .agg PC.toArray, .int .i64 0, .agg OC.toArray] w fun e w' => Ext w w' ∧ ((z ≠ 0 ∧ e = .returned (.tuple #[.agg Z.toArray, .int .i64 z])) ∨
      (z = 0 ∧ (addM m am).2 ≠ 0 ∧ e = .returned (.tuple #[.agg Z.toArray, .int .i64 11])) ∨ (z = 0 ∧ (addM m am).2 = 0 ∧ e = .returned (.tuple #[.agg (SC.set 4 (.int .u64 ((m + am : Nat) : Int))).toArray, .int .i64 0]))) := by
  have hz := hin.zi
  have hzo := hin.zo
  have hso := hin.so
  have HZB := Lib.hid hin.zb
  have HSL := Lib.hid hin.sl
  have HPL := Lib.hid hin.pl
  have HOL := Lib.hid hin.ol
  have HZL := Lib.hid hin.zl
  obtain ⟨hx0, hb0, hb1, hb2, hb3, hsz⟩ := pre4 w SC PC OC Z
  have c0 : ((((w.alloc (.cells SC.toArray 36)).alloc (.cells PC.toArray 24)).alloc (.cells OC.toArray 46)).alloc (.cells Z.toArray 36)).cell? ⟨w.heap.size + 2, 0, none⟩ = some (.int .i64 5) := (hb2.cell 0).trans o0
  have HX0 := Lib.hid hx0
  have HB0 := Lib.hid hb0
  have HB1 := Lib.hid hb1
  have HB2 := Lib.hid hb2
  have HB3 := Lib.hid hb3
  have HSZ := Lib.hid hsz
  have hscw := hb0.cells
  have hpcw := hb1.cells
  clear hx0 hb0 hb1 hb2 hb3 hsz hin
  have c1 : ((((w.alloc (.cells SC.toArray 36)).alloc (.cells PC.toArray 24)).alloc (.cells OC.toArray 46)).alloc (.cells Z.toArray 36)).cell? ⟨w.heap.size + 2, 1, none⟩ = some (.int .u64 (am : Int)) := (HB2.out.cell 1).trans o1
  have HSPD := Lib.hid hspd
  clear hspd
  go_enter Try.func34, Try.ntmps34
  go_wp2_with (first
    | (refine wpList_alloc _ rfl 36 rfl _ hz ?_)
    | (refine wpList_load_agg _ rfl 36 (.tmp 4) rfl _ rfl SC _ Try.underlying36 rfl (state_size HSL.out) hscw ?_)
    | (refine wpList_load_agg _ rfl 24 (.tmp 5) rfl _ rfl PC _ Try.underlying24 rfl (by rw [HPL.out]; kernel_rfl) hpcw ?_)
    | fail)
  refine (HSPD.out _ HX0.out).mono ?_
  rintro e w1 ⟨rfl, hx1⟩
  have hxw := HX0.out.trans hx1
  have hz1 := HB3.out.keep hx1 (by simp)
  have hs1 := HB0.out.keep hx1 (by simp)
  have ho1 := HB2.out.keep hx1 (by simp)
  have hr8 : w1.heap[w.heap.size + 3]? = some (.cells Z.toArray 36 (0, 0)) := hz1
  by_cases hz0 : z = 0
  · subst hz0
    have d0 : w1.cell? ⟨w.heap.size + 2, 0, none⟩ = some (.int .i64 5) := (ho1.cell 0).trans o0
    have HS1 := Lib.hid hs1
    have HO1 := Lib.hid ho1
    have HXW := Lib.hid hxw
    obtain ⟨⟨x, ea⟩, hadd⟩ : ∃ p, p = addM m am := ⟨_, rfl⟩
    have hmon := fun W => Money_Add m am W hm ham
    rw [← hadd] at hmon
    simp only [numErr] at hmon
    have HADD := Lib.hid hadd
    have HMON := Lib.hid hmon
    clear hs1 ho1 hz1 hxw hadd hmon
    go_wp2
    have HZ1 := Lib.hid hr8
    clear hr8
    refine startL 11 Since (by kernel_rfl) ?_
    refine takeN (fun a => Ext.refl a) 0 rfl (by kernel_rfl) (by kernel_rfl) (by kernel_rfl) rfl (fun _ _ _ _ h => h) rfl (fun K hK => ?_)
    go_big_quiet_op
    first | refine hK _ ?_ | refine ⟨_, fun _ _ => rfl, hK _ ?_⟩
    clear hK K
    refine takeN (fun a => Ext.refl a) 1 rfl (by kernel_rfl) (by kernel_rfl) (by kernel_rfl) rfl (fun _ _ _ _ h => h) rfl (fun K hK => ?_)
    go_big_quiet_op
    first | refine hK _ ?_ | refine ⟨_, fun _ _ => rfl, hK _ ?_⟩
    clear hK K
    refine takeN (fun a => Ext.refl a) 4 rfl (by kernel_rfl) (by kernel_rfl) (by kernel_rfl) rfl (fun _ _ _ _ h => h) rfl (fun K hK => ?_)
    go_big_quiet_op
    first | refine hK _ ?_ | refine ⟨_, fun _ _ => rfl, hK _ ?_⟩
    clear hK K
    refine takeL (fun a => Ext.refl a) (fun a b c h1 h2 => Ext.trans h1 h2) 5 [11] rfl (by kernel_rfl) (by kernel_rfl) (by kernel_rfl) (by kernel_rfl) rfl (fun _ _ _ _ h => h) rfl (fun K hK => ?_)
    refine quiet_cell _ _ rfl _ rfl _ _ Try.underlying23 rfl (fun W' h => World.grownBy.cell h ((HO1.out.cell 1).trans o1) (by simp)) ?_
    refine hK _ ?_
    simp only [Act.put, List.setIfInBounds_toArray, List.set_cons_succ, List.set_cons_zero]
    clear hK K
    refine nilL (fun a => Ext.refl a) 2 rfl (by kernel_rfl) (by kernel_rfl) (by kernel_rfl) _ rfl _ rfl (fun _ _ _ _ h => h) rfl ?_
    (try simp only [Act.put, List.setIfInBounds_toArray, List.set_cons_succ, List.set_cons_zero])
    refine takeL (fun a => Ext.refl a) (fun a b c h1 h2 => Ext.trans h1 h2) 3 [11] rfl (by kernel_rfl) (by kernel_rfl) (by kernel_rfl) (by kernel_rfl) rfl (fun _ _ _ _ h => h) rfl (fun K hK => ?_)
    refine quiet_cell _ _ rfl _ rfl _ _ Try.underlying23 rfl (fun W' h => World.grownBy.cell h ((HS1.out.cell 4).trans sk) (by simp)) ?_
    refine hK _ ?_
    simp only [Act.put, List.setIfInBounds_toArray, List.set_cons_succ, List.set_cons_zero]
    clear hK K
    refine stepL 6 rfl (by kernel_rfl) rfl (fun K hK => ?_)
    go_simp
    refine (HMON.out _).mono ?_
    rintro e _ ⟨rfl, rfl⟩
    refine hK _ _ (fun _ => Ext.refl _) ?_
    clear hK K
    refine takeN (fun a => Ext.refl a) 7 rfl (by kernel_rfl) (by kernel_rfl) (by kernel_rfl) rfl (fun _ _ _ _ h => h) rfl (fun K hK => ?_)
    go_big_quiet_op
    first | refine hK _ ?_ | refine ⟨_, fun _ _ => rfl, hK _ ?_⟩
    clear hK K
    refine takeN (fun a => Ext.refl a) 8 rfl (by kernel_rfl) (by kernel_rfl) (by kernel_rfl) rfl (fun _ _ _ _ h => h) rfl (fun K hK => ?_)
    go_big_quiet_op
    first | refine hK _ ?_ | refine ⟨_, fun _ _ => rfl, hK _ ?_⟩
    clear hK K
    refine takeN (fun a => Ext.refl a) 9 rfl (by kernel_rfl) (by kernel_rfl) (by kernel_rfl) rfl (fun _ _ _ _ h => h) rfl (fun K hK => ?_)
    go_big_quiet_op
    first | refine hK _ ?_ | refine ⟨_, fun _ _ => rfl, hK _ ?_⟩
    clear hK K
    refine nilL (fun a => Ext.refl a) 10 rfl (by kernel_rfl) (by kernel_rfl) (by kernel_rfl) _ rfl _ rfl (fun _ _ _ _ h => h) rfl ?_
    (try simp only [Act.put, List.setIfInBounds_toArray, List.set_cons_succ, List.set_cons_zero])
    refine stepL 11 rfl (by kernel_rfl) rfl (fun K hK => ?_)
    have s9 : w1.drew.cell? ⟨w.heap.size, 4, none⟩ = some (.int .u64 (m : Int)) := (HS1.out.cell 4).trans sk
    have f9 : w1.drew.frozen? ⟨w.heap.size, 4, none⟩ = false := HS1.out.free 4
    go_simp
    refine hK _ _ (fun h => absurd rfl h) ?_
    clear hK K
    refine takeN (fun a => Ext.refl a) 12 rfl (by kernel_rfl) (by kernel_rfl) (by kernel_rfl) rfl (fun _ _ _ _ h => h) rfl (fun K hK => ?_)
    go_big_quiet_op
    first | refine hK _ ?_ | refine ⟨_, fun _ _ => rfl, hK _ ?_⟩
    clear hK K
    refine doneL (by kernel_rfl) ?_ _
    have hb5 : Blk (w1.drew.setCell ⟨w.heap.size, 4, none⟩ (.int .u64 (x : Int))) w.heap.size 36 (SC.set 4 (.int .u64 (x : Int))) := Blk.set (w := w1.drew) HS1.out 4 _
    have hr8 : (w1.drew.setCell ⟨w.heap.size, 4, none⟩ (.int .u64 (x : Int))).heap[w.heap.size + 3]? = some (.cells Z.toArray 36 (0, 0)) := Blk.keep (w := w1.drew) HZ1.out (only_set 4 _) (by simp)
    have hx5 : Ext w (w1.drew.setCell ⟨w.heap.size, 4, none⟩ (.int .u64 (x : Int))) := grown_then (HXW.out.trans (Ext.refl w1).drew) (only_set 4 _) (.inr (by rintro g ⟨⟩; omega))
    have HX5 := Lib.hid hx5
    clear hx5
    by_cases hea : ea = 0
    · subst hea
      have hsl2 : (SC.set 4 (.int .u64 (x : Int))).length = 7 := by rw [List.length_set]; exact HSL.out
      have hso2 : ∀ u ∈ SC.set 4 (.int .u64 (x : Int)), u.oneCell' = true := fun u hu => by
        rcases List.mem_or_eq_of_mem_set hu with h | h
        · exact hso u h
        · rw [h]; rfl
      obtain ⟨D, hD⟩ : ∃ D, D = SC.set 4 (.int .u64 (x : Int)) := ⟨_, rfl⟩
      rw [← hD] at hb5 hsl2 hso2
      have HD := Lib.hid hD
      have HDL := Lib.hid hsl2
      have hcs5 := hb5.cells
      clear hD hsl2 hb5
      go_wp2_with (first
        | (refine wpList_load_agg _ rfl 36 (.tmp 4) rfl _ rfl D _ Try.underlying36 rfl (state_size HDL.out) hcs5 ?_)
        | (refine wpList_store_row _ rfl 36 (.tmp 8) (.tmp 55) rfl (w.heap.size + 3) rfl Z D _ rfl hr8 (state_size HDL.out) (by rw [HDL.out, HZL.out]) hso2 ?_)
        | fail)
      have hc9 := Blk.cells (t := 36) (setRow_at (cs' := D.toArray) hr8)
      (try simp only [Exit.inBlock, Exit.then])
      refine bodyPost_ret (results_agg_tmp rfl _ _ _ _ _ rfl Try.underlying36 rfl (state_size HDL.out) hc9) rfl ?_
      refine ⟨grown_then HX5.out (setRow_only _) (.inr (by rintro g ⟨⟩; omega)), .inr ⟨by rw [← HADD.out], ?_⟩⟩
      have hx9 : x = m + am := by
        have h := HADD.out
        unfold addM at h
        split at h <;> simp at h
        exact h
      rw [HD.out, hx9]
      rfl
    · have he11 : ea = 11 := by
        have h := HADD.out
        unfold addM at h
        split at h <;> simp at h
        · exact absurd h.2 hea
        · exact h.2
      have hzb : (ea != 0) = true := by simpa using hea
      have HEA := Lib.hid hea
      have HE11 := Lib.hid he11
      clear hea he11 hb5
      go_wp2_with (first
        | (refine wpList_build (.inl rfl) 36 _ rfl (.agg zst.toArray) (by kernel_rfl) ?_; rw [HZB.out])
        | (refine wpList_store_row _ rfl 36 (.tmp 8) (.tmp 53) rfl (w.heap.size + 3) rfl Z Z _ rfl hr8 (state_size HZL.out) rfl hzo ?_)
        | fail)
      have hc9 := Blk.cells (t := 36) (setRow_at (cs' := Z.toArray) hr8)
      (try simp only [Exit.inBlock, Exit.then])
      refine bodyPost_ret (results_agg_tmp rfl _ _ _ _ _ rfl Try.underlying36 rfl (state_size HZL.out) hc9) rfl ?_
      refine ⟨grown_then HX5.out (setRow_only _) (.inr (by rintro g ⟨⟩; omega)), .inl ⟨by rw [← HADD.out]; exact HEA.out, ?_⟩⟩
      rw [← HE11.out]
      rfl
  · have hzb : (z != 0) = true := by simpa using hz0
    go_wp2_with (first
      | (refine wpList_build (.inl rfl) 36 _ rfl (.agg zst.toArray) (by kernel_rfl) ?_; rw [HZB.out])
      | (refine wpList_store_row _ rfl 36 (.tmp 8) (.tmp 29) rfl (w.heap.size + 3) rfl Z Z _ rfl hr8 (state_size HZL.out) rfl hzo ?_)
      | fail)
    have hc9 : Cells (w1.setRow (w.heap.size + 3) Z.toArray) ⟨w.heap.size + 3, 0, none⟩ Z := Blk.cells (t := 36) (setRow_at hr8)
    (try simp only [Exit.inBlock, Exit.then])
    refine bodyPost_ret (results_agg_tmp rfl _ _ _ _ _ rfl Try.underlying36 rfl (state_size HZL.out) hc9) rfl ?_
    exact ⟨grown_then hxw (setRow_only _) (.inr (by rintro g ⟨⟩; omega)), .inl ⟨hz0, rfl⟩⟩
set_option maxRecDepth 100000 in
set_option maxHeartbeats 1000000 in
theorem Act5_1 (am m : Nat) (z : Int) (w : World) (SC PC OC Z : List Value) (hin : ActIn SC PC OC Z) (o0 : OC[0]? = some (.int .i64 5)) (o1 : OC[1]? = some (.int .u64 (am : Int))) (sk : SC[5]? = some (.int .u64 (m : Int))) (hm : m < M64) (ham : am < M64)
    (hspd : ∀ W, Ext w W → Calls Try.prog 46 #[.agg SC.toArray, .agg PC.toArray, .int .i64 1, .int .u64 (am : Int)] W fun e w' => e = .returned (.int .i64 z) ∧ Ext W w') :
    Calls Try.prog 34 #[.agg SC.toArray, .agg PC.toArray, .int .i64 1, .agg OC.toArray] w fun e w' => Ext w w' ∧ ((z ≠ 0 ∧ e = .returned (.tuple #[.agg Z.toArray, .int .i64 z])) ∨
      (z = 0 ∧ (addM m am).2 ≠ 0 ∧ e = .returned (.tuple #[.agg Z.toArray, .int .i64 11])) ∨ (z = 0 ∧ (addM m am).2 = 0 ∧ e = .returned (.tuple #[.agg (SC.set 5 (.int .u64 ((m + am : Nat) : Int))).toArray, .int .i64 0]))) := by
  have hz := hin.zi
  have hzo := hin.zo
  have hso := hin.so
  have HZB := Lib.hid hin.zb
  have HSL := Lib.hid hin.sl
  have HPL := Lib.hid hin.pl
  have HOL := Lib.hid hin.ol
  have HZL := Lib.hid hin.zl
  obtain ⟨hx0, hb0, hb1, hb2, hb3, hsz⟩ := pre4 w SC PC OC Z
  have c0 : ((((w.alloc (.cells SC.toArray 36)).alloc (.cells PC.toArray 24)).alloc (.cells OC.toArray 46)).alloc (.cells Z.toArray 36)).cell? ⟨w.heap.size + 2, 0, none⟩ = some (.int .i64 5) := (hb2.cell 0).trans o0
  have HX0 := Lib.hid hx0
  have HB0 := Lib.hid hb0
  have HB1 := Lib.hid hb1
  have HB2 := Lib.hid hb2
  have HB3 := Lib.hid hb3
  have HSZ := Lib.hid hsz
  have hscw := hb0.cells
  have hpcw := hb1.cells
  clear hx0 hb0 hb1 hb2 hb3 hsz hin
  have c1 : ((((w.alloc (.cells SC.toArray 36)).alloc (.cells PC.toArray 24)).alloc (.cells OC.toArray 46)).alloc (.cells Z.toArray 36)).cell? ⟨w.heap.size + 2, 1, none⟩ = some (.int .u64 (am : Int)) := (HB2.out.cell 1).trans o1
  have HSPD := Lib.hid hspd
  clear hspd
  go_enter Try.func34, Try.ntmps34
  go_wp2_with (first
    | (refine wpList_alloc _ rfl 36 rfl _ hz ?_)
    | (refine wpList_load_agg _ rfl 36 (.tmp 4) rfl _ rfl SC _ Try.underlying36 rfl (state_size HSL.out) hscw ?_)
    | (refine wpList_load_agg _ rfl 24 (.tmp 5) rfl _ rfl PC _ Try.underlying24 rfl (by rw [HPL.out]; kernel_rfl) hpcw ?_)
    | fail)
  refine (HSPD.out _ HX0.out).mono ?_
  rintro e w1 ⟨rfl, hx1⟩
  have hxw := HX0.out.trans hx1
  have hz1 := HB3.out.keep hx1 (by simp)
  have hs1 := HB0.out.keep hx1 (by simp)
  have ho1 := HB2.out.keep hx1 (by simp)
  have hr8 : w1.heap[w.heap.size + 3]? = some (.cells Z.toArray 36 (0, 0)) := hz1
  by_cases hz0 : z = 0
  · subst hz0
    have d0 : w1.cell? ⟨w.heap.size + 2, 0, none⟩ = some (.int .i64 5) := (ho1.cell 0).trans o0
    have HS1 := Lib.hid hs1
    have HO1 := Lib.hid ho1
    have HXW := Lib.hid hxw
    obtain ⟨⟨x, ea⟩, hadd⟩ : ∃ p, p = addM m am := ⟨_, rfl⟩
    have hmon := fun W => Money_Add m am W hm ham
    rw [← hadd] at hmon
    simp only [numErr] at hmon
    have HADD := Lib.hid hadd
    have HMON := Lib.hid hmon
    clear hs1 ho1 hz1 hxw hadd hmon
    go_wp2
    have HZ1 := Lib.hid hr8
    clear hr8
    refine startL 11 Since (by kernel_rfl) ?_
    refine takeN (fun a => Ext.refl a) 0 rfl (by kernel_rfl) (by kernel_rfl) (by kernel_rfl) rfl (fun _ _ _ _ h => h) rfl (fun K hK => ?_)
    go_big_quiet_op
    first | refine hK _ ?_ | refine ⟨_, fun _ _ => rfl, hK _ ?_⟩
    clear hK K
    refine takeN (fun a => Ext.refl a) 1 rfl (by kernel_rfl) (by kernel_rfl) (by kernel_rfl) rfl (fun _ _ _ _ h => h) rfl (fun K hK => ?_)
    go_big_quiet_op
    first | refine hK _ ?_ | refine ⟨_, fun _ _ => rfl, hK _ ?_⟩
    clear hK K
    refine takeN (fun a => Ext.refl a) 4 rfl (by kernel_rfl) (by kernel_rfl) (by kernel_rfl) rfl (fun _ _ _ _ h => h) rfl (fun K hK => ?_)
    go_big_quiet_op
    first | refine hK _ ?_ | refine ⟨_, fun _ _ => rfl, hK _ ?_⟩
    clear hK K
    refine takeL (fun a => Ext.refl a) (fun a b c h1 h2 => Ext.trans h1 h2) 5 [11] rfl (by kernel_rfl) (by kernel_rfl) (by kernel_rfl) (by kernel_rfl) rfl (fun _ _ _ _ h => h) rfl (fun K hK => ?_)
    refine quiet_cell _ _ rfl _ rfl _ _ Try.underlying23 rfl (fun W' h => World.grownBy.cell h ((HO1.out.cell 1).trans o1) (by simp)) ?_
    refine hK _ ?_
    simp only [Act.put, List.setIfInBounds_toArray, List.set_cons_succ, List.set_cons_zero]
    clear hK K
    refine nilL (fun a => Ext.refl a) 2 rfl (by kernel_rfl) (by kernel_rfl) (by kernel_rfl) _ rfl _ rfl (fun _ _ _ _ h => h) rfl ?_
    (try simp only [Act.put, List.setIfInBounds_toArray, List.set_cons_succ, List.set_cons_zero])
    refine takeL (fun a => Ext.refl a) (fun a b c h1 h2 => Ext.trans h1 h2) 3 [11] rfl (by kernel_rfl) (by kernel_rfl) (by kernel_rfl) (by kernel_rfl) rfl (fun _ _ _ _ h => h) rfl (fun K hK => ?_)
    refine quiet_cell _ _ rfl _ rfl _ _ Try.underlying23 rfl (fun W' h => World.grownBy.cell h ((HS1.out.cell 5).trans sk) (by simp)) ?_
    refine hK _ ?_
    simp only [Act.put, List.setIfInBounds_toArray, List.set_cons_succ, List.set_cons_zero]
    clear hK K
    refine stepL 6 rfl (by kernel_rfl) rfl (fun K hK => ?_)
    go_simp
    refine (HMON.out _).mono ?_
    rintro e _ ⟨rfl, rfl⟩
    refine hK _ _ (fun _ => Ext.refl _) ?_
    clear hK K
    refine takeN (fun a => Ext.refl a) 7 rfl (by kernel_rfl) (by kernel_rfl) (by kernel_rfl) rfl (fun _ _ _ _ h => h) rfl (fun K hK => ?_)
    go_big_quiet_op
    first | refine hK _ ?_ | refine ⟨_, fun _ _ => rfl, hK _ ?_⟩
    clear hK K
    refine takeN (fun a => Ext.refl a) 8 rfl (by kernel_rfl) (by kernel_rfl) (by kernel_rfl) rfl (fun _ _ _ _ h => h) rfl (fun K hK => ?_)
    go_big_quiet_op
    first | refine hK _ ?_ | refine ⟨_, fun _ _ => rfl, hK _ ?_⟩
    clear hK K
    refine takeN (fun a => Ext.refl a) 9 rfl (by kernel_rfl) (by kernel_rfl) (by kernel_rfl) rfl (fun _ _ _ _ h => h) rfl (fun K hK => ?_)
    go_big_quiet_op
    first | refine hK _ ?_ | refine ⟨_, fun _ _ => rfl, hK _ ?_⟩
    clear hK K
    refine nilL (fun a => Ext.refl a) 10 rfl (by kernel_rfl) (by kernel_rfl) (by kernel_rfl) _ rfl _ rfl (fun _ _ _ _ h => h) rfl ?_
    (try simp only [Act.put, List.setIfInBounds_toArray, List.set_cons_succ, List.set_cons_zero])
    refine stepL 11 rfl (by kernel_rfl) rfl (fun K hK => ?_)
    have s9 : w1.drew.cell? ⟨w.heap.size, 5, none⟩ = some (.int .u64 (m : Int)) := (HS1.out.cell 5).trans sk
    have f9 : w1.drew.frozen? ⟨w.heap.size, 5, none⟩ = false := HS1.out.free 5
    go_simp
    refine hK _ _ (fun h => absurd rfl h) ?_
    clear hK K
    refine takeN (fun a => Ext.refl a) 12 rfl (by kernel_rfl) (by kernel_rfl) (by kernel_rfl) rfl (fun _ _ _ _ h => h) rfl (fun K hK => ?_)
    go_big_quiet_op
    first | refine hK _ ?_ | refine ⟨_, fun _ _ => rfl, hK _ ?_⟩
    clear hK K
    refine doneL (by kernel_rfl) ?_ _
    have hb5 : Blk (w1.drew.setCell ⟨w.heap.size, 5, none⟩ (.int .u64 (x : Int))) w.heap.size 36 (SC.set 5 (.int .u64 (x : Int))) := Blk.set (w := w1.drew) HS1.out 5 _
    have hr8 : (w1.drew.setCell ⟨w.heap.size, 5, none⟩ (.int .u64 (x : Int))).heap[w.heap.size + 3]? = some (.cells Z.toArray 36 (0, 0)) := Blk.keep (w := w1.drew) HZ1.out (only_set 5 _) (by simp)
    have hx5 : Ext w (w1.drew.setCell ⟨w.heap.size, 5, none⟩ (.int .u64 (x : Int))) := grown_then (HXW.out.trans (Ext.refl w1).drew) (only_set 5 _) (.inr (by rintro g ⟨⟩; omega))
    have HX5 := Lib.hid hx5
    clear hx5
    by_cases hea : ea = 0
    · subst hea
      have hsl2 : (SC.set 5 (.int .u64 (x : Int))).length = 7 := by rw [List.length_set]; exact HSL.out
      have hso2 : ∀ u ∈ SC.set 5 (.int .u64 (x : Int)), u.oneCell' = true := fun u hu => by
        rcases List.mem_or_eq_of_mem_set hu with h | h
        · exact hso u h
        · rw [h]; rfl
      obtain ⟨D, hD⟩ : ∃ D, D = SC.set 5 (.int .u64 (x : Int)) := ⟨_, rfl⟩
      rw [← hD] at hb5 hsl2 hso2
      have HD := Lib.hid hD
      have HDL := Lib.hid hsl2
      have hcs5 := hb5.cells
      clear hD hsl2 hb5
      go_wp2_with (first
        | (refine wpList_load_agg _ rfl 36 (.tmp 4) rfl _ rfl D _ Try.underlying36 rfl (state_size HDL.out) hcs5 ?_)
        | (refine wpList_store_row _ rfl 36 (.tmp 8) (.tmp 55) rfl (w.heap.size + 3) rfl Z D _ rfl hr8 (state_size HDL.out) (by rw [HDL.out, HZL.out]) hso2 ?_)
        | fail)
      have hc9 := Blk.cells (t := 36) (setRow_at (cs' := D.toArray) hr8)
      (try simp only [Exit.inBlock, Exit.then])
      refine bodyPost_ret (results_agg_tmp rfl _ _ _ _ _ rfl Try.underlying36 rfl (state_size HDL.out) hc9) rfl ?_
      refine ⟨grown_then HX5.out (setRow_only _) (.inr (by rintro g ⟨⟩; omega)), .inr ⟨by rw [← HADD.out], ?_⟩⟩
      have hx9 : x = m + am := by
        have h := HADD.out
        unfold addM at h
        split at h <;> simp at h
        exact h
      rw [HD.out, hx9]
      rfl
    · have he11 : ea = 11 := by
        have h := HADD.out
        unfold addM at h
        split at h <;> simp at h
        · exact absurd h.2 hea
        · exact h.2
      have hzb : (ea != 0) = true := by simpa using hea
      have HEA := Lib.hid hea
      have HE11 := Lib.hid he11
      clear hea he11 hb5
      go_wp2_with (first
        | (refine wpList_build (.inl rfl) 36 _ rfl (.agg zst.toArray) (by kernel_rfl) ?_; rw [HZB.out])
        | (refine wpList_store_row _ rfl 36 (.tmp 8) (.tmp 53) rfl (w.heap.size + 3) rfl Z Z _ rfl hr8 (state_size HZL.out) rfl hzo ?_)
        | fail)
      have hc9 := Blk.cells (t := 36) (setRow_at (cs' := Z.toArray) hr8)
      (try simp only [Exit.inBlock, Exit.then])
      refine bodyPost_ret (results_agg_tmp rfl _ _ _ _ _ rfl Try.underlying36 rfl (state_size HZL.out) hc9) rfl ?_
      refine ⟨grown_then HX5.out (setRow_only _) (.inr (by rintro g ⟨⟩; omega)), .inl ⟨by rw [← HADD.out]; exact HEA.out, ?_⟩⟩
      rw [← HE11.out]
      rfl
  · have hzb : (z != 0) = true := by simpa using hz0
    go_wp2_with (first
      | (refine wpList_build (.inl rfl) 36 _ rfl (.agg zst.toArray) (by kernel_rfl) ?_; rw [HZB.out])
      | (refine wpList_store_row _ rfl 36 (.tmp 8) (.tmp 29) rfl (w.heap.size + 3) rfl Z Z _ rfl hr8 (state_size HZL.out) rfl hzo ?_)
      | fail)
    have hc9 : Cells (w1.setRow (w.heap.size + 3) Z.toArray) ⟨w.heap.size + 3, 0, none⟩ Z := Blk.cells (t := 36) (setRow_at hr8)
    (try simp only [Exit.inBlock, Exit.then])
    refine bodyPost_ret (results_agg_tmp rfl _ _ _ _ _ rfl Try.underlying36 rfl (state_size HZL.out) hc9) rfl ?_
    exact ⟨grown_then hxw (setRow_only _) (.inr (by rintro g ⟨⟩; omega)), .inl ⟨hz0, rfl⟩⟩
set_option maxRecDepth 100000 in
set_option maxHeartbeats 1000000 in
theorem Act0 (w : World) (SC PC OC Z : List Value) (sd : Int) (hin : ActIn SC PC OC Z) (o0 : OC[0]? = some (.int .i64 0)) :
    Calls Try.prog 34 #[.agg SC.toArray, .agg PC.toArray, .int .i64 sd, .agg OC.toArray] w fun e w' => Ext w w' ∧ e = .returned (.tuple #[.agg SC.toArray, .int .i64 0]) := by
  have hz := hin.zi
  have hzo := hin.zo
  have hso := hin.so
  have HZB := Lib.hid hin.zb
  have HSL := Lib.hid hin.sl
  have HPL := Lib.hid hin.pl
  have HOL := Lib.hid hin.ol
  have HZL := Lib.hid hin.zl
  obtain ⟨hx0, hb0, hb1, hb2, hb3, hsz⟩ := pre4 w SC PC OC Z
  have c0 : ((((w.alloc (.cells SC.toArray 36)).alloc (.cells PC.toArray 24)).alloc (.cells OC.toArray 46)).alloc (.cells Z.toArray 36)).cell? ⟨w.heap.size + 2, 0, none⟩ = some (.int .i64 0) := (hb2.cell 0).trans o0
  have HX0 := Lib.hid hx0
  have HB0 := Lib.hid hb0
  have HB1 := Lib.hid hb1
  have HB2 := Lib.hid hb2
  have HB3 := Lib.hid hb3
  have HSZ := Lib.hid hsz
  have hscw := hb0.cells
  have hpcw := hb1.cells
  clear hx0 hb0 hb1 hb2 hb3 hsz hin
  go_enter Try.func34, Try.ntmps34
  have hr8 : ((((w.alloc (.cells SC.toArray 36)).alloc (.cells PC.toArray 24)).alloc (.cells OC.toArray 46)).alloc (.cells Z.toArray 36)).heap[w.heap.size + 3]? = some (.cells Z.toArray 36 (0, 0)) := HB3.out
  go_wp2_with (first
    | (refine wpList_alloc _ rfl 36 rfl _ hz ?_)
    | (refine wpList_load_agg _ rfl 36 (.tmp 4) rfl _ rfl SC _ Try.underlying36 rfl (state_size HSL.out) hscw ?_)
    | (refine wpList_store_row _ rfl 36 (.tmp 8) (.tmp 17) rfl (w.heap.size + 3) rfl Z SC _ rfl hr8 (state_size HSL.out) (by rw [HSL.out, HZL.out]) hso ?_)
    | fail)
  have hc9 := Blk.cells (t := 36) (setRow_at (cs' := SC.toArray) hr8)
  (try simp only [Exit.inBlock, Exit.then])
  refine bodyPost_ret (results_agg_tmp rfl _ _ _ _ _ rfl Try.underlying36 rfl (state_size HSL.out) hc9) rfl ?_
  exact ⟨grown_then HX0.out (setRow_only _) (.inr (by rintro g ⟨⟩; omega)), rfl⟩
set_option maxRecDepth 100000 in
set_option maxHeartbeats 1000000 in
theorem ActX (kind : Int) (w : World) (SC PC OC Z : List Value) (sd : Int) (hin : ActIn SC PC OC Z) (o0 : OC[0]? = some (.int .i64 kind)) (k0 : (kind == 0) = false) (k1 : (kind == 1) = false) (k2 : (kind == 2) = false) (k3 : (kind == 3) = false) (k4 : (kind == 4) = false) (k5 : (kind == 5) = false) :
    Calls Try.prog 34 #[.agg SC.toArray, .agg PC.toArray, .int .i64 sd, .agg OC.toArray] w fun e w' => Ext w w' ∧ e = .returned (.tuple #[.agg Z.toArray, .int .i64 33]) := by
  have hz := hin.zi
  have hzo := hin.zo
  have hso := hin.so
  have HZB := Lib.hid hin.zb
  have HSL := Lib.hid hin.sl
  have HPL := Lib.hid hin.pl
  have HOL := Lib.hid hin.ol
  have HZL := Lib.hid hin.zl
  obtain ⟨hx0, hb0, hb1, hb2, hb3, hsz⟩ := pre4 w SC PC OC Z
  have c0 : ((((w.alloc (.cells SC.toArray 36)).alloc (.cells PC.toArray 24)).alloc (.cells OC.toArray 46)).alloc (.cells Z.toArray 36)).cell? ⟨w.heap.size + 2, 0, none⟩ = some (.int .i64 kind) := (hb2.cell 0).trans o0
  have HX0 := Lib.hid hx0
  have HB0 := Lib.hid hb0
  have HB1 := Lib.hid hb1
  have HB2 := Lib.hid hb2
  have HB3 := Lib.hid hb3
  have HSZ := Lib.hid hsz
  have hscw := hb0.cells
  have hpcw := hb1.cells
  clear hx0 hb0 hb1 hb2 hb3 hsz hin
  go_enter Try.func34, Try.ntmps34
  have hr8 : ((((w.alloc (.cells SC.toArray 36)).alloc (.cells PC.toArray 24)).alloc (.cells OC.toArray 46)).alloc (.cells Z.toArray 36)).heap[w.heap.size + 3]? = some (.cells Z.toArray 36 (0, 0)) := HB3.out
  go_wp2_with (first
    | (refine wpList_alloc _ rfl 36 rfl _ hz ?_)
    | (refine wpList_build (.inl rfl) 36 _ rfl (.agg zst.toArray) (by kernel_rfl) ?_; rw [HZB.out])
    | (refine wpList_store_row _ rfl 36 (.tmp 8) (.tmp 106) rfl (w.heap.size + 3) rfl Z Z _ rfl hr8 (state_size HZL.out) rfl hzo ?_)
    | fail)
  have hc9 := Blk.cells (t := 36) (setRow_at (cs' := Z.toArray) hr8)
  (try simp only [Exit.inBlock, Exit.then])
  refine bodyPost_ret (results_agg_tmp rfl _ _ _ _ _ rfl Try.underlying36 rfl (state_size HZL.out) hc9) rfl ?_
  exact ⟨grown_then HX0.out (setRow_only _) (.inr (by rintro g ⟨⟩; omega)), rfl⟩
set_option maxRecDepth 100000 in
set_option maxHeartbeats 1000000 in
theorem Act2 (w : World) (SC PC OC Z C E : List Value) (sd : Int) (G : World → World → List Value → Int → Prop) (hin : ActIn SC PC OC Z) (o0 : OC[0]? = some (.int .i64 2)) (oc : OC.drop 2 = C ++ E) (hcl : C.length = 36) (row : Option Nat) (hrow : ∀ g, row = some g → g < w.heap.size)
    (hlk : ∀ W, Ext w W → Calls Try.prog 48 #[.agg SC.toArray, .agg PC.toArray, .int .i64 sd, .agg C.toArray] W fun e w' => ∃ R z, e = .returned (.tuple #[.agg R.toArray, .int .i64 z]) ∧ R.length = 7 ∧ (∀ u ∈ R, u.oneCell' = true) ∧ W.grownBy w' row ∧ G W w' R z) :
    Calls Try.prog 34 #[.agg SC.toArray, .agg PC.toArray, .int .i64 sd, .agg OC.toArray] w fun e w' => ∃ W w1 R z, Ext w W ∧ w.heap.size + 4 ≤ W.heap.size ∧ W.grownBy w1 row ∧ G W w1 R z ∧ w1.grownBy w' (some (w.heap.size + 3)) ∧ e = .returned (.tuple #[.agg R.toArray, .int .i64 z]) := by
  have hz := hin.zi
  have hzo := hin.zo
  have hso := hin.so
  have HZB := Lib.hid hin.zb
  have HSL := Lib.hid hin.sl
  have HPL := Lib.hid hin.pl
  have HOL := Lib.hid hin.ol
  have HZL := Lib.hid hin.zl
  obtain ⟨hx0, hb0, hb1, hb2, hb3, hsz⟩ := pre4 w SC PC OC Z
  have c0 : ((((w.alloc (.cells SC.toArray 36)).alloc (.cells PC.toArray 24)).alloc (.cells OC.toArray 46)).alloc (.cells Z.toArray 36)).cell? ⟨w.heap.size + 2, 0, none⟩ = some (.int .i64 2) := (hb2.cell 0).trans o0
  have HX0 := Lib.hid hx0
  have HB0 := Lib.hid hb0
  have HB1 := Lib.hid hb1
  have HB2 := Lib.hid hb2
  have HB3 := Lib.hid hb3
  have HSZ := Lib.hid hsz
  have hscw := hb0.cells
  have hpcw := hb1.cells
  clear hx0 hb0 hb1 hb2 hb3 hsz hin
  have hocw : Cells ((((w.alloc (.cells SC.toArray 36)).alloc (.cells PC.toArray 24)).alloc (.cells OC.toArray 46)).alloc (.cells Z.toArray 36)) ⟨w.heap.size + 2, 2, none⟩ C := by
    have h := HB2.out.cells.drop 2
    rw [oc] at h
    have h2 := h.left
    simpa [Addr.add] using h2
  have HCL := Lib.hid hcl
  have HLK := Lib.hid hlk
  have HOC := Lib.hid oc
  clear hcl hlk oc
  go_enter Try.func34, Try.ntmps34
  go_wp2_with (first
    | (refine wpList_alloc _ rfl 36 rfl _ hz ?_)
    | (refine wpList_load_agg _ rfl 36 (.tmp 4) rfl _ rfl SC _ Try.underlying36 rfl (state_size HSL.out) hscw ?_)
    | (refine wpList_load_agg _ rfl 24 (.tmp 5) rfl _ rfl PC _ Try.underlying24 rfl (by rw [HPL.out]; kernel_rfl) hpcw ?_)
    | (refine wpList_load_agg _ rfl 44 (.tmp 61) rfl _ rfl C _ Try.underlying44 rfl (cond_size HCL.out) hocw ?_)
    | fail)
  refine (HLK.out _ HX0.out).mono ?_
  rintro e w1 ⟨R, z, rfl, hrl, hro, hg1, hG⟩
  have hr8 : w1.heap[w.heap.size + 3]? = some (.cells Z.toArray 36 (0, 0)) := HB3.out.keep hg1 (fun e => by have := hrow _ e.symm; omega)
  have HRL := Lib.hid hrl
  have HG1 := Lib.hid hg1
  have HG := Lib.hid hG
  clear hrl hg1 hG
  go_wp2_with (first
    | (refine wpList_store_row _ rfl 36 (.tmp 8) (.tmp 64) rfl (w.heap.size + 3) rfl Z R _ rfl hr8 (state_size HRL.out) (by rw [HRL.out, HZL.out]) hro ?_)
    | fail)
  have hc9 := Blk.cells (t := 36) (setRow_at (cs' := R.toArray) hr8)
  (try simp only [Exit.inBlock, Exit.then])
  refine bodyPost_ret (results_agg_tmp rfl _ _ _ _ _ rfl Try.underlying36 rfl (state_size HRL.out) hc9) rfl ?_
  exact ⟨_, w1, R, z, HX0.out, by have := HSZ.out; omega, HG1.out, HG.out, setRow_only _, rfl⟩
end Go.Proofs.Ytnpolfihbfdggaa

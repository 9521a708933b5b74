/- The walks of layer 4's and 5's From. Conditions: the pieces have 1024 cells; the sums have 32 bytes. -/
import Derived.Test.YtemladlnpaaefaaTo05
set_option linter.unusedVariables false
set_option linter.unusedSimpArgs false
set_option linter.unnecessarySimpa false
namespace Go.Proofs.Ytemladlnpaaefaa
open Go.RowKit
theorem szPieceFrom04 {n : Nat} (h : n = 16) : (Try.prog.info? 52).map (·.size) = some n := by subst h; kernel_rfl
theorem szPieceBFrom04 {n : Nat} (h : n = 16) : (Try.prog.info? 31).map (·.size) = some n := by subst h; kernel_rfl
theorem szSigFrom04 {n : Nat} (h : n = 1024) : (Try.prog.info? 34).map (·.size) = some n := by subst h; kernel_rfl
theorem zSigFrom04 : (Try.prog.info? 34).bind (fun i => i.zero.map (·.cells)) = some (List.replicate 1024 (Value.int .u8 0)).toArray := by kernel_rfl
set_option maxRecDepth 100000 in
set_option maxHeartbeats 4000000 in
theorem From04 (C : List Value) (w : World) (hC : C.length = 1024) (hone : ∀ u ∈ C, u.oneCell' = true) :
    Calls Try.prog 40 #[.agg C.toArray] w fun e w' => e = .returned (.agg C.toArray) ∧ Ext w w' := by
  obtain ⟨Z, hz, hzl, hzo⟩ : ∃ Z : List Value, (Try.prog.info? 34).bind (fun i => i.zero.map (·.cells)) = some Z.toArray ∧ Z.length = 1024 ∧ ∀ u ∈ Z, u.oneCell' = true := ⟨_, zSigFrom04, List.length_replicate, fun u hu => by rw [List.eq_of_mem_replicate hu]; rfl⟩
  have HCL := Lib.hid hC
  have HZL := Lib.hid hzl
  have HZO := Lib.hid hzo
  have hb1 : Blk (((w.alloc (.cells C.toArray 55)).alloc (.cells Z.toArray 34)).alloc (.cells Z.toArray 34)) w.heap.size 55 C := ((Blk.new _ _ _).keep ((Ext.refl _).alloc _) (by simp)).keep ((Ext.refl _).alloc _) (by simp)
  have hb2 : Blk (((w.alloc (.cells C.toArray 55)).alloc (.cells Z.toArray 34)).alloc (.cells Z.toArray 34)) (w.heap.size + 1) 34 Z := (Blk.fresh (by simp) _ _).keep ((Ext.refl _).alloc _) (by simp)
  have hb3 : Blk (((w.alloc (.cells C.toArray 55)).alloc (.cells Z.toArray 34)).alloc (.cells Z.toArray 34)) (w.heap.size + 2) 34 Z := Blk.fresh (by simp) _ _
  have hx0 : Ext w (((w.alloc (.cells C.toArray 55)).alloc (.cells Z.toArray 34)).alloc (.cells Z.toArray 34)) := (((Ext.refl w).alloc _).alloc _).alloc _
  have HB1 := Lib.hid hb1
  have HB2 := Lib.hid hb2
  have HB3 := Lib.hid hb3
  have HX0 := Lib.hid hx0
  clear hb1 hb2 hb3 hx0 hC hzl hzo
  go_enter Try.func40, Try.ntmps40
  go_wp2_with (first
    | (refine wpList_alloc _ rfl 34 rfl _ hz ?_)
    | fail)
  go_loopw [4, 5] (fun p i wr => ∃ k : Nat, k ≤ 32 ∧ i = .int .i64 k ∧ Ext w wr ∧ Blk wr w.heap.size 55 C ∧ Blk wr (w.heap.size + 1) 34 Z ∧ Blk wr (w.heap.size + 2) 34 (mixAt C Z k) ∧ ∃ q, p = q) (fun _ i _ => 32 - (intOf i).toNat)
  case atStart => exact ⟨0, by omega, rfl, HX0.out, HB1.out, HB2.out, by rw [mixAt_zero C Z HCL.out HZL.out]; exact HB3.out, _, rfl⟩
  case round =>
    clear HX0 HB1 HB2 HB3
    obtain ⟨k, hk, rfl, hx, hb1, hb2, hb3, q, rfl⟩ := hrel
    by_cases hlt : k < 32
    · have HX := Lib.hid hx
      have HB1 := Lib.hid hb1
      have HB2 := Lib.hid hb2
      have HB3 := Lib.hid hb3
      clear hx hb1 hb2 hb3
      go_wp2
      have hx : Ext w wr.drew := HX.out.drew
      have hb1 : Blk wr.drew w.heap.size 55 C := HB1.out
      have hb2 : Blk wr.drew (w.heap.size + 1) 34 Z := HB2.out
      have hb3 : Blk wr.drew (w.heap.size + 2) 34 (mixAt C Z k) := HB3.out
      refine startM (KeepB fun b => b = w.heap.size) (by kernel_rfl) ?_
      (try simp only [Act.put, List.setIfInBounds_toArray, List.set_cons_succ, List.set_cons_zero])
      generalize wr.drew = w0 at *
      have hk1 : Cells w0 ⟨w.heap.size, k * 16, none⟩ ((C.drop (k * 16)).take 16) := by have h := (hb1.cells.drop (k * 16)).take 16; rw [addr_at] at h; exact h
      have hk2 : Cells w0 ⟨w.heap.size, 512 + k * 16, none⟩ ((C.drop (512 + k * 16)).take 16) := by have h := (hb1.cells.drop (512 + k * 16)).take 16; rw [addr_at] at h; exact h
      have hp1 := piece_len HCL.out (o := k * 16) (by omega)
      have hp2 := piece_len HCL.out (o := 512 + k * 16) (by omega)
      have hst := mixAt_step C Z HCL.out HZL.out k hlt
      have ho1 : ∀ u ∈ (C.drop (k * 16)).take 16, u.oneCell' = true := fun u hu => hone u (List.mem_of_mem_drop (List.mem_of_mem_take hu))
      have ho2 : ∀ u ∈ (C.drop (512 + k * 16)).take 16, u.oneCell' = true := fun u hu => hone u (List.mem_of_mem_drop (List.mem_of_mem_take hu))
      generalize (C.drop (k * 16)).take 16 = P1 at *
      generalize (C.drop (512 + k * 16)).take 16 = P2 at *
      have HX := Lib.hid hx
      have HB1 := Lib.hid hb1
      have HB2 := Lib.hid hb2
      have HB3 := Lib.hid hb3
      have HK1 := Lib.hid hk1
      have HK2 := Lib.hid hk2
      have HP1 := Lib.hid hp1
      have HP2 := Lib.hid hp2
      have HST := Lib.hid hst
      have HO1 := Lib.hid ho1
      have HO2 := Lib.hid ho2
      clear hx hb1 hb2 hb3 hk1 hk2 hp1 hp2 hst ho1 ho2
      refine takeK 0 rfl (by kernel_rfl) (by kernel_rfl) (by kernel_rfl) rfl (fun _ _ _ _ h => h) rfl (fun K hK => ?_)
      go_big_quiet_op
      first | refine hK _ ?_ | refine ⟨_, fun _ _ => rfl, hK _ ?_⟩
      clear hK K
      refine takeK 1 rfl (by kernel_rfl) (by kernel_rfl) (by kernel_rfl) rfl (fun _ _ _ _ h => h) rfl (fun K hK => ?_)
      go_big_quiet_op
      first | refine hK _ ?_ | refine ⟨_, fun _ _ => rfl, hK _ ?_⟩
      clear hK K
      refine takeK 2 rfl (by kernel_rfl) (by kernel_rfl) (by kernel_rfl) rfl (fun _ _ _ _ h => h) rfl (fun K hK => ?_)
      go_big_quiet_op
      first | refine hK _ ?_ | refine ⟨_, fun _ _ => rfl, hK _ ?_⟩
      clear hK K
      refine takeK 3 rfl (by kernel_rfl) (by kernel_rfl) (by kernel_rfl) rfl (fun _ _ _ _ h => h) rfl (fun K hK => ?_)
      go_big_quiet_op
      first | refine hK _ ?_ | refine ⟨_, fun _ _ => rfl, hK _ ?_⟩
      clear hK K
      refine takeK 4 rfl (by kernel_rfl) (by kernel_rfl) (by kernel_rfl) rfl (fun _ _ _ _ h => h) rfl (fun K hK => ?_)
      go_big_quiet_op
      first | refine hK _ ?_ | refine ⟨_, fun _ _ => rfl, hK _ ?_⟩
      clear hK K
      refine takeK 5 rfl (by kernel_rfl) (by kernel_rfl) (by kernel_rfl) rfl (fun _ _ _ _ h => h) rfl (fun K hK => ?_)
      refine quiet_agg 52 (.tmp 12) rfl _ rfl P1 _ Try.underlying52 rfl (szPieceFrom04 HP1.out) (fun W' h => KeepB.cells h HK1.out rfl) ?_
      refine hK _ ?_
      simp only [Act.put, List.setIfInBounds_toArray, List.set_cons_succ, List.set_cons_zero]
      clear hK K
      refine takeK 6 rfl (by kernel_rfl) (by kernel_rfl) (by kernel_rfl) rfl (fun _ _ _ _ h => h) rfl (fun K hK => ?_)
      go_big_quiet_op
      first | refine hK _ ?_ | refine ⟨_, fun _ _ => rfl, hK _ ?_⟩
      clear hK K
      refine takeK 7 rfl (by kernel_rfl) (by kernel_rfl) (by kernel_rfl) rfl (fun _ _ _ _ h => h) rfl (fun K hK => ?_)
      go_big_quiet_op
      first | refine hK _ ?_ | refine ⟨_, fun _ _ => rfl, hK _ ?_⟩
      clear hK K
      refine takeK 8 rfl (by kernel_rfl) (by kernel_rfl) (by kernel_rfl) rfl (fun _ _ _ _ h => h) rfl (fun K hK => ?_)
      go_big_quiet_op
      first | refine hK _ ?_ | refine ⟨_, fun _ _ => rfl, hK _ ?_⟩
      clear hK K
      refine takeK 9 rfl (by kernel_rfl) (by kernel_rfl) (by kernel_rfl) rfl (fun _ _ _ _ h => h) rfl (fun K hK => ?_)
      refine quiet_agg 52 (.tmp 16) rfl _ rfl P2 _ Try.underlying52 rfl (szPieceFrom04 HP2.out) (fun W' h => KeepB.cells h HK2.out rfl) ?_
      refine hK _ ?_
      simp only [Act.put, List.setIfInBounds_toArray, List.set_cons_succ, List.set_cons_zero]
      clear hK K
      refine takeK 10 rfl (by kernel_rfl) (by kernel_rfl) (by kernel_rfl) rfl (fun _ _ _ _ h => h) rfl (fun K hK => ?_)
      go_big_quiet_op
      first | refine hK _ ?_ | refine ⟨_, fun _ _ => rfl, hK _ ?_⟩
      clear hK K
      refine takeK 11 rfl (by kernel_rfl) (by kernel_rfl) (by kernel_rfl) rfl (fun _ _ _ _ h => h) rfl (fun K hK => ?_)
      go_big_quiet_op
      first | refine hK _ ?_ | refine ⟨_, fun _ _ => rfl, hK _ ?_⟩
      clear hK K
      refine takeK 13 rfl (by kernel_rfl) (by kernel_rfl) (by kernel_rfl) rfl (fun _ _ _ _ h => h) rfl (fun K hK => ?_)
      go_big_quiet_op
      first | refine hK _ ?_ | refine ⟨_, fun _ _ => rfl, hK _ ?_⟩
      clear hK K
      refine stepM 12 rfl (by kernel_rfl) rfl (fun K hK => ?_)
      refine wp_store_part w0 31 (.tmp 19) (.tmp 13) rfl (w.heap.size + 2) (k * 16) rfl (mixAt C Z k) P1 _ rfl HB3.out (szPieceBFrom04 HP1.out) (by rw [mixAt_len, HP1.out]; omega) HO1.out ?_
      refine hK _ _ (fun b hb => (setRow_only _).block b (by have := HB1.out.lt; rcases hb with rfl; exact this) (by rcases hb with rfl; simp)) ?_
      clear hK K
      (try simp only [Act.put, List.setIfInBounds_toArray, List.set_cons_succ, List.set_cons_zero])
      refine takeK 14 rfl (by kernel_rfl) (by kernel_rfl) (by kernel_rfl) rfl (fun _ _ _ _ h => h) rfl (fun K hK => ?_)
      go_big_quiet_op
      first | refine hK _ ?_ | refine ⟨_, fun _ _ => rfl, hK _ ?_⟩
      clear hK K
      refine stepM 15 rfl (by kernel_rfl) rfl (fun K hK => ?_)
      refine wp_store_part _ 31 (.tmp 21) (.tmp 17) rfl (w.heap.size + 2) (512 + k * 16) rfl (putAt (mixAt C Z k) (k * 16) P1) P2 _ rfl (setRow_at HB3.out) (szPieceBFrom04 HP2.out) (by rw [putAt_len (by rw [mixAt_len, HP1.out]; omega), mixAt_len, HP2.out]; omega) HO2.out ?_
      refine hK _ _ (fun b hb => (setRow_only _).block b (by have := HB1.out.lt; rcases hb with rfl; simpa [World.setRow] using this) (by rcases hb with rfl; simp)) ?_
      clear hK K
      (try simp only [Act.put, List.setIfInBounds_toArray, List.set_cons_succ, List.set_cons_zero])
      refine doneM (by kernel_rfl) ?_ _
      have hx9 : Ext w ((w0.setRow (w.heap.size + 2) (putAt (mixAt C Z k) (k * 16) P1).toArray).setRow (w.heap.size + 2) (putAt (putAt (mixAt C Z k) (k * 16) P1) (512 + k * 16) P2).toArray) := grown_then (grown_then HX.out (setRow_only _) (.inr (by rintro b ⟨⟩; omega))) (setRow_only _) (.inr (by rintro b ⟨⟩; omega))
      have hb1 : Blk ((w0.setRow (w.heap.size + 2) (putAt (mixAt C Z k) (k * 16) P1).toArray).setRow (w.heap.size + 2) (putAt (putAt (mixAt C Z k) (k * 16) P1) (512 + k * 16) P2).toArray) w.heap.size 55 C := (HB1.out.keep (setRow_only _) (by simp)).keep (setRow_only _) (by simp)
      have hb2 : Blk ((w0.setRow (w.heap.size + 2) (putAt (mixAt C Z k) (k * 16) P1).toArray).setRow (w.heap.size + 2) (putAt (putAt (mixAt C Z k) (k * 16) P1) (512 + k * 16) P2).toArray) (w.heap.size + 1) 34 Z := (HB2.out.keep (setRow_only _) (by simp)).keep (setRow_only _) (by simp)
      have hb3 : Blk ((w0.setRow (w.heap.size + 2) (putAt (mixAt C Z k) (k * 16) P1).toArray).setRow (w.heap.size + 2) (putAt (putAt (mixAt C Z k) (k * 16) P1) (512 + k * 16) P2).toArray) (w.heap.size + 2) 34 (mixAt C Z (k + 1)) := by rw [← HST.out]; exact setRow_at (setRow_at HB3.out)
      generalize World.setRow _ _ _ = w9 at *
      have HX9 := Lib.hid hx9
      have HB91 := Lib.hid hb1
      have HB92 := Lib.hid hb2
      have HB93 := Lib.hid hb3
      clear hx9 hb1 hb2 hb3
      go_wp2
      go_roundw
      case rel => exact ⟨k + 1, by omega, by go_num, HX9.out, HB91.out, HB92.out, HB93.out, _, rfl⟩
      case measure => simp [intOf]; omega
    · obtain rfl : k = 32 := by omega
      rw [mixAt_all C Z HCL.out HZL.out] at hb3
      have hcm := hb3.cells
      have hr2 : wr.heap[w.heap.size + 1]? = some (.cells Z.toArray 34 (0, 0)) := hb2
      have HX := Lib.hid hx
      clear hx hb1 hb2 hb3
      go_wp2_with (first
        | (refine wpList_load_agg _ rfl 34 (.tmp 3) rfl _ rfl C _ Try.underlying34 rfl (szSigFrom04 HCL.out) hcm ?_)
        | (refine wpList_store_row _ rfl 34 (.tmp 2) (.tmp 23) rfl (w.heap.size + 1) rfl Z C _ rfl hr2 (szSigFrom04 HCL.out) (by rw [HCL.out, HZL.out]) hone ?_)
        | fail)
      have hc9 := Blk.cells (t := 34) (setRow_at (cs' := C.toArray) hr2)
      (try simp only [Exit.inBlock, Exit.then])
      refine bodyPost_ret (results_agg rfl _ _ _ _ _ rfl Try.underlying34 rfl (szSigFrom04 HCL.out) hc9) rfl ?_
      exact ⟨rfl, grown_then HX.out (setRow_only _) (.inr (by rintro b ⟨⟩; omega))⟩
theorem szInFrom05 {n : Nat} (h : n = 1024) : (Try.prog.info? 55).map (·.size) = some n := by subst h; kernel_rfl
theorem szOutFrom05 {n : Nat} (h : n = 1026) : (Try.prog.info? 37).map (·.size) = some n := by subst h; kernel_rfl
theorem szElFrom05 {n : Nat} (h : n = 32) : (Try.prog.info? 90).map (·.size) = some n := by subst h; kernel_rfl
theorem szEbFrom05 {n : Nat} (h : n = 32) : (Try.prog.info? 24).map (·.size) = some n := by subst h; kernel_rfl
theorem zElFrom05 : (Try.prog.info? 90).bind (fun i => i.zero.map (·.cells)) = some (List.replicate 32 (Value.int .u8 0)).toArray := by kernel_rfl
theorem zEbFrom05 : ((Try.prog.info? 24).bind (·.zero)).isSome = true := by kernel_rfl
theorem zOutFrom05 : (Try.prog.info? 37).bind (fun i => i.zero.map (·.cells)) = some (List.replicate 1024 (Value.int .u8 0) ++ [Value.int .u32 0, Value.slice none 0 0]).toArray := by kernel_rfl
theorem fieldsFrom05 : ∃ fields, Try.prog.underlying 37 = some (.struct fields) ∧ fields.toList.mapM (fun f => (Try.prog.info? f.type).map fun i => (f.offset, i.size)) = some [(0, 1024), (1024, 1), (1025, 1)] :=
  ⟨_, Try.underlying37, by kernel_rfl⟩
theorem partsFrom05 : ∃ (i : TypeInfo) (z : Value), Try.prog.info? 24 = some i ∧ i.zero = some z ∧ i.size = 32 ∧ i.bytes = 32 ∧ z.cells.size = 32 := by
  have h : ((Try.prog.info? 24).bind fun i => i.zero.map fun z => (i.size, i.bytes, z.cells.size)) = some (32, 32, 32) := by kernel_rfl
  obtain ⟨i, hi, h2⟩ := Option.bind_eq_some_iff.1 h
  obtain ⟨z, hz, h3⟩ := Option.map_eq_some_iff.1 h2
  have h4 : i.size = 32 ∧ i.bytes = 32 ∧ z.cells.size = 32 := by simpa using h3
  exact ⟨i, z, hi, hz, h4⟩
set_option maxRecDepth 100000 in
set_option maxHeartbeats 8000000 in
theorem From05 (C : List Value) (key : Nat) (u : Value) (ds : List Dg) (w : World) (F : Fp) (hC : C.length = 1024) (hone : ∀ u ∈ C, u.oneCell' = true) (hc : Ways w F u ds) (hF : ∀ b, F b → b < w.heap.size) (hlen : List.length (α := Dg) ds ≤ 1099511627776) :
    Calls Try.prog 29 #[.agg (sigC C key u).toArray] w fun e w' => ∃ v, e = .returned (.agg (sigC C key v).toArray) ∧ OwnD 24 w' v ds ∧ Ext w w' ∧ ∀ b, v.ownBlock = some b → w.heap.size ≤ b := by
  obtain ⟨i1, z1, hi1, hz1, hi2, hi3, hi4⟩ := partsFrom05
  obtain ⟨fields, hfu, hfp⟩ := fieldsFrom05
  obtain ⟨A, c, xs, rfl, hlc, hcm, hA, hcell, hall⟩ := ways_open hc
  clear hc
  unfold maxLen at hcm
  obtain ⟨ZR, hzr, hzl, hfl⟩ : ∃ ZR : List Value, (Try.prog.info? 37).bind (fun i => i.zero.map (·.cells)) = some ZR.toArray ∧ ZR.length = 1026 ∧ fillL ([(0, 1024), (1024, 1), (1025, 1)].toArray[·]?) ZR [(0, C), (1, [.int .u32 (key : Int)])] = some (sigC C key (.slice none 0 0)) := by
    refine ⟨_, zOutFrom05, by simp, ?_⟩
    simp [fillL, hC, sigC, List.drop_append]
  obtain ⟨ZE, hze, hzel⟩ : ∃ ZE : List Value, (Try.prog.info? 90).bind (fun i => i.zero.map (·.cells)) = some ZE.toArray ∧ ZE.length = 32 := ⟨_, zElFrom05, List.length_replicate⟩
  have HCL := Lib.hid hC
  have HZL := Lib.hid hzl
  have HFL := Lib.hid hfl
  have HZE := Lib.hid hzel
  generalize hU : Value.slice A (List.length (α := Dg) ds) c = u at *
  have hb1 : Blk ((w.alloc (.cells (sigC C key u).toArray 58)).alloc (.cells ZR.toArray 37)) w.heap.size 58 (sigC C key u) := (Blk.new _ _ _).keep ((Ext.refl _).alloc _) (by simp)
  have hb2 : Blk ((w.alloc (.cells (sigC C key u).toArray 58)).alloc (.cells ZR.toArray 37)) (w.heap.size + 1) 37 ZR := Blk.fresh (by simp) _ _
  have hx0 : Ext w ((w.alloc (.cells (sigC C key u).toArray 58)).alloc (.cells ZR.toArray 37)) := ((Ext.refl w).alloc _).alloc _
  have hsl : (sigC C key u)[1025]? = some (.slice A (List.length (α := Dg) ds) c) := by rw [hU]; exact sigC_way hC key u
  have hky := sigC_key hC key u
  have htk := sigC_take hC key u
  have hsl9 := sigC_len hC key u
  generalize sigC C key u = SC at *
  have HSL := Lib.hid hsl
  have HKEY := Lib.hid hky
  have HTK := Lib.hid htk
  have HB1 := Lib.hid hb1
  have HB2 := Lib.hid hb2
  have HX0 := Lib.hid hx0
  clear hC hzl hfl hzel hb1 hb2 hx0 hsl hky htk hU
  go_enter Try.func29, Try.ntmps29
  go_wp2_with (first
    | (refine wpList_alloc _ rfl 37 rfl _ hzr ?_)
    | fail)
  have hx : Ext w ((w.alloc (.cells SC.toArray 58)).alloc (.cells ZR.toArray 37)).drew := HX0.out.drew
  have hb1 : Blk ((w.alloc (.cells SC.toArray 58)).alloc (.cells ZR.toArray 37)).drew w.heap.size 58 SC := HB1.out
  have hb2 : Blk ((w.alloc (.cells SC.toArray 58)).alloc (.cells ZR.toArray 37)).drew (w.heap.size + 1) 37 ZR := HB2.out
  refine startM (KeepB fun b => b < ((w.alloc (.cells SC.toArray 58)).alloc (.cells ZR.toArray 37)).drew.heap.size) (by kernel_rfl) ?_
  (try simp only [Act.put, List.setIfInBounds_toArray, List.set_cons_succ, List.set_cons_zero])
  generalize ((w.alloc (.cells SC.toArray 58)).alloc (.cells ZR.toArray 37)).drew = w0 at *
  have hcc : Cells w0 ⟨w.heap.size, 0, none⟩ C := by have h := hb1.cells.take 1024; rw [HTK.out] at h; exact h
  have hky : w0.cell? ⟨w.heap.size, 1024, none⟩ = some (.int .u32 (key : Int)) := (hb1.cell 1024).trans HKEY.out
  have HBL := Lib.hid hb1.lt
  have HCC := Lib.hid hcc
  have HKY := Lib.hid hky
  have HB1 := Lib.hid hb1
  have HB2 := Lib.hid hb2
  have HX := Lib.hid hx
  have hJ := AJ.start w0 37 ZR
  have HJ := Lib.hid hJ
  clear hx hb1 hb2 hcc hky hJ
  apply sharedA (fun g W => AJ w0 37 ZR (some g) W)
  · intro hM
    refine takeK 0 rfl (by kernel_rfl) (by kernel_rfl) (by kernel_rfl) rfl (fun _ _ _ _ h => h) rfl (fun K hK => ?_)
    go_big_quiet_op
    first | refine hK _ ?_ | refine ⟨_, fun _ _ => rfl, hK _ ?_⟩
    clear hK K
    refine takeK 1 rfl (by kernel_rfl) (by kernel_rfl) (by kernel_rfl) rfl (fun _ _ _ _ h => h) rfl (fun K hK => ?_)
    refine quiet_agg 55 (.tmp 6) rfl _ rfl C _ Try.underlying55 rfl (szInFrom05 HCL.out) (fun W' h => KeepB.cells h HCC.out HBL.out) ?_
    refine hK _ ?_
    simp only [Act.put, List.setIfInBounds_toArray, List.set_cons_succ, List.set_cons_zero]
    clear hK K
    refine takeK 3 rfl (by kernel_rfl) (by kernel_rfl) (by kernel_rfl) rfl (fun _ _ _ _ h => h) rfl (fun K hK => ?_)
    go_big_quiet_op
    first | refine hK _ ?_ | refine ⟨_, fun _ _ => rfl, hK _ ?_⟩
    clear hK K
    refine takeK 4 rfl (by kernel_rfl) (by kernel_rfl) (by kernel_rfl) rfl (fun _ _ _ _ h => h) rfl (fun K hK => ?_)
    refine quiet_cell _ _ rfl _ rfl _ _ Try.underlying22 rfl (fun W' h => KeepB.cell h HKY.out HBL.out) ?_
    refine hK _ ?_
    simp only [Act.put, List.setIfInBounds_toArray, List.set_cons_succ, List.set_cons_zero]
    clear hK K
    refine bothM 2 6 rfl rfl (by kernel_rfl) rfl rfl (fun K hK => ?_) (fun K hK => ?_)
    · go_simp
      refine (From04 C _ HCL.out hone).mono ?_
      rintro e w6 ⟨rfl, hx6⟩
      have hkb := (HJ.out.step hx6).2
      have HJ := Lib.hid (HJ.out.step hx6).1
      refine hK _ _ (hkb) ?_
      clear hK K
      refine takeK 5 rfl (by kernel_rfl) (by kernel_rfl) (by kernel_rfl) rfl (fun _ _ _ _ h => h) rfl (fun K hK => ?_)
      refine quiet_build_st 37 #[(0, .tmp 8), (1, .tmp 10)] rfl fields ZR (sigC C key (.slice none 0 0)) _ _ hfu hzr hfp (by simp [Value.cells, Act.eval]) HFL.out ?_
      refine hK _ ?_
      simp only [Act.put, List.setIfInBounds_toArray, List.set_cons_succ, List.set_cons_zero]
      clear hK K
      refine stepM 6 rfl (by kernel_rfl) rfl (fun K hK => ?_)
      refine wp_alloc_agg 37 rfl ZR hzr ?_
      refine hK _ _ (HJ.out.keepAlloc _) ?_
      clear hK K
      (try simp only [Act.put, List.setIfInBounds_toArray, List.set_cons_succ, List.set_cons_zero])
      have HJ := Lib.hid HJ.out.alloc
      have hJf := HJ.out
      revert hJf
      generalize w6.alloc (.cells ZR.toArray 37) = W9
      generalize w6.heap.size = g9
      intro hJf
      exact hM g9 W9 hJf
    · refine wp_alloc_agg 37 rfl ZR hzr ?_
      refine hK _ _ (HJ.out.keepAlloc _) ?_
      clear hK K
      (try simp only [Act.put, List.setIfInBounds_toArray, List.set_cons_succ, List.set_cons_zero])
      have HJ := Lib.hid HJ.out.alloc
      refine stepM 2 rfl (by kernel_rfl) rfl (fun K hK => ?_)
      go_simp
      refine (From04 C _ HCL.out hone).mono ?_
      rintro e w6 ⟨rfl, hx6⟩
      have hkb := (HJ.out.step hx6).2
      have HJ := Lib.hid (HJ.out.step hx6).1
      refine hK _ _ (hkb) ?_
      clear hK K
      refine takeK 5 rfl (by kernel_rfl) (by kernel_rfl) (by kernel_rfl) rfl (fun _ _ _ _ h => h) rfl (fun K hK => ?_)
      refine quiet_build_st 37 #[(0, .tmp 8), (1, .tmp 10)] rfl fields ZR (sigC C key (.slice none 0 0)) _ _ hfu hzr hfp (by simp [Value.cells, Act.eval]) HFL.out ?_
      refine hK _ ?_
      simp only [Act.put, List.setIfInBounds_toArray, List.set_cons_succ, List.set_cons_zero]
      clear hK K
      refine relist (by kernel_rfl) (hM _ _ HJ.out)
  rintro g W hJ
  have HGB := Lib.hid (hJ.blk g rfl)
  have HJ := Lib.hid hJ
  clear hJ
  refine stepM 7 rfl (by kernel_rfl) rfl (fun K hK => ?_)
  refine wp_store_row 37 (.tmp 3) (.tmp 11) rfl g rfl ZR (sigC C key (.slice none 0 0)) _ rfl HGB.out.2 (szOutFrom05 (sigC_len HCL.out _ _)) (by rw [sigC_len HCL.out, HZL.out]) (sigC_one hone _ _ _ _) ?_
  refine hK _ _ (fun b hb => (setRow_only _).block _ (Nat.lt_of_lt_of_le hb HJ.out.ext.size) (by have := HGB.out.1; simp; omega)) ?_
  clear hK K
  (try simp only [Act.put, List.setIfInBounds_toArray, List.set_cons_succ, List.set_cons_zero])
  refine doneM (by kernel_rfl) ?_ _
  have hg0 := HGB.out.1
  have hx0 := HX.out.size
  have hbl := HB2.out.lt
  have hx9 : Ext w (W.setRow g (sigC C key (.slice none 0 0)).toArray) := grown_then (HX.out.trans HJ.out.ext) (setRow_only _) (.inr (by rintro b ⟨⟩; omega))
  have hb1 : Blk (W.setRow g (sigC C key (.slice none 0 0)).toArray) w.heap.size 58 SC := (HB1.out.keep HJ.out.ext (by simp)).keep (setRow_only _) (by simp; omega)
  have hb2 : Blk (W.setRow g (sigC C key (.slice none 0 0)).toArray) (w.heap.size + 1) 37 ZR := (HB2.out.keep HJ.out.ext (by simp)).keep (setRow_only _) (by simp; omega)
  have hb3 : Blk (W.setRow g (sigC C key (.slice none 0 0)).toArray) g 37 (sigC C key (.slice none 0 0)) := setRow_at HGB.out.2
  have hgg : w.heap.size + 1 < g := by omega
  generalize W.setRow g (sigC C key (.slice none 0 0)).toArray = w1 at *
  have c13 : w1.cell? ⟨w.heap.size, 1025, none⟩ = some (.slice A (List.length (α := Dg) ds) c) := (hb1.cell 1025).trans HSL.out
  have HX1 := Lib.hid hx9
  have HB91 := Lib.hid hb1
  have HB92 := Lib.hid hb2
  have HB93 := Lib.hid hb3
  clear hx9 hb1 hb2 hb3 HX HB1 HB2 HJ HGB HCC HKY HBL hg0 hx0 hbl
  go_wp2
  go_loopw [5, 15] (fun p i wr => ∃ (k : Nat) (v : Value), k ≤ List.length (α := Dg) ds ∧ i = .int .i64 k ∧ Ext w wr ∧ Blk wr (w.heap.size + 1) 37 ZR ∧ Blk wr g 37 (sigC C key v) ∧ OwnD 24 wr v (ds.take k) ∧ (∀ b, v.ownBlock = some b → w.heap.size + 2 ≤ b ∧ b ≠ g) ∧ ∃ q, p = q) (fun _ i _ => List.length (α := Dg) ds - (intOf i).toNat)
  case atStart => exact ⟨0, .slice none 0 0, by omega, rfl, HX1.out, HB92.out, HB93.out, ⟨by simp, Own.nil _ _ _⟩, by simp [Value.ownBlock], _, rfl⟩
  case round =>
    clear HX1 HB91 HB92 HB93 c13
    obtain ⟨k, v, hk, rfl, hx, hb2, hb3, hov, hfar, q, rfl⟩ := hrel
    by_cases hlt : k < List.length (α := Dg) ds
    · obtain ⟨ad, rfl, hf, hcells⟩ := hcell (by omega)
      obtain ⟨hcc, hdl⟩ := digs_at hall (hcells.keep (hx.same hF _ hf)) hlt
      have htk : ds.take (k + 1) = ds.take k ++ [ds[k]] := List.take_succ_eq_append_getElem hlt
      have htl : List.length (α := Dg) (ds.take k) = k := by rw [List.length_take]; omega
      have hone3 := bv_one ds[k]
      have hD : (bv ds[k]).length = 32 := by simpa using hdl
      generalize hdk : ds[k] = dk at *
      generalize hDE : bv dk = D at *
      have hvw := (hb3.cell 1025).trans (sigC_way HCL.out key v)
      have hb3' : Blk (wr.alloc (.cells D.toArray 90)) g 37 (sigC C key v) := hb3.keep ((Ext.refl _).alloc _) (by simp)
      have hvw' : (wr.alloc (.cells D.toArray 90)).cell? ⟨g, 1025, none⟩ = some v := (hb3'.cell 1025).trans (sigC_way HCL.out key v)
      have hcd : Cells (wr.alloc (.cells D.toArray 90)) ⟨wr.heap.size, 0, none⟩ D := (Blk.new wr 90 D).cells
      have hxa : Ext wr ((wr.alloc (.cells D.toArray 90)).alloc (.cells D.toArray 24)) := ((Ext.refl wr).alloc _).alloc _
      have HXA := Lib.hid hxa
      have HX := Lib.hid hx
      have HB2 := Lib.hid hb2
      have HB3 := Lib.hid hb3
      have HOV := Lib.hid hov
      have HFAR := Lib.hid hfar
      have HDL := Lib.hid hD
      have HTK := Lib.hid htk
      have how : Own wr 24 32 v k ((ds.take k).flatMap bv) := by have h := HOV.out.2; rw [htl] at h; exact h
      have HOW := Lib.hid how
      have HTL := Lib.hid htl
      have HDE := Lib.hid hDE
      have HDL2 := Lib.hid hdl
      clear how hx hb2 hb3 hov hfar hD htk htl hDE hdl hcells hb3' hxa hvw hdk
      go_wp2_with (first
        | (refine wpList_load_agg _ rfl 90 (.tmp 17) rfl _ rfl D _ Try.underlying90 rfl (szElFrom05 HDL.out) hcc ?_)
        | (refine wpList_alloc _ rfl 90 rfl _ hze ?_)
        | (refine wpList_store_new _ rfl 90 (.tmp 5) (.tmp 18) rfl rfl ZE D _ rfl (szElFrom05 HDL.out) (by rw [HDL.out, HZE.out]) hone3 ?_)
        | (refine wpList_load_agg _ rfl 90 (.tmp 5) rfl _ rfl D _ Try.underlying90 rfl (szElFrom05 HDL.out) hcd ?_)
        | (refine wpList_one _ rfl 35 (.tmp 21) rfl 24 D Try.underlying35 rfl (szEbFrom05 HDL.out) zEbFrom05 (by rw [HDL.out]; decide) (by rw [HDL.out]; decide) ?_)
        | (at_builtin
           go_must (refine wpList_app _ rfl (.tmp 20) (.tmp 22) _ _ rfl 24 24 i1 z1 32 32 Try.underlying35 Try.underlying35 hi1 hz1 hi2 hi3 hi4 (by decide) v _ _ rfl (HOW.out.ext HXA.out) _ 1 1 D rfl (by rw [HDL.out]) (src_at rfl D _ 1) hone3 (by unfold maxLen; omega) (by omega) ?_)
           intro v7 w7 ho7 hm7
           obtain ⟨A7, c7, hv7⟩ := Own.form ho7
           subst hv7
           have HB7 := Lib.hid ((HB3.out.keep HXA.out (by simp)).keep hm7.grown (fun e => (HFAR.out _ e.symm).2 rfl))
           have s9 : w7.cell? ⟨g, 1025, none⟩ = some v := (HB7.out.cell 1025).trans (sigC_way HCL.out key v)
           have f9 : w7.frozen? ⟨g, 1025, none⟩ = false := HB7.out.free 1025)
        | fail)
      have far7 : ∀ b, (Value.slice A7 (k + 1) c7).ownBlock = some b → w.heap.size + 2 ≤ b ∧ b ≠ g := fun b hb => by
        rcases hm7.at_ with e | hn
        · exact HFAR.out b (e.symm.trans hb)
        · have h1 := hn b hb
          have h2 := HB3.out.lt
          have h3 := HX.out.size
          simp at h1
          omega
      have ne : ∀ x, (x < w.heap.size + 2 ∨ x = g) → some x ≠ v.ownBlock := fun x hx e => by have := HFAR.out x e.symm; omega
      have hx8 : Ext w (w7.setCell ⟨g, 1025, none⟩ (.slice A7 (k + 1) c7)) := grown_then (grown_then (HX.out.trans HXA.out) hm7.grown (.inr fun x hx => by have := HFAR.out x hx; omega)) (only_set 1025 _) (.inr (by rintro b ⟨⟩; omega))
      have hb28 : Blk (w7.setCell ⟨g, 1025, none⟩ (.slice A7 (k + 1) c7)) (w.heap.size + 1) 37 ZR := ((HB2.out.keep HXA.out (by simp)).keep hm7.grown (ne _ (.inl (by omega)))).keep (only_set 1025 _) (by simp; omega)
      have hb38 : Blk (w7.setCell ⟨g, 1025, none⟩ (.slice A7 (k + 1) c7)) g 37 (sigC C key (.slice A7 (k + 1) c7)) := by
        have := HB7.out.set 1025 (.slice A7 (k + 1) c7)
        rwa [sigC_set HCL.out] at this
      have ho8 : OwnD 24 (w7.setCell ⟨g, 1025, none⟩ (.slice A7 (k + 1) c7)) (.slice A7 (k + 1) c7) (ds.take (k + 1)) := by
        rw [HTK.out]
        refine ⟨fun d hd => ?_, ?_⟩
        · rcases List.mem_append.1 hd with hd | hd
          · exact HOV.out.1 d hd
          · rw [List.mem_singleton.1 hd]; exact HDL2.out
        · have e1 : (ds.take k ++ [dk]).flatMap bv = (ds.take k).flatMap bv ++ D := by rw [← HDE.out]; simp
          have e2 : List.length (α := Dg) (ds.take k ++ [dk]) = k + 1 := by rw [List.length_append, HTL.out]; rfl
          rw [e1, e2]
          refine ho7.keep (row := some g) (only_set 1025 _) ?_
          cases hvb : (Value.slice A7 (k + 1) c7).ownBlock with
          | none => exact .inl rfl
          | some b => exact .inr (by have := (far7 b hvb).2; simpa using this)
      have HX8 := Lib.hid hx8
      have HB28 := Lib.hid hb28
      have HB38 := Lib.hid hb38
      have HO8 := Lib.hid ho8
      have HF8 := Lib.hid far7
      go_roundw
      case rel => exact ⟨k + 1, _, by omega, by go_num, HX8.out, HB28.out, HB38.out, HO8.out, HF8.out, _, rfl⟩
      case measure => simp [intOf]; omega
    · obtain rfl : k = List.length (α := Dg) ds := by omega
      have htk : ds.take (List.length (α := Dg) ds) = ds := List.take_length
      rw [htk] at hov
      have hcm := hb3.cells
      have hr2 : wr.heap[w.heap.size + 1]? = some (.cells ZR.toArray 37 (0, 0)) := hb2
      have hml := sigC_len HCL.out key v
      have hmone : ∀ u ∈ sigC C key v, u.oneCell' = true := by obtain ⟨A2, c2, h⟩ := hov.2.form; rw [h]; exact sigC_one hone _ _ _ _
      obtain ⟨M, hM⟩ : ∃ M, M = sigC C key v := ⟨_, rfl⟩
      rw [← hM] at hcm hml hmone
      have HM := Lib.hid hM
      have HX := Lib.hid hx
      have HOV := Lib.hid hov
      have HML := Lib.hid hml
      have HFAR := Lib.hid hfar
      clear hx hb2 hb3 hov hml hM hfar htk
      go_wp2_with (first
        | (refine wpList_load_agg _ rfl 37 (.tmp 3) rfl _ rfl M _ Try.underlying37 rfl (szOutFrom05 HML.out) hcm ?_)
        | (refine wpList_store_row _ rfl 37 (.tmp 2) (.tmp 26) rfl (w.heap.size + 1) rfl ZR M _ rfl hr2 (szOutFrom05 HML.out) (by rw [HML.out, HZL.out]) hmone ?_)
        | fail)
      have hc9 := Blk.cells (t := 37) (setRow_at (cs' := M.toArray) hr2)
      (try simp only [Exit.inBlock, Exit.then])
      refine bodyPost_ret (results_agg rfl _ _ _ _ _ rfl Try.underlying37 rfl (szOutFrom05 HML.out) hc9) rfl ?_
      refine ⟨v, by rw [HM.out], ⟨HOV.out.1, HOV.out.2.keep (row := some (w.heap.size + 1)) (setRow_only _) ?_⟩, grown_then HX.out (setRow_only _) (.inr (by rintro b ⟨⟩; omega)), fun b hb => by have := HFAR.out b hb; omega⟩
      cases hvb : v.ownBlock with
      | none => exact .inl rfl
      | some b => exact .inr (by have := (HFAR.out b hvb).1; simp; omega)
end Go.Proofs.Ytemladlnpaaefaa

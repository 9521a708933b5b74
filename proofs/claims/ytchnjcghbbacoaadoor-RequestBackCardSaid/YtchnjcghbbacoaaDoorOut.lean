/- Walks of octet.Out. -/
import Derived.Test.YtchnjcghbbacoaaDoorByt
set_option linter.unusedVariables false
set_option linter.unusedSimpArgs false
set_option linter.unnecessarySimpa false
namespace Go.Proofs.YtchnjcghbbacoaaDoor
open Go.RowKit
set_option maxRecDepth 100000 in
set_option maxHeartbeats 400000 in
theorem Out_num (v : Value) (bs : List UInt8) (n size : Nat) (w : World) (ho : OwnB w v bs) (_hn : n < 18446744073709551616) (hs : size ≤ 8) (hb : bs.length + size ≤ 140737488355328) :
    Calls Tryd.prog 37 #[v, .int .u64 n, .int .i64 size] w fun e w' => ∃ v', e = .returned v' ∧ OwnB w' v' (bs ++ be size n) ∧ Moved w w' v v' := by
  obtain ⟨i0, hi, hz0, hz1, hz2⟩ := info_parts u8_info
  go_enter Tryd.func37, Tryd.ntmps37
  go_wp2
  go_loopw [0, 7] (fun vr i wr => ∃ j : Nat, j ≤ size ∧ i = .int .i64 ((j : Int) - 1) ∧ OwnB wr vr (bs ++ beTop size j n) ∧ Moved w wr v vr) (fun _ i _ => (intOf i + 1).toNat)
  case atStart => exact ⟨size, by omega, rfl, by simpa [beTop] using ho, Moved.refl _ _⟩
  case round =>
    obtain ⟨j, hj, rfl, hor, hmr⟩ := hrel
    have hl := beTop_length size j n
    have hll : (bs ++ beTop size j n).length + j ≤ bs.length + size := by simp; omega
    by_cases hlt : 0 < j
    · go_wp2_with (at_builtin; refine wpList_app1 wr rfl (.tmp 14) (.tmp 20) _ _ rfl _ _ 5 i0 _ 1 1 Tryd.underlying44 Tryd.underlying44 hi hz0 hz1 hz2 rfl (by decide) _ _ _ [.int .u8 ((n : Int) / 2 ^ (8 * (j - 1)) % 256)] rfl hor rfl rfl (by simp [Value.oneCell']) (by unfold maxLen; omega) (by omega) ?_; intro v' w1 ho1 hm1)
      go_roundw
      case rel =>
        refine ⟨j - 1, by omega, by rw [show ((j - 1 : Nat) : Int) = (j : Int) - 1 by omega], ?_, hmr.trans hm1⟩
        rw [beTop_step size j n hlt hj, ← List.append_assoc]
        exact OwnB.snoc ho1 (be_byte n j)
      case measure => simp [intOf]; omega
    · obtain rfl : j = 0 := by omega
      go_wp2
      go_ret
      exact ⟨_, rfl, by simpa [beTop, List.take_of_length_le, be_length] using hor, hmr⟩
set_option maxRecDepth 100000 in
set_option maxHeartbeats 400000 in
theorem Out_Eight (v vl : Value) (bs : List UInt8) (l : List Nat) (w : World) (F : Fp) (ho : OwnB w v bs) (hl : (Ty.sl (.nat .u64)).holds w F [vl] l) (hF : Far F w v) (hb : bs.length + 8 * l.length ≤ 140737488355328) :
    Calls Tryd.prog 14 #[v, vl] w fun e w' => ∃ v', e = .returned v' ∧ OwnB w' v' (bs ++ l.flatMap (be 8)) ∧ Moved w w' v v' := by
  obtain ⟨A, c, xs, hv, hlc, hc, _, hcell, hall⟩ := hl
  cases hv
  unfold maxLen at hc
  go_enter Tryd.func14, Tryd.ntmps14
  go_wp2
  go_loopw [0, 9] (fun vr i wr => ∃ k : Nat, k ≤ l.length ∧ i = .int .i64 k ∧ OwnB wr vr (bs ++ (l.take k).flatMap (be 8)) ∧ Moved w wr v vr) (fun _ i _ => l.length - (intOf i).toNat)
  case atStart => exact ⟨0, by omega, rfl, by simpa using ho, Moved.refl _ _⟩
  case round =>
    obtain ⟨k, hk, rfl, hor, hmr⟩ := hrel
    have hll : (bs ++ (l.take k).flatMap (be 8)).length = bs.length + 8 * k := by rw [List.length_append, be_flat]; simp; omega
    by_cases hlt : k < l.length
    · obtain ⟨ad, rfl, hf, hcells⟩ := hcell (by rintro rfl; simp at hlt)
      obtain ⟨hx, hwf⟩ := AllH.nat_at hall hlt
      have hcx := (hcells.keep (hmr.same hF _ hf)) k _ hx
      have hbd := bounds_u64 hwf
      clear hwf hx
      go_wp2_with fail
      refine (Out_num _ _ _ 8 _ hor (by omega) (by omega) (by omega)).mono ?_
      rintro e w1 ⟨v1, rfl, ho1, hm1⟩
      go_wp2
      go_roundw
      case rel => exact ⟨k + 1, by omega, by go_num, by rw [flat_step _ _ _ hlt, ← List.append_assoc]; exact ho1, hmr.trans hm1⟩
      case measure => simp [intOf]; omega
    · obtain rfl : k = l.length := by omega
      go_wp2
      go_ret
      exact ⟨_, rfl, by simpa using hor, hmr⟩
set_option maxRecDepth 100000 in
set_option maxHeartbeats 400000 in
theorem Out_Four (v vl : Value) (bs : List UInt8) (l : List Nat) (w : World) (F : Fp) (ho : OwnB w v bs) (hl : (Ty.sl (.nat .u32)).holds w F [vl] l) (hF : Far F w v) (hb : bs.length + 4 * l.length ≤ 140737488355328) :
    Calls Tryd.prog 38 #[v, vl] w fun e w' => ∃ v', e = .returned v' ∧ OwnB w' v' (bs ++ l.flatMap (be 4)) ∧ Moved w w' v v' := by
  obtain ⟨A, c, xs, hv, hlc, hc, _, hcell, hall⟩ := hl
  cases hv
  unfold maxLen at hc
  go_enter Tryd.func38, Tryd.ntmps38
  go_wp2
  go_loopw [0, 9] (fun vr i wr => ∃ k : Nat, k ≤ l.length ∧ i = .int .i64 k ∧ OwnB wr vr (bs ++ (l.take k).flatMap (be 4)) ∧ Moved w wr v vr) (fun _ i _ => l.length - (intOf i).toNat)
  case atStart => exact ⟨0, by omega, rfl, by simpa using ho, Moved.refl _ _⟩
  case round =>
    obtain ⟨k, hk, rfl, hor, hmr⟩ := hrel
    have hll : (bs ++ (l.take k).flatMap (be 4)).length = bs.length + 4 * k := by rw [List.length_append, be_flat]; simp; omega
    by_cases hlt : k < l.length
    · obtain ⟨ad, rfl, hf, hcells⟩ := hcell (by rintro rfl; simp at hlt)
      obtain ⟨hx, hwf⟩ := AllH.nat_at hall hlt
      have hcx := (hcells.keep (hmr.same hF _ hf)) k _ hx
      have hbd := bounds_u32 hwf
      clear hwf hx
      go_wp2_with fail
      refine (Out_num _ _ _ 4 _ hor (by omega) (by omega) (by omega)).mono ?_
      rintro e w1 ⟨v1, rfl, ho1, hm1⟩
      go_wp2
      go_roundw
      case rel => exact ⟨k + 1, by omega, by go_num, by rw [flat_step _ _ _ hlt, ← List.append_assoc]; exact ho1, hmr.trans hm1⟩
      case measure => simp [intOf]; omega
    · obtain rfl : k = l.length := by omega
      go_wp2
      go_ret
      exact ⟨_, rfl, by simpa using hor, hmr⟩
set_option maxRecDepth 100000 in
set_option maxHeartbeats 400000 in
theorem Out_One (v vl : Value) (bs : List UInt8) (l : List UInt8) (w : World) (F : Fp) (ho : OwnB w v bs) (hl : (Ty.sl .u8).holds w F [vl] l) (hb : bs.length + l.length ≤ 140737488355328) :
    Calls Tryd.prog 13 #[v, vl] w fun e w' => ∃ v', e = .returned v' ∧ OwnB w' v' (bs ++ l) ∧ Moved w w' v v' := by
  obtain ⟨i0, hi, hz0, hz1, hz2⟩ := info_parts u8_info
  obtain ⟨A, c, xs, hv, hlc, hc, hA, hcell, hall⟩ := hl
  cases hv
  have hsrc := src_bytes (w := w) (F := F) (A := A) (c := c) (l := l) ⟨A, c, xs, rfl, hlc, hc, hA, hcell, hall⟩
  go_enter Tryd.func13, Tryd.ntmps13
  go_wp2_with (at_builtin; refine wpList_app w rfl (.tmp 5) (.tmp 6) _ _ rfl _ _ i0 _ 1 1 Tryd.underlying44 Tryd.underlying40 hi hz0 hz1 hz2 rfl (by decide) _ _ _ rfl ho _ _ _ (bv l) rfl (by simp) hsrc (bv_one _) (by unfold maxLen; omega) (by omega) ?_; intro v' w1 ho1 hm1)
  go_ret
  exact ⟨_, rfl, OwnB.app ho1, hm1⟩
theorem zero32 : (Tryd.prog.info? 48).bind (fun i => i.zero.map (·.cells)) = some (bv (List.replicate 32 0)).toArray := by kernel_rfl
set_option maxRecDepth 100000 in
set_option maxHeartbeats 400000 in
theorem Out_Sum (v vl : Value) (bs : List UInt8) (l : List (List UInt8)) (w : World) (F : Fp) (ho : OwnB w v bs) (hl : (Ty.sl (.arr 32 .u8)).holds w F [vl] l) (hF : Far F w v) (hb : bs.length + 32 * l.length ≤ 140737488355328) :
    Calls Tryd.prog 15 #[v, vl] w fun e w' => ∃ v', e = .returned v' ∧ OwnB w' v' (bs ++ l.flatMap id) ∧ Moved w w' v v' := by
  obtain ⟨i0, hi, hz0, hz1, hz2⟩ := info_parts u8_info
  obtain ⟨A, c, xs, hv, hlc, hc, _, hcell, hall⟩ := hl
  cases hv
  unfold maxLen at hc
  go_enter Tryd.func15, Tryd.ntmps15
  go_wp2
  go_loopw [0, 9] (fun vr i wr => ∃ k : Nat, k ≤ l.length ∧ i = .int .i64 k ∧ OwnB wr vr (bs ++ (l.take k).flatMap id) ∧ (bs ++ (l.take k).flatMap id).length = bs.length + 32 * k ∧ Moved w wr v vr) (fun _ i _ => l.length - (intOf i).toNat)
  case atStart => exact ⟨0, by omega, rfl, by simpa using ho, by simp, Moved.refl _ _⟩
  case round =>
    obtain ⟨k, hk, rfl, hor, hll, hmr⟩ := hrel
    by_cases hlt : k < l.length
    · obtain ⟨ad, rfl, hf, hcells⟩ := hcell (by rintro rfl; simp at hlt)
      obtain ⟨h32, hx⟩ := AllH.elem hall hlt
      have hx := AllH.bytes.1 hx
      have hcx : Cells wr (ad.add (k * 32)) (bv l[k]) := by rw [← hx]; exact ((hcells.keep (hmr.same hF _ hf)).drop _).take _
      have HL := Lib.hid hll
      have H32 := Lib.hid h32
      clear hx hcells hll h32
      go_wp2_with (first
        | (refine wpList_load_agg _ rfl 48 (.tmp 11) rfl _ rfl (bv l[k]) _ Tryd.underlying48 rfl (by rw [bv_length, H32.out]; kernel_rfl) hcx ?_)
        | (refine wpList_alloc _ rfl 48 rfl _ zero32 ?_)
        | (refine wpList_store_new _ rfl 48 (.tmp 6) (.tmp 12) rfl rfl _ (bv l[k]) _ rfl (by rw [bv_length, H32.out]; kernel_rfl) (by simp [H32.out]) (bv_one _) ?_)
        | (at_builtin; refine wpList_app _ rfl (.tmp 13) (.tmp 14) _ _ rfl _ _ i0 _ 1 1 Tryd.underlying44 Tryd.underlying40 hi hz0 hz1 hz2 rfl (by decide) _ _ _ rfl (hor.ext ((Ext.refl _).alloc _)) _ _ _ (bv l[k]) rfl (by simp [H32.out]) (src_new _ _ _ _) (bv_one _) (by unfold maxLen; rw [HL.out]; omega) (by rw [HL.out]; omega) ?_; intro v1 w1 ho1 hm1))
      have hm2 := hmr.trans (Moved.pre ((Ext.refl _).alloc _) hm1)
      go_roundw
      case rel => exact ⟨k + 1, by omega, by go_num, by rw [flat_step _ _ _ hlt, ← List.append_assoc]; exact OwnB.app (by rw [show (id l[k]).length = 32 from H32.out]; exact ho1), by rw [flat_step _ _ _ hlt, ← List.append_assoc, List.length_append, HL.out]; simp only [id]; rw [H32.out]; omega, hm2⟩
      case measure => simp [intOf]; omega
    · obtain rfl : k = l.length := by omega
      clear hll
      go_wp2
      go_ret
      exact ⟨_, rfl, by simpa using hor, hmr⟩
theorem OwnB_blob {w : World} {v : Value} {a p : List UInt8} (h : OwnB w v (a ++ [p.length].flatMap (be 4) ++ p)) : OwnB w v (a ++ blob p) := by
  simpa [blob] using h
set_option maxRecDepth 100000 in
set_option maxHeartbeats 400000 in
theorem Out_Blob (v vl : Value) (bs : List UInt8) (l : List (List UInt8)) (w : World) (F : Fp) (ho : OwnB w v bs) (hl : (Ty.sl (.sl .u8)).holds w F [vl] l) (hF : Far F w v) (h32 : ∀ p ∈ l, p.length < 4294967296) (hb : bs.length + (l.flatMap blob).length ≤ 140737488355328) :
    Calls Tryd.prog 16 #[v, vl] w fun e w' => ∃ v', e = .returned v' ∧ OwnB w' v' (bs ++ l.flatMap blob) ∧ Moved w w' v v' := by
  obtain ⟨i0, hi, hz0, hz1, hz2⟩ := info_parts u8_info
  obtain ⟨A, c, xs, hv, hlc, hc, _, hcell, hall⟩ := hl
  cases hv
  unfold maxLen at hc
  go_enter Tryd.func16, Tryd.ntmps16
  go_wp2
  go_loopw [0, 9] (fun vr i wr => ∃ k : Nat, k ≤ l.length ∧ i = .int .i64 k ∧ OwnB wr vr (bs ++ (l.take k).flatMap blob) ∧ Moved w wr v vr) (fun _ i _ => l.length - (intOf i).toNat)
  case atStart => exact ⟨0, by omega, rfl, by simpa using ho, Moved.refl _ _⟩
  case round =>
    obtain ⟨k, hk, rfl, hor, hmr⟩ := hrel
    by_cases hlt : k < l.length
    · obtain ⟨ad, rfl, hf, hcells⟩ := hcell (by rintro rfl; simp at hlt)
      obtain ⟨y, hy, hyh⟩ := AllH.sl_at hall hlt
      have hFr := hmr.far hF
      have hcx := (hcells.keep (hmr.same hF _ hf)) k _ hy
      have hyh0 := hmr.holds hF hyh
      have hyh1 := hyh0
      obtain ⟨A1, c1, xs1, hv1, hlc1, hc1, hA1, hcell1, hall1⟩ := hyh1
      cases hv1
      unfold maxLen at hc1
      have hL := h32 l[k] (List.getElem_mem hlt)
      have hbd := flat_len_step blob l k hlt
      have hbl : (blob l[k]).length = 4 + l[k].length := by simp [blob, be_length]
      have HBL := Lib.hid hbl
      rw [hbl] at hbd
      clear hy hbl
      go_wp2_with fail
      refine (Out_Four _ _ _ [l[k].length] _ _ (hor.ext ((Ext.refl _).alloc _)) (sl_made (F := fun b => b = wr.heap.size) rfl rfl rfl (by simp [maxLen]) (one_nat (WalkArith.wf_u32 (by omega)))) (hor.new _) (by simp only [List.length_append, List.length_cons, List.length_nil]; omega)).mono ?_
      rintro e w1 ⟨v1, rfl, ho1, hm1⟩
      have hm2 : Moved wr w1 _ v1 := Moved.pre ((Ext.refl _).alloc _) hm1
      have hsrc := src_bytes (hm2.holds hFr hyh0)
      have hl1 : (bs ++ (l.take k).flatMap blob ++ [l[k].length].flatMap (be 4)).length = bs.length + ((l.take k).flatMap blob).length + 4 := by
        simp only [List.length_append, be_flat, List.length_cons, List.length_nil]
      have HL := Lib.hid hl1
      clear hl1
      go_wp2_with (at_builtin; refine wpList_app _ rfl (.tmp 18) (.tmp 19) _ _ rfl _ _ i0 _ 1 1 Tryd.underlying44 Tryd.underlying40 hi hz0 hz1 hz2 rfl (by decide) _ _ _ rfl ho1 _ _ _ (bv l[k]) rfl (by simp) hsrc (bv_one _) (by unfold maxLen; rw [HL.out]; omega) (by rw [HL.out]; omega) ?_; intro v2 w2 ho2 hm3)
      have hm4 := hmr.trans (hm2.trans hm3)
      go_roundw
      case rel => exact ⟨k + 1, by omega, by go_num, by rw [flat_step _ _ _ hlt, ← List.append_assoc]; exact OwnB_blob (OwnB.app ho2), hm4⟩
      case measure => simp [intOf]; omega
    · obtain rfl : k = l.length := by omega
      go_wp2
      go_ret
      exact ⟨_, rfl, by simpa using hor, hmr⟩
end Go.Proofs.YtchnjcghbbacoaaDoor

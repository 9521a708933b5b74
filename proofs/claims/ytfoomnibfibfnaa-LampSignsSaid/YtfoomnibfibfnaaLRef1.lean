/- The walks of the document's first and Bit of layer 4. Conditions: the digest has its length. -/
import Derived.Test.YtfoomnibfibfnaaLAwake
set_option linter.unusedVariables false
set_option linter.unusedSimpArgs false
set_option linter.unnecessarySimpa false
namespace Go.Proofs.Ytfoomnibfibfnaa
open Go.RowKit

theorem rpiece_zero : (Try.prog.info? 35).bind (fun i => i.zero.map (·.cells)) = some (bv (List.replicate 16 0)).toArray := by kernel_rfl
theorem rpiece_size {n : Nat} (h : n = 16) : (Try.prog.info? 35).map (·.size) = some n := by subst h; kernel_rfl
def mixB (D : List UInt8) (Z : List Value) (k : Nat) : List Value := bv (D.take k) ++ Z.drop k
theorem mixB_step {D : List UInt8} {Z : List Value} {k n : Nat} (hD : n ≤ D.length) (hZ : Z.length = n) (hk : k < n) : (mixB D Z k).set k (.int .u8 ((D.getD k 0).toNat : Int)) = mixB D Z (k + 1) := by
  have hl : (bv (D.take k)).length = k := by rw [bv_length, List.length_take]; omega
  unfold mixB
  rw [List.set_append_right _ _ (by omega), hl, Nat.sub_self, List.drop_eq_getElem_cons (show k < Z.length by omega), List.set_cons_zero, List.take_add_one, bv_append, List.append_assoc]
  have e : D[k]? = some (D.getD k 0) := by simp [List.getD, show k < D.length by omega]
  rw [e]
  rfl
theorem mixB_len {D : List UInt8} {Z : List Value} {k n : Nat} (hD : n ≤ D.length) (hZ : Z.length = n) (hk : k ≤ n) : (mixB D Z k).length = n := by
  unfold mixB; rw [List.length_append, bv_length, List.length_take, List.length_drop]; omega
set_option maxRecDepth 100000 in
set_option maxHeartbeats 1000000 in
theorem RFirst (D : List UInt8) (hD : D.length = 32) (w : World) :
    Calls Try.prog 44 #[.agg (bv D).toArray] w fun e w' => e = .returned (.agg (bv (D.take 16)).toArray) ∧ Ext w w' := by
  obtain ⟨Z, hz, hzl⟩ : ∃ Z : List Value, (Try.prog.info? 35).bind (fun i => i.zero.map (·.cells)) = some Z.toArray ∧ Z.length = 16 := ⟨_, rpiece_zero, by simp⟩
  have hcell : ∀ k, k < 32 → (bv D)[k]? = some (.int .u8 ((D.getD k 0).toNat : Int)) := fun k hk => by simp [bv, List.getD, show k < D.length by omega]
  have hb0 : Blk (((w.alloc (.cells (bv D).toArray 22)).alloc (.cells Z.toArray 35)).alloc (.cells Z.toArray 35)) w.heap.size 22 (bv D) := ((Blk.new _ _ _).keep ((Ext.refl _).alloc _) (by simp)).keep ((Ext.refl _).alloc _) (by simp)
  have hb1 : Blk (((w.alloc (.cells (bv D).toArray 22)).alloc (.cells Z.toArray 35)).alloc (.cells Z.toArray 35)) (w.heap.size + 1) 35 Z := (Blk.fresh (by simp) _ _).keep ((Ext.refl _).alloc _) (by simp)
  have hb2 : Blk (((w.alloc (.cells (bv D).toArray 22)).alloc (.cells Z.toArray 35)).alloc (.cells Z.toArray 35)) (w.heap.size + 1 + 1) 35 Z := Blk.fresh (by simp) _ _
  have hx0 : Ext w (((w.alloc (.cells (bv D).toArray 22)).alloc (.cells Z.toArray 35)).alloc (.cells Z.toArray 35)) := (((Ext.refl w).alloc _).alloc _).alloc _
  have hst := fun k (h : k < 16) => mixB_step (D := D) (Z := Z) (n := 16) (by omega) hzl h
  have hm0 : mixB D Z 0 = Z := by simp [mixB, bv]
  have hm16 : mixB D Z 16 = bv (D.take 16) := by unfold mixB; rw [List.drop_of_length_le (by omega), List.append_nil]
  have hrl : (bv (D.take 16)).length = 16 := by rw [bv_length, List.length_take, hD]; rfl
  have hro := bv_one (D.take 16)
  obtain ⟨R, hR⟩ : ∃ R, R = bv (D.take 16) := ⟨_, rfl⟩
  rw [← hR] at hm16 hrl hro ⊢
  generalize bv D = B at *
  have HB0 := Lib.hid hb0
  have HB1 := Lib.hid hb1
  have HB2 := Lib.hid hb2
  have HX0 := Lib.hid hx0
  have HST := Lib.hid hst
  have HM0 := Lib.hid hm0
  have HM16 := Lib.hid hm16
  have HRL := Lib.hid hrl
  have HZL := Lib.hid hzl
  have HCE := Lib.hid hcell
  clear hb0 hb1 hb2 hx0 hst hm0 hm16 hrl hzl hcell hR
  go_enter Try.func44, Try.ntmps44
  go_wp2_with (first
    | (refine wpList_alloc _ rfl 35 rfl _ hz ?_)
    | fail)
  go_loopw [4] (fun i wr => ∃ k : Nat, k ≤ 16 ∧ i = .int .i64 k ∧ Ext w wr ∧ Blk wr w.heap.size 22 B ∧ Blk wr (w.heap.size + 1) 35 Z ∧ Blk wr (w.heap.size + 1 + 1) 35 (mixB D Z k)) (fun i _ => 16 - (intOf i).toNat)
  case atStart => exact ⟨0, by omega, rfl, HX0.out, HB0.out, HB1.out, by rw [HM0.out]; exact HB2.out⟩
  case round =>
    clear HX0 HB0 HB1 HB2
    obtain ⟨k, hk, rfl, hx, hb0, hb1, hb2⟩ := hrel
    by_cases hlt : k < 16
    · have hc := (hb0.cell k).trans (HCE.out k (by omega))
      have hf := hb2.free k
      obtain ⟨u0, hu0⟩ : ∃ u, (mixB D Z k)[k]? = some u := ⟨_, List.getElem?_eq_getElem (by rw [mixB_len (n := 16) (by omega) HZL.out (by omega)]; exact hlt)⟩
      have hcz := (hb2.cell k).trans hu0
      have hs := hb2.set k (.int .u8 ((D.getD k 0).toNat : Int))
      rw [HST.out k hlt] at hs
      generalize (D.getD k 0).toNat = x at *
      have hx9 : Ext w (wr.setCell ⟨w.heap.size + 1 + 1, k, none⟩ (.int .u8 (x : Int))) := grown_then hx (only_set k _) (.inr (by rintro b ⟨⟩; omega))
      have h0 := hb0.keep (only_set (g := w.heap.size + 1 + 1) k (.int .u8 (x : Int))) (by simp; omega)
      have h1 := hb1.keep (only_set (g := w.heap.size + 1 + 1) k (.int .u8 (x : Int))) (by simp)
      have HX9 := Lib.hid hx9
      have H0 := Lib.hid h0
      have H1 := Lib.hid h1
      have HS := Lib.hid hs
      clear hx9 h0 h1 hs hx hb0 hb1 hb2
      go_wp2
      go_roundw
      case rel => exact ⟨k + 1, by omega, by go_num, HX9.out, H0.out, H1.out, HS.out⟩
      case measure => simp [intOf]; omega
    · obtain rfl : k = 16 := by omega
      rw [HM16.out] at hb2
      have hcm := hb2.cells
      have HX := Lib.hid hx
      have HB1 := Lib.hid hb1
      clear hx hb0 hb1 hb2
      go_wp2_with (first
        | (refine wpList_load_agg _ rfl 35 (.tmp 3) rfl _ rfl R _ Try.underlying35 rfl (rpiece_size HRL.out) hcm ?_)
        | (refine wpList_store_row _ rfl 35 (.tmp 2) (.tmp 14) rfl (w.heap.size + 1) rfl Z R _ rfl HB1.out (rpiece_size HRL.out) (by rw [HRL.out, HZL.out]) hro ?_)
        | fail)
      have hc9 := Blk.cells (t := 35) (setRow_at (cs' := R.toArray) HB1.out)
      (try simp only [Exit.inBlock, Exit.then])
      refine bodyPost_ret (results_agg rfl _ _ _ _ _ rfl Try.underlying35 rfl (rpiece_size HRL.out) hc9) rfl ?_
      exact ⟨rfl, setRow_grown HX.out _ _ (by omega)⟩
set_option maxRecDepth 100000 in
set_option maxHeartbeats 1000000 in
theorem RBit (d : List UInt8) (hd : d.length = 32) (k : Nat) (hk : k < 32) (w : World) :
    Calls Try.prog 19 #[.agg (bv d).toArray, .int .i64 (k : Int)] w fun e w' => e = .returned (.int .i64 ((bitM d k : Nat) : Int)) ∧ Ext w w' := by
  have hb0 : Blk (w.alloc (.cells (bv d).toArray 22)) w.heap.size 22 (bv d) := Blk.new _ _ _
  have hx0 : Ext w (w.alloc (.cells (bv d).toArray 22)) := (Ext.refl w).alloc _
  have hq : k / 8 < d.length := by omega
  have hc : (w.alloc (.cells (bv d).toArray 22)).cell? ⟨w.heap.size, k / 8, none⟩ = some (.int .u8 ((d.getD (k / 8) 0).toNat : Int)) := (hb0.cell (k / 8)).trans (by simp [bv, List.getD, hq])
  have hbm : bitM d k = (d.getD (k / 8) 0).toNat / 2 ^ (7 - k % 8) % 2 := rfl
  have hX : (d.getD (k / 8) 0).toNat < 256 := UInt8.toNat_lt _
  generalize bitM d k = R at *
  generalize (d.getD (k / 8) 0).toNat = X at *
  generalize bv d = B at *
  have HX := Lib.hid hx0
  have HR := Lib.hid hbm
  have HXL := Lib.hid hX
  clear hb0 hx0 hq hbm hX
  go_enter Try.func19, Try.ntmps19
  go_wp2
  go_loopw [5, 6] (fun n i wr => ∃ j : Nat, j ≤ 7 - k % 8 ∧ i = .int .i64 j ∧ n = .int .i64 ((X / 2 ^ j : Nat) : Int) ∧ Ext w wr) (fun _ i _ => 7 - (intOf i).toNat)
  case atStart => exact ⟨0, by omega, rfl, by have := HXL.out; rw [Nat.pow_zero, Nat.div_one]; simp [wrap64]; omega, HX.out⟩
  case round =>
    obtain ⟨j, hj, rfl, rfl, hx⟩ := hrel
    have hstep : X / 2 ^ (j + 1) = X / 2 ^ j / 2 := by rw [Nat.pow_succ, Nat.div_div_eq_div_mul]
    have hyl : X / 2 ^ j ≤ X := Nat.div_le_self _ _
    have hyl2 : X / 2 ^ j < 256 := Nat.lt_of_le_of_lt hyl HXL.out
    by_cases hlt : j < 7 - k % 8
    · have HST := Lib.hid hstep
      clear hstep hyl
      generalize X / 2 ^ j = Y at *
      go_wp2
      go_roundw
      case rel => exact ⟨j + 1, by omega, by go_num, by rw [HST.out]; go_num, hx⟩
      case measure => simp [intOf]; omega
    · obtain rfl : j = 7 - k % 8 := by omega
      have hr := HR.out
      clear hstep hyl
      generalize X / 2 ^ (7 - k % 8) = Y at *
      go_wp2
      go_ret
      exact ⟨by rw [HR.out]; go_num, hx⟩
end Go.Proofs.Ytfoomnibfibfnaa

/- The walk of lamp's Sign. Conditions: the seed and the digest have their lengths, the number is in its bounds. -/
import Derived.Test.YtfoomnibfibfnaaLSecret
import Derived.Test.YtfoomnibfibfnaaTo04
set_option linter.unusedVariables false
set_option linter.unusedSimpArgs false
set_option linter.unnecessarySimpa false
namespace Go.Proofs.Ytfoomnibfibfnaa
open Go.RowKit

def signM (seed : List UInt8) (n : Nat) (d : List UInt8) : List UInt8 := piecesM (openM seed n d) 32 ++ piecesM (otherM seed n d) 32
theorem signM_length (seed : List UInt8) (n : Nat) (d : List UInt8) : (signM seed n d).length = 1024 := by
  unfold signM
  rw [List.length_append, piecesM_length (f := openM seed n d) (fun _ => secretM_length _ _ _ _), piecesM_length (f := otherM seed n d) (fun _ => coverM_length _)]
theorem sign_open (seed : List UInt8) (n : Nat) (d : List UInt8) {k : Nat} (h : k < 32) : ((bv (signM seed n d)).drop (k * 16)).take 16 = bv (openM seed n d k) := by
  have e := pieceAt_pieces (f := openM seed n d) (fun _ => secretM_length _ _ _ _) h
  have hl : (piecesM (openM seed n d) 32).length = 512 := piecesM_length (f := openM seed n d) (fun _ => secretM_length _ _ _ _) 32
  unfold pieceAt at e
  rw [← e, bv, ← List.map_drop, ← List.map_take, signM, List.drop_append_of_le_length (by rw [hl]; omega), List.take_append_of_le_length (by rw [List.length_drop, hl]; omega), Nat.mul_comm 16 k]
  rfl
theorem sign_other (seed : List UInt8) (n : Nat) (d : List UInt8) {k : Nat} (h : k < 32) : ((bv (signM seed n d)).drop (512 + k * 16)).take 16 = bv (otherM seed n d k) := by
  have e := pieceAt_pieces (f := otherM seed n d) (fun _ => coverM_length _) h
  have hl : (piecesM (openM seed n d) 32).length = 512 := piecesM_length (f := openM seed n d) (fun _ => secretM_length _ _ _ _) 32
  unfold pieceAt at e
  rw [← e, bv, ← List.map_drop, ← List.map_take, signM, ← List.drop_drop, List.drop_left' hl, Nat.mul_comm 16 k]
  rfl
theorem Secret_i (seed : List UInt8) (hs : seed.length = 32) (n : Nat) (hn : (Lit.int .u32 (n : Int)).wf = true) (k : Nat) (hk : k < 32) (bt : Nat) (hbt : bt < 2) (x : Int) (hx : x = (bt : Int)) (w : World) :
    Calls Try.prog 31 #[.agg (keyC seed n).toArray, .int .i64 (k : Int), .int .u8 x] w fun e w' => e = .returned (.agg (bv (secretM seed n k bt)).toArray) ∧ Ext w w' := by
  subst hx; exact Secret seed hs n hn k hk bt hbt w
theorem sig_size {n : Nat} (h : n = 1024) : (Try.prog.info? 43).map (·.size) = some n := by subst h; kernel_rfl
set_option maxRecDepth 100000 in
set_option maxHeartbeats 4000000 in
theorem Sign (seed : List UInt8) (hs : seed.length = 32) (n : Nat) (hn : (Lit.int .u32 (n : Int)).wf = true) (d : List UInt8) (hd : d.length = 32) (w : World) :
    Calls Try.prog 14 #[.agg (keyC seed n).toArray, .agg (bv d).toArray] w fun e w' => e = .returned (.agg (bv (signM seed n d)).toArray) ∧ Ext w w' := by
  obtain ⟨Z, hz, hzl, hzo⟩ : ∃ Z : List Value, (Try.prog.info? 43).bind (fun i => i.zero.map (·.cells)) = some Z.toArray ∧ Z.length = 1024 ∧ ∀ u ∈ Z, u.oneCell' = true := ⟨_, zSigTo04, List.length_replicate, fun u hu => by rw [List.eq_of_mem_replicate hu]; rfl⟩
  have hC : (bv (signM seed n d)).length = 1024 := by rw [bv_length, signM_length]
  have hone := bv_one (signM seed n d)
  have hop := fun k (h : k < 32) => sign_open seed n d h
  have hot := fun k (h : k < 32) => sign_other seed n d h
  have hkl := keyC_len hs n
  have hdl : (bv d).length = 32 := by rw [bv_length]; exact hd
  have hsec := fun (k : Nat) (hk : k < 32) (bt : Nat) (hbt : bt < 2) (x : Int) (hx : x = (bt : Int)) W => Secret_i seed hs n hn k hk bt hbt x hx W
  have hbit := fun (k : Nat) (hk : k < 32) W => Bit d hd k hk W
  generalize bv (signM seed n d) = C at *
  generalize keyC seed n = KC at *
  generalize bv d = DC at *
  have hb0 : Blk ((((w.alloc (.cells KC.toArray 28)).alloc (.cells DC.toArray 31)).alloc (.cells Z.toArray 43)).alloc (.cells Z.toArray 43)) w.heap.size 28 KC := (((Blk.new _ _ _).keep ((Ext.refl _).alloc _) (by simp)).keep ((Ext.refl _).alloc _) (by simp)).keep ((Ext.refl _).alloc _) (by simp)
  have hb1 : Blk ((((w.alloc (.cells KC.toArray 28)).alloc (.cells DC.toArray 31)).alloc (.cells Z.toArray 43)).alloc (.cells Z.toArray 43)) (w.heap.size + 1) 31 DC := ((Blk.fresh (by simp) _ _).keep ((Ext.refl _).alloc _) (by simp)).keep ((Ext.refl _).alloc _) (by simp)
  have hb2 : Blk ((((w.alloc (.cells KC.toArray 28)).alloc (.cells DC.toArray 31)).alloc (.cells Z.toArray 43)).alloc (.cells Z.toArray 43)) (w.heap.size + 1 + 1) 43 Z := (Blk.fresh (by simp) _ _).keep ((Ext.refl _).alloc _) (by simp)
  have hb3 : Blk ((((w.alloc (.cells KC.toArray 28)).alloc (.cells DC.toArray 31)).alloc (.cells Z.toArray 43)).alloc (.cells Z.toArray 43)) (w.heap.size + 1 + 1 + 1) 43 Z := Blk.fresh (by simp) _ _
  have hx0 : Ext w ((((w.alloc (.cells KC.toArray 28)).alloc (.cells DC.toArray 31)).alloc (.cells Z.toArray 43)).alloc (.cells Z.toArray 43)) := ((((Ext.refl w).alloc _).alloc _).alloc _).alloc _
  have HB0 := Lib.hid hb0
  have HB1 := Lib.hid hb1
  have HB2 := Lib.hid hb2
  have HB3 := Lib.hid hb3
  have HX0 := Lib.hid hx0
  have HCL := Lib.hid hC
  have HZL := Lib.hid hzl
  have HKL := Lib.hid hkl
  have HDL := Lib.hid hdl
  have HOP := Lib.hid hop
  have HOT := Lib.hid hot
  have HSEC := Lib.hid hsec
  have HBIT := Lib.hid hbit
  clear hb0 hb1 hb2 hb3 hx0 hC hzl hkl hdl hop hot hsec hbit
  go_enter Try.func14, Try.ntmps14
  go_wp2_with (first
    | (refine wpList_alloc _ rfl 43 rfl _ hz ?_)
    | fail)
  go_loopw [6, 7, 8] (fun p q i wr => ∃ k : Nat, k ≤ 32 ∧ i = .int .i64 k ∧ Ext w wr ∧ Blk wr w.heap.size 28 KC ∧ Blk wr (w.heap.size + 1) 31 DC ∧ Blk wr (w.heap.size + 1 + 1) 43 Z ∧ Blk wr (w.heap.size + 1 + 1 + 1) 43 (mixAt C Z k)) (fun _ _ i _ => 32 - (intOf i).toNat)
  case atStart => exact ⟨0, by omega, rfl, HX0.out, HB0.out, HB1.out, HB2.out, by rw [mixAt_zero C Z HCL.out HZL.out]; exact HB3.out⟩
  case round =>
    clear HX0 HB0 HB1 HB2 HB3
    obtain ⟨k, hk, rfl, hx, hb0, hb1, hb2, hb3⟩ := hrel
    by_cases hlt : k < 32
    · have hcd := hb1.cells
      have hbl := bitM_lt d k
      have hp1 : (bv (openM seed n d k)).length = 16 := by rw [bv_length]; exact secretM_length _ _ _ _
      have hp2 : (bv (otherM seed n d k)).length = 16 := by rw [bv_length]; exact coverM_length _
      have ho1 := bv_one (openM seed n d k)
      have ho2 := bv_one (otherM seed n d k)
      have hst := mixAt_step C Z HCL.out HZL.out k hlt
      rw [HOP.out k hlt, HOT.out k hlt] at hst
      have hsc := fun W => HSEC.out k hlt (bitM d k) hbl _ rfl W
      have hsc2 := fun (x : Int) hx W => HSEC.out k hlt (1 - bitM d k) (by omega) x hx W
      have hcv := fun W => Cover (secretM seed n k (1 - bitM d k)) (secretM_length _ _ _ _) W
      have e1 : secretM seed n k (bitM d k) = openM seed n d k := rfl
      have e2 : coverM (secretM seed n k (1 - bitM d k)) = otherM seed n d k := rfl
      rw [e1] at hsc
      rw [e2] at hcv
      have hbt := fun W => HBIT.out k hlt W
      generalize bitM d k = b at *
      generalize hS2 : bv (secretM seed n k (1 - b)) = S2 at *
      generalize bv (openM seed n d k) = P1 at *
      generalize bv (otherM seed n d k) = P2 at *
      have hc3 : (w.heap.size + 1 + 1 + 1) ≠ w.heap.size := by omega
      have HX := Lib.hid hx
      have HB0 := Lib.hid hb0
      have HB1 := Lib.hid hb1
      have HB2 := Lib.hid hb2
      have HB3 := Lib.hid hb3
      have HP1 := Lib.hid hp1
      have HP2 := Lib.hid hp2
      have HST := Lib.hid hst
      have HSC := Lib.hid hsc
      have HSC2 := Lib.hid hsc2
      have HCV := Lib.hid hcv
      have HBT := Lib.hid hbt
      have HBL := Lib.hid hbl
      clear hx hb0 hb1 hb2 hb3 hp1 hp2 hst hsc hsc2 hcv hbt hbl hS2 e1 e2
      go_wp2_with (first
        | (refine wpList_load_agg _ rfl 31 (.tmp 3) rfl _ rfl DC _ Try.underlying31 rfl (digest_size HDL.out) hcd ?_)
        | (go_at_call 36; refine (HBT.out _).mono ?_; rintro e w1 ⟨rfl, hx1⟩; have hk1 := (HB0.out.keep hx1 (by simp)).cells)
        | (refine wpList_load_agg _ rfl 28 (.tmp 2) rfl _ rfl KC _ Try.underlying28 rfl (key_size HKL.out) hk1 ?_)
        | fail)
      refine (HSC.out _).mono ?_
      rintro e w2 ⟨rfl, hx2⟩
      have hx12 := hx1.trans hx2
      have hm2 : w2.heap[w.heap.size + 1 + 1 + 1]? = some (.cells (mixAt C Z k).toArray 43 (0, 0)) := HB3.out.keep hx12 (by simp)
      have hk2 : Blk (w2.setRow (w.heap.size + 1 + 1 + 1) (putAt (mixAt C Z k) (k * 16) P1).toArray) w.heap.size 28 KC := (HB0.out.keep hx12 (by simp)).keep (setRow_only _) (by simp; omega)
      have hk3 := hk2.cells
      have HX12 := Lib.hid hx12
      have HK2 := Lib.hid hk2
      clear hx1 hx2 hx12 hk2 hcd hk1
      go_wp2_with (first
        | (refine wpList_store_part _ rfl 40 (.tmp 20) (.tmp 18) rfl (w.heap.size + 1 + 1 + 1) (k * 16) rfl (mixAt C Z k) P1 _ rfl hm2 (piece_size HP1.out) (by rw [mixAt_len, HP1.out]; omega) ho1 ?_)
        | (refine wpList_load_agg _ rfl 28 (.tmp 2) rfl _ rfl KC _ Try.underlying28 rfl (key_size HKL.out) hk3 ?_)
        | fail)
      refine (HSC2.out _ (by have := HBL.out; omega) _).mono ?_
      rintro e w3 ⟨rfl, hx3⟩
      clear hk3
      go_wp2_with (first
        | fail)
      refine (HCV.out _).mono ?_
      rintro e w4 ⟨rfl, hx4⟩
      have hx34 := hx3.trans hx4
      have hm4 : w4.heap[w.heap.size + 1 + 1 + 1]? = some (.cells (putAt (mixAt C Z k) (k * 16) P1).toArray 43 (0, 0)) := Blk.keep (t := 43) (setRow_at hm2) hx34 (by simp)
      have hg2 : w.grownBy w2 none := HX.out.trans HX12.out
      have hx2g : Ext w (w2.setRow (w.heap.size + 1 + 1 + 1) (putAt (mixAt C Z k) (k * 16) P1).toArray) := grown_then hg2 (setRow_only _) (.inr (by rintro b ⟨⟩; omega))
      have hx9 : Ext w (w4.setRow (w.heap.size + 1 + 1 + 1) (putAt (putAt (mixAt C Z k) (k * 16) P1) (512 + k * 16) P2).toArray) := grown_then (hx2g.trans hx34) (setRow_only _) (.inr (by rintro b ⟨⟩; omega))
      have hb0 := (HK2.out.keep hx34 (by simp)).keep (setRow_only (putAt (putAt (mixAt C Z k) (k * 16) P1) (512 + k * 16) P2).toArray) (show some w.heap.size ≠ some (w.heap.size + 1 + 1 + 1) by simp; omega)
      have hb1 := (((HB1.out.keep HX12.out (by simp)).keep (setRow_only (putAt (mixAt C Z k) (k * 16) P1).toArray) (show some (w.heap.size + 1) ≠ some (w.heap.size + 1 + 1 + 1) by simp)).keep hx34 (by simp)).keep (setRow_only (putAt (putAt (mixAt C Z k) (k * 16) P1) (512 + k * 16) P2).toArray) (show some (w.heap.size + 1) ≠ some (w.heap.size + 1 + 1 + 1) by simp)
      have hb2 := (((HB2.out.keep HX12.out (by simp)).keep (setRow_only (putAt (mixAt C Z k) (k * 16) P1).toArray) (show some (w.heap.size + 1 + 1) ≠ some (w.heap.size + 1 + 1 + 1) by simp)).keep hx34 (by simp)).keep (setRow_only (putAt (putAt (mixAt C Z k) (k * 16) P1) (512 + k * 16) P2).toArray) (show some (w.heap.size + 1 + 1) ≠ some (w.heap.size + 1 + 1 + 1) by simp)
      have hb3 : Blk (w4.setRow (w.heap.size + 1 + 1 + 1) (putAt (putAt (mixAt C Z k) (k * 16) P1) (512 + k * 16) P2).toArray) (w.heap.size + 1 + 1 + 1) 43 (mixAt C Z (k + 1)) := by rw [← HST.out]; exact setRow_at hm4
      have HX9 := Lib.hid hx9
      have HB90 := Lib.hid hb0
      have HB91 := Lib.hid hb1
      have HB92 := Lib.hid hb2
      have HB93 := Lib.hid hb3
      clear hx9 hb0 hb1 hb2 hb3 hx3 hx4 hx34 hg2 hx2g hm2
      go_wp2_with (first
        | (refine wpList_store_part _ rfl 40 (.tmp 29) (.tmp 27) rfl (w.heap.size + 1 + 1 + 1) (512 + k * 16) rfl (putAt (mixAt C Z k) (k * 16) P1) P2 _ rfl hm4 (piece_size HP2.out) (by rw [putAt_len (by rw [mixAt_len, HP1.out]; omega), mixAt_len, HP2.out]; omega) ho2 ?_)
        | fail)
      go_roundw
      case rel => exact ⟨k + 1, by omega, by go_num, HX9.out, HB90.out, HB91.out, HB92.out, HB93.out⟩
      case measure => simp [intOf]; omega
    · obtain rfl : k = 32 := by omega
      rw [mixAt_all C Z HCL.out HZL.out] at hb3
      have hcm := hb3.cells
      have hr2 : wr.heap[w.heap.size + 1 + 1]? = some (.cells Z.toArray 43 (0, 0)) := hb2
      have HX := Lib.hid hx
      clear hx hb0 hb1 hb2 hb3
      go_wp2_with (first
        | (refine wpList_load_agg _ rfl 43 (.tmp 5) rfl _ rfl C _ Try.underlying43 rfl (sig_size HCL.out) hcm ?_)
        | (refine wpList_store_row _ rfl 43 (.tmp 4) (.tmp 31) rfl (w.heap.size + 1 + 1) rfl Z C _ rfl hr2 (sig_size HCL.out) (by rw [HCL.out, HZL.out]) hone ?_)
        | fail)
      have hc9 := Blk.cells (t := 43) (setRow_at (cs' := C.toArray) hr2)
      (try simp only [Exit.inBlock, Exit.then])
      refine bodyPost_ret (results_agg rfl _ _ _ _ _ rfl Try.underlying43 rfl (sig_size HCL.out) hc9) rfl ?_
      exact ⟨rfl, grown_then HX.out (setRow_only _) (.inr (by rintro b ⟨⟩; omega))⟩
end Go.Proofs.Ytfoomnibfibfnaa

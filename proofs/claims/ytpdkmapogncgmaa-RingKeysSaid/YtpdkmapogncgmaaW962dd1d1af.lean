/- Walks and plain laws, put together in build order. Conditions: what each of them names. -/
import Derived.Test.YtpdkmapogncgmaaW977bf2137d
set_option linter.unusedVariables false
set_option linter.unusedSimpArgs false
set_option linter.unnecessarySimpa false
namespace Go.Proofs.Ytpdkmapogncgmaa
section
open Go.RowKit

def signM (seed : List UInt8) (n : Nat) (d : List UInt8) : List UInt8 := piecesM (openM seed n d) 32 ++ piecesM (otherM seed n d) 32
theorem signM_length (seed : List UInt8) (n : Nat) (d : List UInt8) : (signM seed n d).length = 1024 := by
  unfold signM
  rw [List.length_append, piecesM_length (f := openM seed n d) (fun _ => secretM_length _ _ _ _), piecesM_length (f := otherM seed n d) (fun _ => coverM_length _)]
theorem sign_open (seed : List UInt8) (n : Nat) (d : List UInt8) {k : Nat} (h : k < 32) : ((bv (signM seed n d)).drop (k * 16)).take 16 = bv (openM seed n d k) := by
  have e := pieceAt_pieces (f := openM seed n d) (fun _ => secretM_length _ _ _ _) h
  have hl : (piecesM (openM seed n d) 32).length = 512 := piecesM_length (f := openM seed n d) (fun _ => secretM_length _ _ _ _) 32
  unfold pieceAt at e
  rw [← e, bv, ← List.map_drop, ← List.map_take, signM, List.drop_append_of_le_length (by rw [hl]; omega), List.take_append_of_le_length (by rw [List.length_drop, hl]; omega), Nat.mul_comm 16 k]
  rfl
theorem sign_other (seed : List UInt8) (n : Nat) (d : List UInt8) {k : Nat} (h : k < 32) : ((bv (signM seed n d)).drop (512 + k * 16)).take 16 = bv (otherM seed n d k) := by
  have e := pieceAt_pieces (f := otherM seed n d) (fun _ => coverM_length _) h
  have hl : (piecesM (openM seed n d) 32).length = 512 := piecesM_length (f := openM seed n d) (fun _ => secretM_length _ _ _ _) 32
  unfold pieceAt at e
  rw [← e, bv, ← List.map_drop, ← List.map_take, signM, ← List.drop_drop, List.drop_left' hl, Nat.mul_comm 16 k]
  rfl
theorem Secret_i (seed : List UInt8) (hs : seed.length = 32) (n : Nat) (hn : (Lit.int .u32 (n : Int)).wf = true) (k : Nat) (hk : k < 32) (bt : Nat) (hbt : bt < 2) (x : Int) (hx : x = (bt : Int)) (w : World) :
    Calls Try.prog 71 #[.agg (keyC seed n).toArray, .int .i64 (k : Int), .int .u8 x] w fun e w' => e = .returned (.agg (bv (secretM seed n k bt)).toArray) ∧ Ext w w' := by
  subst hx; exact Secret seed hs n hn k hk bt hbt w
theorem sig_size {n : Nat} (h : n = 1024) : (Try.prog.info? 36).map (·.size) = some n := by subst h; kernel_rfl
set_option maxRecDepth 100000 in
set_option maxHeartbeats 4000000 in
theorem Sign (seed : List UInt8) (hs : seed.length = 32) (n : Nat) (hn : (Lit.int .u32 (n : Int)).wf = true) (d : List UInt8) (hd : d.length = 32) (w : World) :
    Calls Try.prog 72 #[.agg (keyC seed n).toArray, .agg (bv d).toArray] w fun e w' => e = .returned (.agg (bv (signM seed n d)).toArray) ∧ Ext w w' := by
  obtain ⟨Z, hz, hzl, hzo⟩ : ∃ Z : List Value, (Try.prog.info? 36).bind (fun i => i.zero.map (·.cells)) = some Z.toArray ∧ Z.length = 1024 ∧ ∀ u ∈ Z, u.oneCell' = true := ⟨_, zSigTo04, List.length_replicate, fun u hu => by rw [List.eq_of_mem_replicate hu]; rfl⟩
  have hC : (bv (signM seed n d)).length = 1024 := by rw [bv_length, signM_length]
  have hone := bv_one (signM seed n d)
  have hop := fun k (h : k < 32) => sign_open seed n d h
  have hot := fun k (h : k < 32) => sign_other seed n d h
  have hkl := keyC_len hs n
  have hdl : (bv d).length = 32 := by rw [bv_length]; exact hd
  have hsec := fun (k : Nat) (hk : k < 32) (bt : Nat) (hbt : bt < 2) (x : Int) (hx : x = (bt : Int)) W => Secret_i seed hs n hn k hk bt hbt x hx W
  have hbit := fun (k : Nat) (hk : k < 32) W => Bit d hd k hk W
  generalize bv (signM seed n d) = C at *
  generalize keyC seed n = KC at *
  generalize bv d = DC at *
  have hb0 : Blk ((((w.alloc (.cells KC.toArray 96)).alloc (.cells DC.toArray 55)).alloc (.cells Z.toArray 36)).alloc (.cells Z.toArray 36)) w.heap.size 96 KC := (((Blk.new _ _ _).keep ((Ext.refl _).alloc _) (by simp)).keep ((Ext.refl _).alloc _) (by simp)).keep ((Ext.refl _).alloc _) (by simp)
  have hb1 : Blk ((((w.alloc (.cells KC.toArray 96)).alloc (.cells DC.toArray 55)).alloc (.cells Z.toArray 36)).alloc (.cells Z.toArray 36)) (w.heap.size + 1) 55 DC := ((Blk.fresh (by simp) _ _).keep ((Ext.refl _).alloc _) (by simp)).keep ((Ext.refl _).alloc _) (by simp)
  have hb2 : Blk ((((w.alloc (.cells KC.toArray 96)).alloc (.cells DC.toArray 55)).alloc (.cells Z.toArray 36)).alloc (.cells Z.toArray 36)) (w.heap.size + 1 + 1) 36 Z := (Blk.fresh (by simp) _ _).keep ((Ext.refl _).alloc _) (by simp)
  have hb3 : Blk ((((w.alloc (.cells KC.toArray 96)).alloc (.cells DC.toArray 55)).alloc (.cells Z.toArray 36)).alloc (.cells Z.toArray 36)) (w.heap.size + 1 + 1 + 1) 36 Z := Blk.fresh (by simp) _ _
  have hx0 : Ext w ((((w.alloc (.cells KC.toArray 96)).alloc (.cells DC.toArray 55)).alloc (.cells Z.toArray 36)).alloc (.cells Z.toArray 36)) := ((((Ext.refl w).alloc _).alloc _).alloc _).alloc _
  have HB0 := Lib.hid hb0
  have HB1 := Lib.hid hb1
  have HB2 := Lib.hid hb2
  have HB3 := Lib.hid hb3
  have HX0 := Lib.hid hx0
  have HCL := Lib.hid hC
  have HZL := Lib.hid hzl
  have HKL := Lib.hid hkl
  have HDL := Lib.hid hdl
  have HOP := Lib.hid hop
  have HOT := Lib.hid hot
  have HSEC := Lib.hid hsec
  have HBIT := Lib.hid hbit
  clear hb0 hb1 hb2 hb3 hx0 hC hzl hkl hdl hop hot hsec hbit
  go_enter Try.func72, Try.ntmps72
  go_wp2_with (first
    | (refine wpList_alloc _ rfl 36 rfl _ hz ?_)
    | fail)
  go_loopw [6, 7, 8] (fun p q i wr => ∃ k : Nat, k ≤ 32 ∧ i = .int .i64 k ∧ Ext w wr ∧ Blk wr w.heap.size 96 KC ∧ Blk wr (w.heap.size + 1) 55 DC ∧ Blk wr (w.heap.size + 1 + 1) 36 Z ∧ Blk wr (w.heap.size + 1 + 1 + 1) 36 (mixAt C Z k)) (fun _ _ i _ => 32 - (intOf i).toNat)
  case atStart => exact ⟨0, by omega, rfl, HX0.out, HB0.out, HB1.out, HB2.out, by rw [mixAt_zero C Z HCL.out HZL.out]; exact HB3.out⟩
  case round =>
    clear HX0 HB0 HB1 HB2 HB3
    obtain ⟨k, hk, rfl, hx, hb0, hb1, hb2, hb3⟩ := hrel
    by_cases hlt : k < 32
    · have hcd := hb1.cells
      have hbl := bitM_lt d k
      have hp1 : (bv (openM seed n d k)).length = 16 := by rw [bv_length]; exact secretM_length _ _ _ _
      have hp2 : (bv (otherM seed n d k)).length = 16 := by rw [bv_length]; exact coverM_length _
      have ho1 := bv_one (openM seed n d k)
      have ho2 := bv_one (otherM seed n d k)
      have hst := mixAt_step C Z HCL.out HZL.out k hlt
      rw [HOP.out k hlt, HOT.out k hlt] at hst
      have hsc := fun W => HSEC.out k hlt (bitM d k) hbl _ rfl W
      have hsc2 := fun (x : Int) hx W => HSEC.out k hlt (1 - bitM d k) (by omega) x hx W
      have hcv := fun W => Cover (secretM seed n k (1 - bitM d k)) (secretM_length _ _ _ _) W
      have e1 : secretM seed n k (bitM d k) = openM seed n d k := rfl
      have e2 : coverM (secretM seed n k (1 - bitM d k)) = otherM seed n d k := rfl
      rw [e1] at hsc
      rw [e2] at hcv
      have hbt := fun W => HBIT.out k hlt W
      generalize bitM d k = b at *
      generalize hS2 : bv (secretM seed n k (1 - b)) = S2 at *
      generalize bv (openM seed n d k) = P1 at *
      generalize bv (otherM seed n d k) = P2 at *
      have hc3 : (w.heap.size + 1 + 1 + 1) ≠ w.heap.size := by omega
      have HX := Lib.hid hx
      have HB0 := Lib.hid hb0
      have HB1 := Lib.hid hb1
      have HB2 := Lib.hid hb2
      have HB3 := Lib.hid hb3
      have HP1 := Lib.hid hp1
      have HP2 := Lib.hid hp2
      have HST := Lib.hid hst
      have HSC := Lib.hid hsc
      have HSC2 := Lib.hid hsc2
      have HCV := Lib.hid hcv
      have HBT := Lib.hid hbt
      have HBL := Lib.hid hbl
      clear hx hb0 hb1 hb2 hb3 hp1 hp2 hst hsc hsc2 hcv hbt hbl hS2 e1 e2
      go_wp2_with (first
        | (refine wpList_load_agg _ rfl 55 (.tmp 3) rfl _ rfl DC _ Try.underlying55 rfl (digest_size HDL.out) hcd ?_)
        | (go_at_call 63; refine (HBT.out _).mono ?_; rintro e w1 ⟨rfl, hx1⟩; have hk1 := (HB0.out.keep hx1 (by simp)).cells)
        | (refine wpList_load_agg _ rfl 96 (.tmp 2) rfl _ rfl KC _ Try.underlying96 rfl (key_size HKL.out) hk1 ?_)
        | fail)
      refine (HSC.out _).mono ?_
      rintro e w2 ⟨rfl, hx2⟩
      have hx12 := hx1.trans hx2
      have hm2 : w2.heap[w.heap.size + 1 + 1 + 1]? = some (.cells (mixAt C Z k).toArray 36 (0, 0)) := HB3.out.keep hx12 (by simp)
      have hk2 : Blk (w2.setRow (w.heap.size + 1 + 1 + 1) (putAt (mixAt C Z k) (k * 16) P1).toArray) w.heap.size 96 KC := (HB0.out.keep hx12 (by simp)).keep (setRow_only _) (by simp; omega)
      have hk3 := hk2.cells
      have HX12 := Lib.hid hx12
      have HK2 := Lib.hid hk2
      clear hx1 hx2 hx12 hk2 hcd hk1
      go_wp2_with (first
        | (refine wpList_store_part _ rfl 33 (.tmp 20) (.tmp 18) rfl (w.heap.size + 1 + 1 + 1) (k * 16) rfl (mixAt C Z k) P1 _ rfl hm2 (piece_size HP1.out) (by rw [mixAt_len, HP1.out]; omega) ho1 ?_)
        | (refine wpList_load_agg _ rfl 96 (.tmp 2) rfl _ rfl KC _ Try.underlying96 rfl (key_size HKL.out) hk3 ?_)
        | fail)
      refine (HSC2.out _ (by have := HBL.out; omega) _).mono ?_
      rintro e w3 ⟨rfl, hx3⟩
      clear hk3
      go_wp2_with (first
        | fail)
      refine (HCV.out _).mono ?_
      rintro e w4 ⟨rfl, hx4⟩
      have hx34 := hx3.trans hx4
      have hm4 : w4.heap[w.heap.size + 1 + 1 + 1]? = some (.cells (putAt (mixAt C Z k) (k * 16) P1).toArray 36 (0, 0)) := Blk.keep (t := 36) (setRow_at hm2) hx34 (by simp)
      have hg2 : w.grownBy w2 none := HX.out.trans HX12.out
      have hx2g : Ext w (w2.setRow (w.heap.size + 1 + 1 + 1) (putAt (mixAt C Z k) (k * 16) P1).toArray) := grown_then hg2 (setRow_only _) (.inr (by rintro b ⟨⟩; omega))
      have hx9 : Ext w (w4.setRow (w.heap.size + 1 + 1 + 1) (putAt (putAt (mixAt C Z k) (k * 16) P1) (512 + k * 16) P2).toArray) := grown_then (hx2g.trans hx34) (setRow_only _) (.inr (by rintro b ⟨⟩; omega))
      have hb0 := (HK2.out.keep hx34 (by simp)).keep (setRow_only (putAt (putAt (mixAt C Z k) (k * 16) P1) (512 + k * 16) P2).toArray) (show some w.heap.size ≠ some (w.heap.size + 1 + 1 + 1) by simp; omega)
      have hb1 := (((HB1.out.keep HX12.out (by simp)).keep (setRow_only (putAt (mixAt C Z k) (k * 16) P1).toArray) (show some (w.heap.size + 1) ≠ some (w.heap.size + 1 + 1 + 1) by simp)).keep hx34 (by simp)).keep (setRow_only (putAt (putAt (mixAt C Z k) (k * 16) P1) (512 + k * 16) P2).toArray) (show some (w.heap.size + 1) ≠ some (w.heap.size + 1 + 1 + 1) by simp)
      have hb2 := (((HB2.out.keep HX12.out (by simp)).keep (setRow_only (putAt (mixAt C Z k) (k * 16) P1).toArray) (show some (w.heap.size + 1 + 1) ≠ some (w.heap.size + 1 + 1 + 1) by simp)).keep hx34 (by simp)).keep (setRow_only (putAt (putAt (mixAt C Z k) (k * 16) P1) (512 + k * 16) P2).toArray) (show some (w.heap.size + 1 + 1) ≠ some (w.heap.size + 1 + 1 + 1) by simp)
      have hb3 : Blk (w4.setRow (w.heap.size + 1 + 1 + 1) (putAt (putAt (mixAt C Z k) (k * 16) P1) (512 + k * 16) P2).toArray) (w.heap.size + 1 + 1 + 1) 36 (mixAt C Z (k + 1)) := by rw [← HST.out]; exact setRow_at hm4
      have HX9 := Lib.hid hx9
      have HB90 := Lib.hid hb0
      have HB91 := Lib.hid hb1
      have HB92 := Lib.hid hb2
      have HB93 := Lib.hid hb3
      clear hx9 hb0 hb1 hb2 hb3 hx3 hx4 hx34 hg2 hx2g hm2
      go_wp2_with (first
        | (refine wpList_store_part _ rfl 33 (.tmp 29) (.tmp 27) rfl (w.heap.size + 1 + 1 + 1) (512 + k * 16) rfl (putAt (mixAt C Z k) (k * 16) P1) P2 _ rfl hm4 (piece_size HP2.out) (by rw [putAt_len (by rw [mixAt_len, HP1.out]; omega), mixAt_len, HP2.out]; omega) ho2 ?_)
        | fail)
      go_roundw
      case rel => exact ⟨k + 1, by omega, by go_num, HX9.out, HB90.out, HB91.out, HB92.out, HB93.out⟩
      case measure => simp [intOf]; omega
    · obtain rfl : k = 32 := by omega
      rw [mixAt_all C Z HCL.out HZL.out] at hb3
      have hcm := hb3.cells
      have hr2 : wr.heap[w.heap.size + 1 + 1]? = some (.cells Z.toArray 36 (0, 0)) := hb2
      have HX := Lib.hid hx
      clear hx hb0 hb1 hb2 hb3
      go_wp2_with (first
        | (refine wpList_load_agg _ rfl 36 (.tmp 5) rfl _ rfl C _ Try.underlying36 rfl (sig_size HCL.out) hcm ?_)
        | (refine wpList_store_row _ rfl 36 (.tmp 4) (.tmp 31) rfl (w.heap.size + 1 + 1) rfl Z C _ rfl hr2 (sig_size HCL.out) (by rw [HCL.out, HZL.out]) hone ?_)
        | fail)
      have hc9 := Blk.cells (t := 36) (setRow_at (cs' := C.toArray) hr2)
      (try simp only [Exit.inBlock, Exit.then])
      refine bodyPost_ret (results_agg rfl _ _ _ _ _ rfl Try.underlying36 rfl (sig_size HCL.out) hc9) rfl ?_
      exact ⟨rfl, grown_then HX.out (setRow_only _) (.inr (by rintro b ⟨⟩; omega))⟩
end
section
open Go.RowKit

theorem wpList_indexAgg {P : Program} {w : World} {ops : Array Oper} {rest : List Oper} {o : Oper} {a : Act} {Q : Exit → Act → World → Prop} (hgd : o.guard = none ∨ Region.wanted o (yielded ops a.tmps) = true) (t : TypeId) (x y : Operand) (ho : o.op = .index t x y)
    (cs piece : List Value) (k n m : Nat) (q : IntKind) (e : TypeId) (d : TypeDesc) (hx : a.eval x = .agg cs.toArray) (hy : a.eval y = .int q (k : Int)) (hu : P.underlying t = some (.array n e)) (hk : k < n)
    (he : P.underlying e = some d) (hd : isAggD d = true) (hs : (P.info? e).map (·.size) = some m) (hc : (cs.drop (k * m)).take m = piece) (h : wpList P ops Q rest (a.put o.dst (.agg piece.toArray)) w) : wpList P ops Q (o :: rest) a w :=
  wpList_want hgd fun K hK => by
    have hagg : (isAgg e).run P w = .ok true w := by
      unfold isAgg
      rw [Sem.run_bind, run_underlying he w]
      cases d <;> simp_all [isAggD]
    have hr : (Instr.index t (.agg cs.toArray) (.int q (k : Int))).run P w = .ok (.agg piece.toArray) w := by
      have hk2 : (0 : Int) ≤ (k : Int) ∧ (k : Int) < (n : Int) := by omega
      obtain ⟨i, hi2, rfl⟩ := Option.map_eq_some_iff.1 hs
      rw [← hc]
      simp [Instr.index, asIntOf, run_underlying hu, Nat.not_le_of_lt hk, hk, sizeOf, typeInfo, hi2, part, hagg]
    unfold Oper.wp execOp
    simp only [ho, hx, hy, Sem.run_bind, hr, Result.andThen_ok, Sem.run_pure]
    exact hK _ _ h
theorem two_size {n : Nat} (h : n = 32) : (Try.prog.info? 115).map (·.size) = some n := by subst h; kernel_rfl
theorem two_zero : (Try.prog.info? 115).bind (fun i => i.zero.map (·.cells)) = some (bv (List.replicate 32 0)).toArray := by kernel_rfl
theorem all_size {n : Nat} (h : n = 1024) : (Try.prog.info? 116).map (·.size) = some n := by subst h; kernel_rfl
theorem take_step32 (L : List UInt8) (hL : L.length = 1024) {k : Nat} (h : k < 32) : L.take (32 * (k + 1)) = L.take (32 * k) ++ (((L.drop (k * 32)).take 32).take 16 ++ ((L.drop (k * 32)).take 32).drop 16) := by
  rw [List.take_append_drop, Nat.mul_succ, List.take_add, Nat.mul_comm k 32]
theorem bv_drop_take (L : List UInt8) (a b : Nat) : ((bv L).drop a).take b = bv ((L.drop a).take b) := by simp [bv, List.map_drop, List.map_take]
set_option maxRecDepth 100000 in
set_option maxHeartbeats 4000000 in
theorem LeafW (L : List UInt8) (hL : L.length = 1024) (w : World) :
    Calls Try.prog 65 #[.agg (bv L).toArray] w fun e w' => e = .returned (.agg (bv (leafOf L)).toArray) ∧ Ext w w' := by
  obtain ⟨i0, hi, hz0, hz1, hz2⟩ := info_parts u8_info
  have hzd := digest_zero
  have hzt := two_zero
  have hdl : (bv (List.replicate 32 0)).length = 32 := by simp
  generalize bv (List.replicate 32 0) = D at hzd hzt hdl
  have hll : (bv L).length = 1024 := by rw [bv_length]; exact hL
  have hpc := fun k => bv_drop_take L (k * 32) 32
  have hb0 : Blk ((w.alloc (.cells (bv L).toArray 116)).alloc (.cells D.toArray 55)) w.heap.size 116 (bv L) := (Blk.new _ _ _).keep ((Ext.refl _).alloc _) (by simp)
  have hb1 : Blk ((w.alloc (.cells (bv L).toArray 116)).alloc (.cells D.toArray 55)) (w.heap.size + 1) 55 D := Blk.fresh (by simp) _ _
  have hx0 : Ext w ((w.alloc (.cells (bv L).toArray 116)).alloc (.cells D.toArray 55)) := ((Ext.refl w).alloc _).alloc _
  have hcl := hb0.cells
  generalize bv L = B at *
  have HB1 := Lib.hid hb1
  have HX0 := Lib.hid hx0
  have HDL := Lib.hid hdl
  have HLL := Lib.hid hll
  have HL := Lib.hid hL
  have HPC := Lib.hid hpc
  clear hb0 hb1 hx0 hdl hll hL hpc
  go_enter Try.func65, Try.ntmps65
  go_wp2_with (first
    | (refine wpList_alloc _ rfl 55 rfl _ hzd ?_)
    | (refine wpList_load_agg _ rfl 116 (.tmp 1) rfl _ rfl B _ Try.underlying116 rfl (all_size HLL.out) hcl ?_)
    | fail)
  go_loopw [3, 5, 7] (fun u p i wr => ∃ k : Nat, k ≤ 32 ∧ i = .int .i64 k ∧ OwnB wr u (L.take (32 * k)) ∧ Ext w wr ∧ Blk wr (w.heap.size + 1) 55 D ∧ (∀ b, u.ownBlock = some b → w.heap.size + 2 ≤ b) ∧ ∃ q, p = q) (fun _ _ i _ => 32 - (intOf i).toNat)
  case atStart => exact ⟨0, by omega, rfl, Own.nil _ _ _, HX0.out, HB1.out, fun b hb => (by simp [Value.ownBlock] at hb), _, rfl⟩
  case round =>
    clear HX0 HB1 hcl
    obtain ⟨k, hk, rfl, hou, hx, hb1, hne, q, rfl⟩ := hrel
    by_cases hlt : k < 32
    · have hpp := HPC.out k
      have hst := take_step32 L HL.out hlt
      have hpl : ((L.drop (k * 32)).take 32).length = 32 := by rw [List.length_take, List.length_drop, HL.out]; omega
      have htl : (L.take (32 * k)).length = 32 * k := by rw [List.length_take, HL.out]; omega
      have hpo := bv_one ((L.drop (k * 32)).take 32)
      have hbl : (bv ((L.drop (k * 32)).take 32)).length = 32 := by rw [bv_length]; exact hpl
      have hp1 : (((L.drop (k * 32)).take 32).take 16).length = 16 := by rw [List.length_take, hpl]; rfl
      have hp2 : (((L.drop (k * 32)).take 32).drop 16).length = 16 := by rw [List.length_drop, hpl]
      have hcb : Blk ((wr.alloc (.cells (bv ((L.drop (k * 32)).take 32)).toArray 115)).drew) wr.heap.size 115 (bv ((L.drop (k * 32)).take 32)) := (Blk.new _ _ _).keep (Ext.refl _).drew (by simp)
      have hk1 : Cells ((wr.alloc (.cells (bv ((L.drop (k * 32)).take 32)).toArray 115)).drew) ⟨wr.heap.size, 0, none⟩ (bv (((L.drop (k * 32)).take 32).take 16)) := by
        have h := hcb.cells.take 16
        have e : (bv ((L.drop (k * 32)).take 32)).take 16 = bv (((L.drop (k * 32)).take 32).take 16) := by simp [bv, List.map_take, List.map_drop]
        rw [e] at h; exact h
      have hk2 : Cells ((wr.alloc (.cells (bv ((L.drop (k * 32)).take 32)).toArray 115)).drew) ⟨wr.heap.size, 16, none⟩ (bv (((L.drop (k * 32)).take 32).drop 16)) := by
        have h := hcb.cells.drop 16
        have e : (bv ((L.drop (k * 32)).take 32)).drop 16 = bv (((L.drop (k * 32)).take 32).drop 16) := by simp [bv, List.map_take, List.map_drop]
        rw [addr_at, e] at h; exact h
      have hxw : Ext wr ((wr.alloc (.cells (bv ((L.drop (k * 32)).take 32)).toArray 115)).drew) := ((Ext.refl wr).alloc _).trans (Ext.refl _).drew
      have hou2 := hou.ext hxw
      have hx2 := hx.trans hxw
      have hb2 := hb1.keep hxw (by simp)
      have hlt0 := OwnB.lt hou
      generalize ((L.drop (k * 32)).take 32).take 16 = P1 at *
      generalize ((L.drop (k * 32)).take 32).drop 16 = P2 at *
      generalize bv ((L.drop (k * 32)).take 32) = PP at *
      have HX := Lib.hid hx2
      have HB := Lib.hid hb2
      have HO := Lib.hid hou2
      have HNE := Lib.hid hne
      have HLT := Lib.hid hlt0
      have HST := Lib.hid hst
      have HTL := Lib.hid htl
      have HBL := Lib.hid hbl
      have HP1 := Lib.hid hp1
      have HP2 := Lib.hid hp2
      have HK1 := Lib.hid hk1
      have HK2 := Lib.hid hk2
      have HCB := Lib.hid hcb
      have HPP := Lib.hid hpp
      clear hou hx hb1 hne hpl htl hbl hp1 hp2 hk1 hk2 hcb hxw hou2 hx2 hb2 hlt0 hst hpp
      go_wp2_with (first
        | (refine wpList_indexAgg (.inl rfl) 116 (.tmp 6) (.tmp 7) rfl B PP k 32 32 _ 115 _ rfl rfl Try.underlying116 hlt Try.underlying115 rfl (two_size rfl) HPP.out ?_)
        | (refine wpList_alloc _ rfl 115 rfl _ hzt ?_)
        | (refine wpList_store_new _ rfl 115 (.tmp 5) (.tmp 9) rfl rfl D PP _ rfl (two_size HBL.out) (by rw [HBL.out, HDL.out]) hpo ?_)
        | fail)
      refine startM (KeepB fun b => b = wr.heap.size) (by kernel_rfl) ?_
      (try simp only [Act.put, List.setIfInBounds_toArray, List.set_cons_succ, List.set_cons_zero])
      have hbg : wr.heap.size < (wr.alloc (.cells PP.toArray 115)).drew.heap.size := HCB.out.lt
      generalize (wr.alloc (.cells PP.toArray 115)).drew = w0 at *
      have HBG := Lib.hid hbg
      clear hbg
      have HNU : Hid (∀ b, u3.ownBlock = some b → b ≠ wr.heap.size) := Lib.hid fun b hb e => by have := HLT.out b hb; omega
      generalize wr.heap.size = gp at *
      refine takeK 0 rfl (by kernel_rfl) (by kernel_rfl) (by kernel_rfl) rfl (fun _ _ _ _ h => h) rfl (fun K hK => ?_)
      go_big_quiet_op
      first | refine hK _ ?_ | refine ⟨_, fun _ _ => rfl, hK _ ?_⟩
      clear hK K
      refine takeK 1 rfl (by kernel_rfl) (by kernel_rfl) (by kernel_rfl) rfl (fun _ _ _ _ h => h) rfl (fun K hK => ?_)
      go_big_quiet_op
      first | refine hK _ ?_ | refine ⟨_, fun _ _ => rfl, hK _ ?_⟩
      clear hK K
      refine takeK 2 rfl (by kernel_rfl) (by kernel_rfl) (by kernel_rfl) rfl (fun _ _ _ _ h => h) rfl (fun K hK => ?_)
      go_big_quiet_op
      first | refine hK _ ?_ | refine ⟨_, fun _ _ => rfl, hK _ ?_⟩
      clear hK K
      refine takeK 4 rfl (by kernel_rfl) (by kernel_rfl) (by kernel_rfl) rfl (fun _ _ _ _ h => h) rfl (fun K hK => ?_)
      go_big_quiet_op
      first | refine hK _ ?_ | refine ⟨_, fun _ _ => rfl, hK _ ?_⟩
      clear hK K
      refine takeK 5 rfl (by kernel_rfl) (by kernel_rfl) (by kernel_rfl) rfl (fun _ _ _ _ h => h) rfl (fun K hK => ?_)
      go_big_quiet_op
      first | refine hK _ ?_ | refine ⟨_, fun _ _ => rfl, hK _ ?_⟩
      clear hK K
      refine stepM 3 rfl (by kernel_rfl) rfl (fun K hK => ?_)
      refine wp_app _ (.tmp 10) (.tmp 12) _ _ rfl 5 5 i0 _ 1 1 Try.underlying62 Try.underlying62 hi hz0 hz1 hz2 rfl (by decide) u3 _ _ rfl HO.out _ 16 16 (bv P1) rfl (by simp [HP1.out]) (fun _ => ⟨_, rfl, HK1.out⟩) (bv_one _) (by rw [HTL.out]; unfold maxLen; omega) (by rw [HTL.out]; omega) ?_
      intro v8 w8 ho8 hm8
      have ho8' : OwnB w8 v8 (L.take (32 * k) ++ P1) := OwnB.app (by rw [HP1.out]; exact ho8)
      have HK28 := Lib.hid (HK2.out.keep (hm8.grown.block _ HBG.out (fun e => HNU.out _ e.symm rfl)))
      have HNE8 : Hid (∀ b, v8.ownBlock = some b → b ≠ gp) := Lib.hid (fun b hb e => by rcases hm8.at_ with h | h <;> first | exact HNU.out b (h.symm.trans hb) e | (have := h b hb; have := HBG.out; omega))
      refine hK _ _ (fun b hb => by subst hb; exact hm8.grown.block _ HBG.out (fun e => HNU.out _ e.symm rfl)) ?_
      clear hK K
      (try simp only [Act.put, List.setIfInBounds_toArray, List.set_cons_succ, List.set_cons_zero])
      refine stepM 6 rfl (by kernel_rfl) rfl (fun K hK => ?_)
      refine wp_app _ (.tmp 13) (.tmp 15) _ _ rfl 5 5 i0 _ 1 1 Try.underlying62 Try.underlying62 hi hz0 hz1 hz2 rfl (by decide) v8 _ _ rfl ho8' _ 16 16 (bv P2) rfl (by simp [HP2.out]) (fun _ => ⟨_, rfl, HK28.out⟩) (bv_one _) (by rw [List.length_append, HTL.out, HP1.out]; unfold maxLen; omega) (by rw [List.length_append, HTL.out, HP1.out]; omega) ?_
      intro v9 w9 ho9 hm9
      replace ho9 : OwnB w9 v9 (L.take (32 * k) ++ P1 ++ P2) := OwnB.app (by rw [HP2.out]; exact ho9)
      refine hK _ _ (fun b hb => by subst hb; exact hm9.grown.block _ (Nat.lt_of_lt_of_le HBG.out hm8.grown.size) (fun e => HNE8.out _ e.symm rfl)) ?_
      clear hK K
      (try simp only [Act.put, List.setIfInBounds_toArray, List.set_cons_succ, List.set_cons_zero])
      refine takeK 7 rfl (by kernel_rfl) (by kernel_rfl) (by kernel_rfl) rfl (fun _ _ _ _ h => h) rfl (fun K hK => ?_)
      go_big_quiet_op
      first | refine hK _ ?_ | refine ⟨_, fun _ _ => rfl, hK _ ?_⟩
      clear hK K
      refine doneM (by kernel_rfl) ?_ _
      have hm2 := hm8.trans hm9
      have hfr : ∀ b, u3.ownBlock = some b → w.heap.size ≤ b := fun b hb => by have := HNE.out b hb; omega
      have hx9 : Ext w w9 := grown_then HX.out hm2.grown (.inr hfr)
      have hb9 : Blk w9 (w.heap.size + 1) 55 D := HB.out.keep hm2.grown (fun e => by have := HNE.out _ e.symm; omega)
      have hne9 : ∀ b, v9.ownBlock = some b → w.heap.size + 2 ≤ b := fun b hb => by
        rcases hm2.at_ with e | hn
        · exact HNE.out b (e.symm.trans hb)
        · have h1 := hn b hb
          have h2 := HX.out.size
          have h3 := HB.out.lt
          omega
      have ho2 : OwnB w9 v9 (L.take (32 * (k + 1))) := by rw [HST.out, ← List.append_assoc]; exact ho9
      have HX9 := Lib.hid hx9
      have HB9 := Lib.hid hb9
      have HN9 := Lib.hid hne9
      have HO9 := Lib.hid ho2
      clear hm2 hb9 hne9 ho2 ho9 hm9 hx9
      go_wp2
      go_roundw
      case rel => exact ⟨k + 1, by omega, by go_num, HO9.out, HX9.out, HB9.out, HN9.out, _, rfl⟩
      case measure => simp [intOf]; omega
    · obtain rfl : k = 32 := by omega
      have ho := hou
      rw [show L.take (32 * 32) = L from List.take_of_length_le (by rw [HL.out]; decide)] at ho
      obtain ⟨A, c, hv⟩ := OwnB.form ho
      subst hv
      have h1 := ho.holds
      have hlt1 := OwnB.lt ho
      have hv := parts_new (w := wr) (T := 62) (n := 1) rfl rfl (by simp [maxLen]) (AllH.one (R := (Ty.sl .u8).holds _ _) h1) hlt1
      have hF : ∀ b, ((Value.slice A L.length c).ownBlock = some b ∨ b = wr.heap.size) → b < (wr.alloc (.cells #[Value.slice A L.length c] 62)).heap.size := by
        rintro b (hb | rfl)
        · have := hlt1 b hb; simp; omega
        · simp
      have hrl : (bv (sha (textM 2 [L]))).length = 32 := by rw [bv_length, sha_length]
      have hro := bv_one (sha (textM 2 [L]))
      have hfor := For_i 2 2 rfl _ [L] _ _ hv hF (by simp [blob, be_length, HL.out])
      have e2 : leafOf L = sha (textM 2 [L]) := rfl
      rw [← e2] at hrl hro hfor
      obtain ⟨R, hR⟩ : ∃ R, R = bv (leafOf L) := ⟨_, rfl⟩
      rw [← hR] at hrl hro hfor
      have HR := Lib.hid hR
      clear hR
      have HFOR := Lib.hid hfor
      have HRL := Lib.hid hrl
      have HX := Lib.hid (hx.alloc (.cells #[Value.slice A L.length c] 62))
      have HB := Lib.hid (hb1.keep ((Ext.refl wr).alloc (.cells #[Value.slice A L.length c] 62)) (by simp))
      clear hx hb1 hou ho h1 hlt1 hv hF hrl hfor hne e2
      generalize L.length = n at *
      clear HL HPC
      go_wp2_with fail
      refine (HFOR.out).mono ?_
      rintro e w4 ⟨rfl, hx4⟩
      have hr4 : w4.heap[w.heap.size + 1]? = some (.cells D.toArray 55 (0, 0)) := HB.out.keep hx4 (by simp)
      have hx5 := HX.out.trans hx4
      go_wp2_with (first
        | (refine wpList_store_row _ rfl 55 (.tmp 2) (.tmp 20) rfl (w.heap.size + 1) rfl D R _ rfl hr4 (digest_size HRL.out) (by rw [HRL.out, HDL.out]) hro ?_)
        | fail)
      have hc9 := Blk.cells (t := 55) (setRow_at (cs' := R.toArray) hr4)
      (try simp only [Exit.inBlock, Exit.then])
      refine bodyPost_ret (results_agg rfl _ _ _ _ _ rfl Try.underlying55 rfl (digest_size HRL.out) hc9) rfl ?_
      exact ⟨by rw [HR.out], setRow_grown hx5 _ _ (by omega)⟩
end
section
open Go.RowKit

section
variable {P : Program} {w : World}
theorem wp_load_agg {o : Oper} {a : Act} {K : Act → World → Prop} {Q : Exit → Act → World → Prop} (ty : TypeId) (x : Operand) (ho : o.op = .load ty x)
    (ad : Addr) (hx : a.eval x = .pointer (some ad)) (cs : List Value) (d : TypeDesc) (hu : P.underlying ty = some d) (hd : isAggD d = true) (hi : (P.info? ty).map (·.size) = some cs.length) (hc : Cells w ad cs)
    (h : K (a.put o.dst (.agg cs.toArray)) w) : o.wp P a w K Q := by
  unfold Oper.wp execOp
  simp only [ho, hx, Instr.loadAt, Instr.sureAddr, Sem.run_bind, Sem.run_pure, Result.andThen_ok, run_load_agg w ty ad cs d hu hd hi hc]
  exact h
theorem run_build_arr (w : World) (t : TypeId) (parts : Array (Nat × Value)) (n : Nat) (e : TypeId) (size : Nat) (z r : List Value) (segs : List (Nat × List Value)) (hu : P.underlying t = some (.array n e))
    (hz : (P.info? t).bind (fun i => i.zero.map (·.cells)) = some z.toArray) (hsz : (P.info? e).map (·.size) = some size)
    (hs : parts.toList.map (fun p => (p.1, p.2.cells)) = segs.map (fun p => (p.1, p.2.toArray))) (hf : fillL (fun i => some (i * size, size)) z segs = some r) : (Instr.build t parts).run P w = .ok (.agg r.toArray) w := by
  obtain ⟨i, hi, hzz⟩ := Option.bind_eq_some_iff.1 hz
  obtain ⟨zv, hzv, hzc⟩ := Option.map_eq_some_iff.1 hzz
  obtain ⟨j, hj, rfl⟩ := Option.map_eq_some_iff.1 hsz
  have hfs := fill_segs (fun i => some (i * j.size, j.size)) parts.toList segs z r hs hf
  unfold Instr.build
  rw [Sem.run_bind]
  simp [zeroValue, typeInfo, hi, hzv, run_underlying hu, sizeOf, hj, hzc, hfs]
theorem wp_build_arr {o : Oper} {a : Act} {K : Act → World → Prop} {Q : Exit → Act → World → Prop} (t : TypeId) (parts : Array (Nat × Operand)) (ho : o.op = .build t parts) (n : Nat) (e : TypeId) (size : Nat) (z r : List Value) (segs : List (Nat × List Value)) (hu : P.underlying t = some (.array n e))
    (hz : (P.info? t).bind (fun i => i.zero.map (·.cells)) = some z.toArray) (hsz : (P.info? e).map (·.size) = some size)
    (hs : (parts.map fun p => (p.1, a.eval p.2)).toList.map (fun p => (p.1, p.2.cells)) = segs.map (fun p => (p.1, p.2.toArray))) (hf : fillL (fun i => some (i * size, size)) z segs = some r)
    (h : K (a.put o.dst (.agg r.toArray)) w) : o.wp P a w K Q := by
  unfold Oper.wp execOp
  simp only [ho, Sem.run_bind, run_build_arr w t _ n e size z r segs hu hz hsz hs hf, Result.andThen_ok, Sem.run_pure]
  exact h
end
theorem all_zero : (Try.prog.info? 116).bind (fun i => i.zero.map (·.cells)) = some (List.replicate 1024 (Value.int .u8 0)).toArray := by kernel_rfl
/-- The first k rows, then zeros. -/
def rowsC (f : Nat → List UInt8) (Z : List Value) (k : Nat) : List Value := bv (piecesM f k) ++ Z.drop (k * 32)
theorem rowsC_len {f : Nat → List UInt8} (hf : ∀ k, (f k).length = 32) {Z : List Value} (hz : Z.length = 1024) {k : Nat} (hk : k ≤ 32) : (rowsC f Z k).length = 1024 := by
  unfold rowsC; rw [List.length_append, bv_length, piecesM_length hf, List.length_drop, hz]; omega
theorem rowsC_step {f : Nat → List UInt8} (hf : ∀ k, (f k).length = 32) {Z : List Value} (hz : Z.length = 1024) {k : Nat} (hk : k < 32) : putAt (rowsC f Z k) (k * 32) (bv (f k)) = rowsC f Z (k + 1) := by
  have h1 : (bv (piecesM f k)).length = k * 32 := by rw [bv_length, piecesM_length hf, Nat.mul_comm]
  have h2 : (bv (f k)).length = 32 := by rw [bv_length, hf]
  unfold putAt rowsC
  rw [h2, List.take_left' h1, ← List.drop_drop, List.drop_left' h1, List.drop_drop, piecesM_succ, bv_append, Nat.succ_mul]
set_option maxRecDepth 100000 in
set_option maxHeartbeats 4000000 in
theorem KLeaf (seed : List UInt8) (hs : seed.length = 32) (n : Nat) (hn : (Lit.int .u32 (n : Int)).wf = true) (w : World) :
    Calls Try.prog 42 #[.agg (keyC seed n).toArray] w fun e w' => e = .returned (.agg (bv (leafM seed n)).toArray) ∧ Ext w w' := by
  have hzd := digest_zero
  have hzt := two_zero
  have hdl : (bv (List.replicate 32 0)).length = 32 := by simp
  generalize bv (List.replicate 32 0) = D at hzd hzt hdl
  obtain ⟨Z, hz, hzl⟩ : ∃ Z : List Value, (Try.prog.info? 116).bind (fun i => i.zero.map (·.cells)) = some Z.toArray ∧ Z.length = 1024 := ⟨_, all_zero, List.length_replicate⟩
  have hlf := fun W => LeafW (allM seed n) (piecesM_length (f := rowM seed n) (fun k => rowM_length _ _ _) 32) W
  have hll := fun k (h : k ≤ 32) => rowsC_len (f := rowM seed n) (fun k => rowM_length _ _ _) hzl h
  have hst := fun k (h : k < 32) => rowsC_step (f := rowM seed n) (fun k => rowM_length _ _ _) hzl h
  have hl0 : rowsC (rowM seed n) Z 0 = Z := by simp [rowsC, piecesM, bv]
  have hl32 : rowsC (rowM seed n) Z 32 = bv (allM seed n) := by
    have : Z.drop (32 * 32) = [] := List.drop_of_length_le (by rw [hzl]; decide)
    unfold rowsC allM
    rw [this, List.append_nil]
    rfl
  have hkl := keyC_len hs n
  have hsec := fun (k : Nat) (hk : k < 32) (bt : Nat) (hbt : bt < 2) (x : Int) (hx : x = (bt : Int)) W => Secret_i seed hs n hn k hk bt hbt x hx W
  have hrl : (bv (leafM seed n)).length = 32 := by rw [bv_length]; exact leafOf_length _
  have hro := bv_one (leafM seed n)
  have hlm : leafOf (allM seed n) = leafM seed n := rfl
  rw [hlm] at hlf
  generalize bv (leafM seed n) = R at *
  have hal : (bv (allM seed n)).length = 1024 := by rw [bv_length]; exact piecesM_length (f := rowM seed n) (fun k => rowM_length _ _ _) 32
  generalize bv (allM seed n) = AL at *
  have hb0 : Blk (((w.alloc (.cells (keyC seed n).toArray 96)).alloc (.cells D.toArray 55)).alloc (.cells Z.toArray 116)) w.heap.size 96 (keyC seed n) := ((Blk.new _ _ _).keep ((Ext.refl _).alloc _) (by simp)).keep ((Ext.refl _).alloc _) (by simp)
  have hb1 : Blk (((w.alloc (.cells (keyC seed n).toArray 96)).alloc (.cells D.toArray 55)).alloc (.cells Z.toArray 116)) (w.heap.size + 1) 55 D := (Blk.fresh (by simp) _ _).keep ((Ext.refl _).alloc _) (by simp)
  have hb2 : Blk (((w.alloc (.cells (keyC seed n).toArray 96)).alloc (.cells D.toArray 55)).alloc (.cells Z.toArray 116)) (w.heap.size + 1 + 1) 116 Z := Blk.fresh (by simp) _ _
  have hx0 : Ext w (((w.alloc (.cells (keyC seed n).toArray 96)).alloc (.cells D.toArray 55)).alloc (.cells Z.toArray 116)) := (((Ext.refl w).alloc _).alloc _).alloc _
  obtain ⟨LL, hLL⟩ : ∃ LL, LL = rowsC (rowM seed n) Z := ⟨_, rfl⟩
  rw [← hLL] at hl0 hl32 hll hst
  generalize keyC seed n = KC at *
  have HB0 := Lib.hid hb0
  have HB1 := Lib.hid hb1
  have HB2 := Lib.hid hb2
  have HX0 := Lib.hid hx0
  have HL0 := Lib.hid hl0
  have HL32 := Lib.hid hl32
  have HLLN := Lib.hid hll
  have HST := Lib.hid hst
  have HKL := Lib.hid hkl
  have HSEC := Lib.hid hsec
  have HLF := Lib.hid hlf
  have HRL := Lib.hid hrl
  have HAL := Lib.hid hal
  have HDL := Lib.hid hdl
  clear hb0 hb1 hb2 hx0 hl0 hl32 hll hst hkl hsec hlf hrl hdl hLL hlm hal hzl
  go_enter Try.func42, Try.ntmps42
  go_wp2_with (first
    | (refine wpList_alloc _ rfl 55 rfl _ hzd ?_)
    | (refine wpList_alloc _ rfl 116 rfl _ hz ?_)
    | fail)
  go_loopw [4, 5] (fun p i wr => ∃ k : Nat, k ≤ 32 ∧ i = .int .i64 k ∧ Ext w wr ∧ Blk wr w.heap.size 96 KC ∧ Blk wr (w.heap.size + 1) 55 D ∧ Blk wr (w.heap.size + 1 + 1) 116 (LL k)) (fun _ i _ => 32 - (intOf i).toNat)
  case atStart => exact ⟨0, by omega, rfl, HX0.out, HB0.out, HB1.out, by rw [HL0.out]; exact HB2.out⟩
  case round =>
    clear HX0 HB0 HB1 HB2
    obtain ⟨k, hk, rfl, hx, hb0, hb1, hb2⟩ := hrel
    by_cases hlt : k < 32
    · have hs0 := fun W => HSEC.out k hlt 0 (by decide) 0 rfl W
      have hs1 := fun W => HSEC.out k hlt 1 (by decide) 1 rfl W
      have hc0 := fun W => Cover (secretM seed n k 0) (secretM_length _ _ _ _) W
      have hc1 := fun W => Cover (secretM seed n k 1) (secretM_length _ _ _ _) W
      have hl0 : (bv (coverM (secretM seed n k 0))).length = 16 := by rw [bv_length, coverM_length]
      have hl1 : (bv (coverM (secretM seed n k 1))).length = 16 := by rw [bv_length, coverM_length]
      have hpl : (bv (rowM seed n k)).length = 32 := by rw [bv_length, rowM_length]
      have hpo := bv_one (rowM seed n k)
      have hpe : bv (rowM seed n k) = bv (coverM (secretM seed n k 0)) ++ bv (coverM (secretM seed n k 1)) := by unfold rowM; rw [bv_append]
      have hstk := HST.out k hlt
      generalize bv (secretM seed n k 0) = S0 at *
      generalize bv (secretM seed n k 1) = S1 at *
      generalize bv (coverM (secretM seed n k 0)) = P0 at *
      generalize bv (coverM (secretM seed n k 1)) = P1 at *
      generalize bv (rowM seed n k) = PP at *
      have hfl : fillL (fun i => some (i * 16, 16)) D [(0, P0), (1, P1)] = some PP := by
        have hd := HDL.out
        rw [hpe]
        simp [fillL, hl0, hl1, hd]
      have HS0 := Lib.hid hs0
      have HS1 := Lib.hid hs1
      have HC0 := Lib.hid hc0
      have HC1 := Lib.hid hc1
      have HFL := Lib.hid hfl
      have HPL := Lib.hid hpl
      have HSTK := Lib.hid hstk
      have HLL : Hid ((LL k).length = 1024) := Lib.hid (HLLN.out k (by omega))
      have HX := Lib.hid hx
      have HB0 : Hid (Blk wr.drew w.heap.size 96 KC) := Lib.hid hb0
      have HB1 := Lib.hid hb1
      have HB2 : Hid (Blk wr.drew (w.heap.size + 1 + 1) 116 (LL k)) := Lib.hid hb2
      clear hs0 hs1 hc0 hc1 hfl hpl hpe hstk hx hb0 hb1 hb2 hl0 hl1
      go_wp2_with fail
      generalize hg : w.heap.size + 1 + 1 = g at *
      have HG := Lib.hid hg
      have hdk : decide ((k : Int) < 32) = true := by rw [decide_eq_true_iff]; omega
      simp only [hdk]
      clear hg hdk
      refine stab_store Ext ext_refl ext_trans [[0], [1], [2], [1, 2, 3], [1, 2, 3, 4], [5], [6], [1, 2, 3, 4, 5, 6, 7], [1, 2, 3, 4, 5, 6, 7, 8], [1, 2, 3, 4, 5, 6, 7, 8, 9], [0, 1, 2, 3, 4, 5, 6, 7, 8, 9, 10], [0, 1, 2, 3, 4, 5, 6, 7, 8, 9, 10, 11]] (fun i v wv => match i with | 0 => v = .int .i64 (k : Int) | 1 => v = .agg KC.toArray | 2 => v = .int .i64 (k : Int) | 3 => v = .agg S0.toArray | 4 => v = .agg P0.toArray | 5 => v = .agg KC.toArray | 6 => v = .int .i64 (k : Int) | 7 => v = .agg S1.toArray | 8 => v = .agg P1.toArray | 9 => v = .agg PP.toArray | 10 => v = .pointer (some ⟨g, k * 32, none⟩) | _ => True) (by kernel_rfl) (by kernel_rfl) (by kernel_rfl) (by kernel_rfl) (by simp) ?_ ?_ ?_
      · intro i v w1 w2 h hx
        match i, h with
        | 0, h => exact h
        | 1, h => exact h
        | 2, h => exact h
        | 3, h => exact h
        | 4, h => exact h
        | 5, h => exact h
        | 6, h => exact h
        | 7, h => exact h
        | 8, h => exact h
        | 9, h => exact h
        | 10, h => exact h
        | i + 11, h => trivial
      · intro i hi o ho
        match i, hi, ho with
        | 0, _, ho =>
          obtain rfl := Option.some.inj ho
          intro s W hX hd K hK
          rw [if_pos (wanted_plain rfl)]
          clear hd
          replace hK : ∀ (v : Value) (W' : World), Ext W W' → (v = .int .i64 (k : Int)) → _ := hK
          simp only [mkOf, List.map_cons, List.map_nil, Act.put, List.setIfInBounds_toArray, List.set_cons_succ, List.set_cons_zero, Nat.reduceAdd, Nat.zero_add] at hK ⊢
          go_simp
          exact hK _ _ (Ext.refl _) rfl
        | 1, _, ho =>
          obtain rfl := Option.some.inj ho
          intro s W hX hd K hK
          rw [if_pos (wanted_plain rfl)]
          clear hd
          replace hK : ∀ (v : Value) (W' : World), Ext W W' → (v = .agg KC.toArray) → _ := hK
          simp only [mkOf, List.map_cons, List.map_nil, Act.put, List.setIfInBounds_toArray, List.set_cons_succ, List.set_cons_zero, Nat.reduceAdd, Nat.zero_add] at hK ⊢
          refine wp_load_agg 96 (.tmp 1) rfl _ rfl KC _ Try.underlying96 rfl (key_size HKL.out) (HB0.out.keep hX (by simp)).cells ?_
          exact hK _ _ (Ext.refl _) rfl
        | 2, _, ho =>
          obtain rfl := Option.some.inj ho
          intro s W hX hd K hK
          rw [if_pos (wanted_plain rfl)]
          clear hd
          replace hK : ∀ (v : Value) (W' : World), Ext W W' → (v = .int .i64 (k : Int)) → _ := hK
          simp only [mkOf, List.map_cons, List.map_nil, Act.put, List.setIfInBounds_toArray, List.set_cons_succ, List.set_cons_zero, Nat.reduceAdd, Nat.zero_add] at hK ⊢
          go_simp
          exact hK _ _ (Ext.refl _) rfl
        | 3, _, ho =>
          obtain rfl := Option.some.inj ho
          intro s W hX hd K hK
          rw [if_pos (wanted_plain rfl)]
          have d9 : (s 1) = .agg KC.toArray := hd 1 (by decide) (by decide)
          have d10 : (s 2) = .int .i64 (k : Int) := hd 2 (by decide) (by decide)
          clear hd
          replace hK : ∀ (v : Value) (W' : World), Ext W W' → (v = .agg S0.toArray) → _ := hK
          simp only [mkOf, List.map_cons, List.map_nil, Act.put, List.setIfInBounds_toArray, List.set_cons_succ, List.set_cons_zero, Nat.reduceAdd, Nat.zero_add] at hK ⊢
          simp only [d9, d10] at hK ⊢
          go_simp
          refine (HS0.out _).mono ?_
          rintro e w' ⟨rfl, hx⟩
          exact hK _ _ hx rfl
        | 4, _, ho =>
          obtain rfl := Option.some.inj ho
          intro s W hX hd K hK
          rw [if_pos (wanted_plain rfl)]
          have d11 : (s 3) = .agg S0.toArray := hd 3 (by decide) (by decide)
          clear hd
          replace hK : ∀ (v : Value) (W' : World), Ext W W' → (v = .agg P0.toArray) → _ := hK
          simp only [mkOf, List.map_cons, List.map_nil, Act.put, List.setIfInBounds_toArray, List.set_cons_succ, List.set_cons_zero, Nat.reduceAdd, Nat.zero_add] at hK ⊢
          simp only [d11] at hK ⊢
          go_simp
          refine (HC0.out _).mono ?_
          rintro e w' ⟨rfl, hx⟩
          exact hK _ _ hx rfl
        | 5, _, ho =>
          obtain rfl := Option.some.inj ho
          intro s W hX hd K hK
          rw [if_pos (wanted_plain rfl)]
          clear hd
          replace hK : ∀ (v : Value) (W' : World), Ext W W' → (v = .agg KC.toArray) → _ := hK
          simp only [mkOf, List.map_cons, List.map_nil, Act.put, List.setIfInBounds_toArray, List.set_cons_succ, List.set_cons_zero, Nat.reduceAdd, Nat.zero_add] at hK ⊢
          refine wp_load_agg 96 (.tmp 1) rfl _ rfl KC _ Try.underlying96 rfl (key_size HKL.out) (HB0.out.keep hX (by simp)).cells ?_
          exact hK _ _ (Ext.refl _) rfl
        | 6, _, ho =>
          obtain rfl := Option.some.inj ho
          intro s W hX hd K hK
          rw [if_pos (wanted_plain rfl)]
          clear hd
          replace hK : ∀ (v : Value) (W' : World), Ext W W' → (v = .int .i64 (k : Int)) → _ := hK
          simp only [mkOf, List.map_cons, List.map_nil, Act.put, List.setIfInBounds_toArray, List.set_cons_succ, List.set_cons_zero, Nat.reduceAdd, Nat.zero_add] at hK ⊢
          go_simp
          exact hK _ _ (Ext.refl _) rfl
        | 7, _, ho =>
          obtain rfl := Option.some.inj ho
          intro s W hX hd K hK
          rw [if_pos (wanted_plain rfl)]
          have d13 : (s 5) = .agg KC.toArray := hd 5 (by decide) (by decide)
          have d14 : (s 6) = .int .i64 (k : Int) := hd 6 (by decide) (by decide)
          clear hd
          replace hK : ∀ (v : Value) (W' : World), Ext W W' → (v = .agg S1.toArray) → _ := hK
          simp only [mkOf, List.map_cons, List.map_nil, Act.put, List.setIfInBounds_toArray, List.set_cons_succ, List.set_cons_zero, Nat.reduceAdd, Nat.zero_add] at hK ⊢
          simp only [d13, d14] at hK ⊢
          go_simp
          refine (HS1.out _).mono ?_
          rintro e w' ⟨rfl, hx⟩
          exact hK _ _ hx rfl
        | 8, _, ho =>
          obtain rfl := Option.some.inj ho
          intro s W hX hd K hK
          rw [if_pos (wanted_plain rfl)]
          have d15 : (s 7) = .agg S1.toArray := hd 7 (by decide) (by decide)
          clear hd
          replace hK : ∀ (v : Value) (W' : World), Ext W W' → (v = .agg P1.toArray) → _ := hK
          simp only [mkOf, List.map_cons, List.map_nil, Act.put, List.setIfInBounds_toArray, List.set_cons_succ, List.set_cons_zero, Nat.reduceAdd, Nat.zero_add] at hK ⊢
          simp only [d15] at hK ⊢
          go_simp
          refine (HC1.out _).mono ?_
          rintro e w' ⟨rfl, hx⟩
          exact hK _ _ hx rfl
        | 9, _, ho =>
          obtain rfl := Option.some.inj ho
          intro s W hX hd K hK
          rw [if_pos (wanted_plain rfl)]
          have d12 : (s 4) = .agg P0.toArray := hd 4 (by decide) (by decide)
          have d16 : (s 8) = .agg P1.toArray := hd 8 (by decide) (by decide)
          clear hd
          replace hK : ∀ (v : Value) (W' : World), Ext W W' → (v = .agg PP.toArray) → _ := hK
          simp only [mkOf, List.map_cons, List.map_nil, Act.put, List.setIfInBounds_toArray, List.set_cons_succ, List.set_cons_zero, Nat.reduceAdd, Nat.zero_add] at hK ⊢
          simp only [d12, d16] at hK ⊢
          refine wp_build_arr 115 #[(0, .tmp 12), (1, .tmp 16)] rfl 2 33 16 D PP [(0, P0), (1, P1)] Try.underlying115 hzt (piece_size rfl) (by simp [Value.cells, Act.eval]) HFL.out ?_
          exact hK _ _ (Ext.refl _) rfl
        | 10, _, ho =>
          obtain rfl := Option.some.inj ho
          intro s W hX hd K hK
          rw [if_pos (wanted_plain rfl)]
          have d8 : (s 0) = .int .i64 (k : Int) := hd 0 (by decide) (by decide)
          clear hd
          replace hK : ∀ (v : Value) (W' : World), Ext W W' → (v = .pointer (some ⟨g, k * 32, none⟩)) → _ := hK
          simp only [mkOf, List.map_cons, List.map_nil, Act.put, List.setIfInBounds_toArray, List.set_cons_succ, List.set_cons_zero, Nat.reduceAdd, Nat.zero_add] at hK ⊢
          simp only [d8] at hK ⊢
          go_simp
          exact hK _ _ (Ext.refl _) rfl
        | i + 11, hi, _ => exact absurd hi (by simp)
      · intro o ho
        obtain rfl := Option.some.inj ho
        intro s W hX hd K hK
        rw [if_pos (wanted_plain rfl)]
        have d8 : (s 0) = .int .i64 (k : Int) := hd 0 (by decide)
        have d9 : (s 1) = .agg KC.toArray := hd 1 (by decide)
        have d10 : (s 2) = .int .i64 (k : Int) := hd 2 (by decide)
        have d11 : (s 3) = .agg S0.toArray := hd 3 (by decide)
        have d12 : (s 4) = .agg P0.toArray := hd 4 (by decide)
        have d13 : (s 5) = .agg KC.toArray := hd 5 (by decide)
        have d14 : (s 6) = .int .i64 (k : Int) := hd 6 (by decide)
        have d15 : (s 7) = .agg S1.toArray := hd 7 (by decide)
        have d16 : (s 8) = .agg P1.toArray := hd 8 (by decide)
        have d17 : (s 9) = .agg PP.toArray := hd 9 (by decide)
        have d18 : (s 10) = .pointer (some ⟨g, k * 32, none⟩) := hd 10 (by decide)
        clear hd
        simp only [mkOf, List.map_cons, List.map_nil, Act.put, List.setIfInBounds_toArray, List.set_cons_succ, List.set_cons_zero, Nat.reduceAdd, Nat.zero_add]
        refine wp_store_part W 115 (.tmp 18) (.tmp 17) rfl g (k * 32) (by simpa [Act.eval] using d18) (LL k) PP _ (by simpa [Act.eval] using d17) (HB2.out.keep hX (by simp)) (two_size HPL.out) (by rw [HLL.out, HPL.out]; omega) hpo ?_
        refine hK _ _ ?_
        have hx2 : Ext w W := HX.out.trans ((Ext.refl wr).drew.trans hX)
        have hx9 : Ext w (W.setRow g (putAt (LL k) (k * 32) PP).toArray) := setRow_grown hx2 _ _ (by have := HG.out; omega)
        have hb0 : Blk (W.setRow g (putAt (LL k) (k * 32) PP).toArray) w.heap.size 96 KC := (HB0.out.keep hX (by simp)).keep (setRow_only _) (by have := HG.out; simp; omega)
        have hb1 : Blk (W.setRow g (putAt (LL k) (k * 32) PP).toArray) (w.heap.size + 1) 55 D := ((HB1.out.keep (Ext.refl wr).drew (by simp)).keep hX (by simp)).keep (setRow_only _) (by have := HG.out; simp; omega)
        have hb2 : Blk (W.setRow g (putAt (LL k) (k * 32) PP).toArray) g 116 (LL (k + 1)) := by rw [← HSTK.out]; exact setRow_at (HB2.out.keep hX (by simp))
        generalize W.setRow g (putAt (LL k) (k * 32) PP).toArray = V at *
        have hge := HG.out
        subst hge
        have HX9 := Lib.hid hx9
        have HB90 := Lib.hid hb0
        have HB91 := Lib.hid hb1
        have HB92 := Lib.hid hb2
        clear hx9 hb0 hb1 hb2 hX hK hx2
        (try simp only [Exit.then])
        go_wp2_with fail
        go_roundw
        case rel => exact ⟨k + 1, by omega, by go_num, HX9.out, HB90.out, HB91.out, HB92.out⟩
        case measure => simp [intOf]; omega
    · obtain rfl : k = 32 := by omega
      rw [HL32.out] at hb2
      have hcm := hb2.cells
      have HX := Lib.hid hx
      have HB1 := Lib.hid hb1
      clear hx hb0 hb1 hb2
      go_wp2_with (first
        | (refine wpList_load_agg _ rfl 116 (.tmp 3) rfl _ rfl AL _ Try.underlying116 rfl (all_size HAL.out) hcm ?_)
        | fail)
      refine (HLF.out _).mono ?_
      rintro e w4 ⟨rfl, hx4⟩
      have hr4 : w4.heap[w.heap.size + 1]? = some (.cells D.toArray 55 (0, 0)) := HB1.out.keep hx4 (by simp)
      have hx5 := HX.out.trans hx4
      go_wp2_with (first
        | (refine wpList_store_row _ rfl 55 (.tmp 2) (.tmp 21) rfl (w.heap.size + 1) rfl D R _ rfl hr4 (digest_size HRL.out) (by rw [HRL.out, HDL.out]) hro ?_)
        | fail)
      have hc9 := Blk.cells (t := 55) (setRow_at (cs' := R.toArray) hr4)
      (try simp only [Exit.inBlock, Exit.then])
      refine bodyPost_ret (results_agg rfl _ _ _ _ _ rfl Try.underlying55 rfl (digest_size HRL.out) hc9) rfl ?_
      exact ⟨rfl, setRow_grown hx5 _ _ (by omega)⟩
end
section
open Go.RowKit

/-- What a signature's k-th pieces come to. -/
def rowS (S d : List UInt8) (k : Nat) : List UInt8 := rowFrom (bitM d k) ((S.drop (k * 16)).take 16) ((S.drop (512 + k * 16)).take 16)
def fromS (S d : List UInt8) : List UInt8 := leafOf (piecesM (rowS S d) 32)
theorem rowFrom_length {b : Nat} {op ot : List UInt8} (h : ot.length = 16) : (rowFrom b op ot).length = 32 := by
  unfold rowFrom
  split <;> rw [List.length_append, coverM_length, h]
theorem putAt_mid (pre T X : List Value) {n m : Nat} (hn : pre.length = n) (hm : X.length = m) : putAt (pre ++ T) n X = pre ++ X ++ T.drop m := by
  subst hn; subst hm
  unfold putAt
  rw [List.take_left' rfl, ← List.drop_drop, List.drop_left' rfl]
theorem rows_two (f : Nat → List UInt8) {Z X Y : List Value} {k b c : Nat} (hpl : (bv (piecesM f k)).length = k * 32) (hz : Z.length = 1024) (hk : k < 32) (hX : X.length = 16) (hY : Y.length = 16) (hbc : b + c = 1) (hf : bv (f k) = if b = 0 then X ++ Y else Y ++ X) :
    putAt (putAt (rowsC f Z k) (k * 32 + b * 16) X) (k * 32 + c * 16) Y = rowsC f Z (k + 1) := by
  have hT : (Z.drop (k * 32)).drop 32 = Z.drop ((k + 1) * 32) := by rw [List.drop_drop, Nat.succ_mul]
  have hTl : 32 ≤ (Z.drop (k * 32)).length := by rw [List.length_drop, hz]; omega
  unfold rowsC
  rw [piecesM_succ, bv_append, ← hT, hf]
  generalize bv (piecesM f k) = pre at *
  generalize Z.drop (k * 32) = T at *
  rcases (show b = 0 ∧ c = 1 ∨ b = 1 ∧ c = 0 by omega) with ⟨rfl, rfl⟩ | ⟨rfl, rfl⟩
  · rw [show k * 32 + 0 * 16 = k * 32 by omega, putAt_mid pre T X hpl hX, show k * 32 + 1 * 16 = k * 32 + 16 by omega, putAt_mid (pre ++ X) _ Y (by rw [List.length_append, hpl, hX]) hY, List.drop_drop, if_pos rfl]
    simp [List.append_assoc]
  · have e : pre ++ T = (pre ++ T.take 16) ++ T.drop 16 := by rw [List.append_assoc, List.take_append_drop]
    rw [show k * 32 + 1 * 16 = k * 32 + 16 by omega, e, putAt_mid (pre ++ T.take 16) _ X (by rw [List.length_append, hpl, List.length_take]; omega) hX, show k * 32 + 0 * 16 = k * 32 by omega, List.drop_drop, List.append_assoc, List.append_assoc, putAt_mid pre _ Y hpl hY, if_neg (by decide)]
    rw [List.drop_left' (by rw [List.length_take]; omega)]
    simp [List.append_assoc]
set_option maxRecDepth 100000 in
set_option maxHeartbeats 4000000 in
theorem From (S : List UInt8) (hS : S.length = 1024) (d : List UInt8) (hd : d.length = 32) (w : World) :
    Calls Try.prog 37 #[.agg (bv S).toArray, .agg (bv d).toArray] w fun e w' => e = .returned (.agg (bv (fromS S d)).toArray) ∧ Ext w w' := by
  have hzd := digest_zero
  have hdl0 : (bv (List.replicate 32 0)).length = 32 := by simp
  generalize bv (List.replicate 32 0) = D at hzd hdl0
  obtain ⟨Z, hz, hzl⟩ : ∃ Z : List Value, (Try.prog.info? 116).bind (fun i => i.zero.map (·.cells)) = some Z.toArray ∧ Z.length = 1024 := ⟨_, all_zero, List.length_replicate⟩
  have hp1l : ∀ k, k < 32 → ((S.drop (k * 16)).take 16).length = 16 := fun k h => by rw [List.length_take, List.length_drop, hS]; omega
  have hp2l : ∀ k, k < 32 → ((S.drop (512 + k * 16)).take 16).length = 16 := fun k h => by rw [List.length_take, List.length_drop, hS]; omega
  have hpl : ∀ k, k ≤ 32 → (piecesM (rowS S d) k).length = k * 32 := by
    intro k
    induction k with
    | zero => intro _; simp [piecesM]
    | succ k ih => intro h; rw [piecesM_succ, List.length_append, ih (by omega), rowS, rowFrom_length (hp2l k (by omega)), Nat.succ_mul]
  have hlf := fun W => LeafW (piecesM (rowS S d) 32) (hpl 32 (Nat.le_refl _)) W
  have hal : (bv (piecesM (rowS S d) 32)).length = 1024 := by rw [bv_length]; exact hpl 32 (Nat.le_refl _)
  have hll : ∀ k, k ≤ 32 → (rowsC (rowS S d) Z k).length = 1024 := fun k h => by unfold rowsC; rw [List.length_append, bv_length, hpl k h, List.length_drop, hzl]; omega
  have hst := fun k (h : k < 32) X Y b c hX hY hbc hf => rows_two (rowS S d) (Z := Z) (X := X) (Y := Y) (k := k) (b := b) (c := c) (by rw [bv_length]; exact hpl k (by omega)) hzl h hX hY hbc hf
  have hl0 : rowsC (rowS S d) Z 0 = Z := by simp [rowsC, piecesM, bv]
  have hl32 : rowsC (rowS S d) Z 32 = bv (piecesM (rowS S d) 32) := by
    have : Z.drop (32 * 32) = [] := List.drop_of_length_le (by rw [hzl]; decide)
    unfold rowsC
    rw [this, List.append_nil]
  have hbit := fun (k : Nat) (hk : k < 32) W => Bit d hd k hk W
  have hrl : (bv (fromS S d)).length = 32 := by rw [bv_length]; exact leafOf_length _
  have hro := bv_one (fromS S d)
  have hlm : leafOf (piecesM (rowS S d) 32) = fromS S d := rfl
  rw [hlm] at hlf
  have hdl : (bv d).length = 32 := by rw [bv_length]; exact hd
  have hsl : (bv S).length = 1024 := by rw [bv_length]; exact hS
  have hq := bv_drop_take S
  have hb0 : Blk ((((w.alloc (.cells (bv S).toArray 36)).alloc (.cells (bv d).toArray 55)).alloc (.cells D.toArray 55)).alloc (.cells Z.toArray 116)) w.heap.size 36 (bv S) := (((Blk.new _ _ _).keep ((Ext.refl _).alloc _) (by simp)).keep ((Ext.refl _).alloc _) (by simp)).keep ((Ext.refl _).alloc _) (by simp)
  have hb1 : Blk ((((w.alloc (.cells (bv S).toArray 36)).alloc (.cells (bv d).toArray 55)).alloc (.cells D.toArray 55)).alloc (.cells Z.toArray 116)) (w.heap.size + 1) 55 (bv d) := ((Blk.fresh (by simp) _ _).keep ((Ext.refl _).alloc _) (by simp)).keep ((Ext.refl _).alloc _) (by simp)
  have hb2 : Blk ((((w.alloc (.cells (bv S).toArray 36)).alloc (.cells (bv d).toArray 55)).alloc (.cells D.toArray 55)).alloc (.cells Z.toArray 116)) (w.heap.size + 1 + 1) 55 D := (Blk.fresh (by simp) _ _).keep ((Ext.refl _).alloc _) (by simp)
  have hb3 : Blk ((((w.alloc (.cells (bv S).toArray 36)).alloc (.cells (bv d).toArray 55)).alloc (.cells D.toArray 55)).alloc (.cells Z.toArray 116)) (w.heap.size + 1 + 1 + 1) 116 Z := Blk.fresh (by simp) _ _
  have hx0 : Ext w ((((w.alloc (.cells (bv S).toArray 36)).alloc (.cells (bv d).toArray 55)).alloc (.cells D.toArray 55)).alloc (.cells Z.toArray 116)) := ((((Ext.refl w).alloc _).alloc _).alloc _).alloc _
  obtain ⟨LL, hLL⟩ : ∃ LL, LL = rowsC (rowS S d) Z := ⟨_, rfl⟩
  rw [← hLL] at hl0 hl32 hll hst
  generalize bv (fromS S d) = R at *
  generalize bv (piecesM (rowS S d) 32) = AL at *
  generalize bv S = C at *
  generalize bv d = DC at *
  have HB0 := Lib.hid hb0
  have HB1 := Lib.hid hb1
  have HB2 := Lib.hid hb2
  have HB3 := Lib.hid hb3
  have HX0 := Lib.hid hx0
  have HL0 := Lib.hid hl0
  have HL32 := Lib.hid hl32
  have HLLN := Lib.hid hll
  have HST := Lib.hid hst
  have HBIT := Lib.hid hbit
  have HLF := Lib.hid hlf
  have HRL := Lib.hid hrl
  have HAL := Lib.hid hal
  have HDL0 := Lib.hid hdl0
  have HDL := Lib.hid hdl
  have HQ := Lib.hid hq
  have HPA := Lib.hid hp1l
  have HPB := Lib.hid hp2l
  clear hb0 hb1 hb2 hb3 hx0 hl0 hl32 hll hst hbit hlf hrl hdl hdl0 hLL hlm hal hzl hq hp1l hp2l hsl hpl
  go_enter Try.func37, Try.ntmps37
  go_wp2_with (first
    | (refine wpList_alloc _ rfl 55 rfl _ hzd ?_)
    | (refine wpList_alloc _ rfl 116 rfl _ hz ?_)
    | fail)
  go_loopw [6, 7, 8] (fun p q i wr => ∃ k : Nat, k ≤ 32 ∧ i = .int .i64 k ∧ Ext w wr ∧ Blk wr w.heap.size 36 C ∧ Blk wr (w.heap.size + 1) 55 DC ∧ Blk wr (w.heap.size + 1 + 1) 55 D ∧ Blk wr (w.heap.size + 1 + 1 + 1) 116 (LL k)) (fun _ _ i _ => 32 - (intOf i).toNat)
  case atStart => exact ⟨0, by omega, rfl, HX0.out, HB0.out, HB1.out, HB2.out, by rw [HL0.out]; exact HB3.out⟩
  case round =>
    clear HX0 HB0 HB1 HB2 HB3
    obtain ⟨k, hk, rfl, hx, hb0, hb1, hb2, hb3⟩ := hrel
    by_cases hlt : k < 32
    · have hcd := hb1.cells
      have hbt := fun W => HBIT.out k hlt W
      have hbl := bitM_lt d k
      have hq1 := HQ.out (k * 16) 16
      have hq2 := HQ.out (512 + k * 16) 16
      have hl1 : (bv ((S.drop (k * 16)).take 16)).length = 16 := by rw [bv_length]; exact HPA.out k hlt
      have hl2 : (bv ((S.drop (512 + k * 16)).take 16)).length = 16 := by rw [bv_length]; exact HPB.out k hlt
      have hpo2 := bv_one ((S.drop (512 + k * 16)).take 16)
      have hcv := fun W => Cover ((S.drop (k * 16)).take 16) (HPA.out k hlt) W
      have hcl : (bv (coverM ((S.drop (k * 16)).take 16))).length = 16 := by rw [bv_length, coverM_length]
      have hco := bv_one (coverM ((S.drop (k * 16)).take 16))
      have hrow : bv (rowS S d k) = if bitM d k = 0 then bv (coverM ((S.drop (k * 16)).take 16)) ++ bv ((S.drop (512 + k * 16)).take 16) else bv ((S.drop (512 + k * 16)).take 16) ++ bv (coverM ((S.drop (k * 16)).take 16)) := by
        unfold rowS rowFrom
        split <;> rw [bv_append]
      have hstk := HST.out k hlt _ _ (bitM d k) (1 - bitM d k) hcl hl2 (by omega) hrow
      have hll := HLLN.out k (by omega)
      have hbc : bitM d k + (1 - bitM d k) = 1 := by omega
      generalize 1 - bitM d k = c at *
      generalize bitM d k = b at *
      generalize bv (coverM ((S.drop (k * 16)).take 16)) = CV at *
      generalize bv ((S.drop (k * 16)).take 16) = P1 at *
      generalize bv ((S.drop (512 + k * 16)).take 16) = P2 at *
      have hpll : (putAt (LL k) (k * 32 + b * 16) CV).length = 1024 := by rw [putAt_len (by rw [hll, hcl]; omega), hll]
      have HX := Lib.hid hx
      have HB0 := Lib.hid hb0
      have HB1 := Lib.hid hb1
      have HB2 := Lib.hid hb2
      have HB3r := Lib.hid hb3
      have HBT := Lib.hid hbt
      have HBL := Lib.hid hbl
      have HBC := Lib.hid hbc
      have HWR : Hid (IntKind.u8.wrap (1 - (b : Int)) = (c : Int)) := Lib.hid (by simp [IntKind.wrap, IntKind.bits, IntKind.signed]; omega)
      have HQ1 := Lib.hid hq1
      have HQ2 := Lib.hid hq2
      have HP1 := Lib.hid hl1
      have HP2 := Lib.hid hl2
      have HCV := Lib.hid hcv
      have HCL := Lib.hid hcl
      have HSTK := Lib.hid hstk
      have HLL := Lib.hid hll
      have HPLL := Lib.hid hpll
      clear hx hb0 hb1 hb2 hb3 hbt hbl hbc hq1 hq2 hl1 hl2 hcv hcl hstk hll hpll hrow
      go_wp2_with (first
        | (refine wpList_load_agg _ rfl 55 (.tmp 3) rfl _ rfl DC _ Try.underlying55 rfl (digest_size HDL.out) hcd ?_)
        | (go_at_call 63; refine (HBT.out _).mono ?_; rintro e w1 ⟨rfl, hx1⟩)
        | fail)
      have hbk0 := HB0.out.keep (hx1.trans (Ext.refl w1).drew) (by simp)
      have HK1 : Hid (∀ W, Ext w1.drew W → Cells W ⟨w.heap.size, k * 16, none⟩ P1) := Lib.hid fun W h => by have h2 := ((hbk0.keep h (by simp)).cells.drop (k * 16)).take 16; rw [addr_at, HQ1.out] at h2; exact h2
      have HB3 := Lib.hid (HB3r.out.keep (hx1.trans (Ext.refl w1).drew) (by simp))
      have HX1 := Lib.hid (hx1.trans (Ext.refl w1).drew)
      generalize hg : w.heap.size + 1 + 1 + 1 = g at *
      have HG := Lib.hid hg
      have hdk : decide ((k : Int) < 32) = true := by rw [decide_eq_true_iff]; omega
      (try simp only [hdk])
      clear hg hdk hcd hx1 hbk0
      refine stab_store Ext ext_refl ext_trans [[0], [1], [2], [3], [2, 3, 4], [2, 3, 4, 5], [2, 3, 4, 5, 6], [0, 7], [0, 1, 2, 3, 4, 5, 6, 7, 8], [0, 1, 2, 3, 4, 5, 6, 7, 8, 9]] (fun i v wv => match i with | 0 => v = .int .i64 (k : Int) | 1 => v = .int .u8 (b : Int) | 2 => v = .int .i64 (k : Int) | 3 => v = .pointer (some ⟨w.heap.size, 0, none⟩) | 4 => v = .pointer (some ⟨w.heap.size, k * 16, none⟩) | 5 => v = .agg P1.toArray | 6 => v = .agg CV.toArray | 7 => v = .pointer (some ⟨g, k * 32, none⟩) | 8 => v = .pointer (some ⟨g, k * 32 + b * 16, none⟩) | _ => True) (by kernel_rfl) (by kernel_rfl) (by kernel_rfl) (by kernel_rfl) (by simp) ?_ ?_ ?_
      · intro i v w1 w2 h hx
        match i, h with
        | 0, h => exact h
        | 1, h => exact h
        | 2, h => exact h
        | 3, h => exact h
        | 4, h => exact h
        | 5, h => exact h
        | 6, h => exact h
        | 7, h => exact h
        | 8, h => exact h
        | i + 9, h => trivial
      · intro i hi o ho
        match i, hi, ho with
        | 0, _, ho =>
          obtain rfl := Option.some.inj ho
          intro s W hX hd K hK
          rw [if_pos (wanted_plain rfl)]
          clear hd
          replace hK : ∀ (v : Value) (W' : World), Ext W W' → (v = .int .i64 (k : Int)) → _ := hK
          simp only [mkOf, List.map_cons, List.map_nil, Act.put, List.setIfInBounds_toArray, List.set_cons_succ, List.set_cons_zero, Nat.reduceAdd, Nat.zero_add] at hK ⊢
          go_simp
          exact hK _ _ (Ext.refl _) rfl
        | 1, _, ho =>
          obtain rfl := Option.some.inj ho
          intro s W hX hd K hK
          rw [if_pos (wanted_plain rfl)]
          clear hd
          replace hK : ∀ (v : Value) (W' : World), Ext W W' → (v = .int .u8 (b : Int)) → _ := hK
          simp only [mkOf, List.map_cons, List.map_nil, Act.put, List.setIfInBounds_toArray, List.set_cons_succ, List.set_cons_zero, Nat.reduceAdd, Nat.zero_add] at hK ⊢
          go_simp
          exact hK _ _ (Ext.refl _) rfl
        | 2, _, ho =>
          obtain rfl := Option.some.inj ho
          intro s W hX hd K hK
          rw [if_pos (wanted_plain rfl)]
          clear hd
          replace hK : ∀ (v : Value) (W' : World), Ext W W' → (v = .int .i64 (k : Int)) → _ := hK
          simp only [mkOf, List.map_cons, List.map_nil, Act.put, List.setIfInBounds_toArray, List.set_cons_succ, List.set_cons_zero, Nat.reduceAdd, Nat.zero_add] at hK ⊢
          go_simp
          exact hK _ _ (Ext.refl _) rfl
        | 3, _, ho =>
          obtain rfl := Option.some.inj ho
          intro s W hX hd K hK
          rw [if_pos (wanted_plain rfl)]
          clear hd
          replace hK : ∀ (v : Value) (W' : World), Ext W W' → (v = .pointer (some ⟨w.heap.size, 0, none⟩)) → _ := hK
          simp only [mkOf, List.map_cons, List.map_nil, Act.put, List.setIfInBounds_toArray, List.set_cons_succ, List.set_cons_zero, Nat.reduceAdd, Nat.zero_add] at hK ⊢
          go_simp
          exact hK _ _ (Ext.refl _) rfl
        | 4, _, ho =>
          obtain rfl := Option.some.inj ho
          intro s W hX hd K hK
          rw [if_pos (wanted_plain rfl)]
          have d16 : (s 2) = .int .i64 (k : Int) := hd 2 (by decide) (by decide)
          have d17 : (s 3) = .pointer (some ⟨w.heap.size, 0, none⟩) := hd 3 (by decide) (by decide)
          clear hd
          replace hK : ∀ (v : Value) (W' : World), Ext W W' → (v = .pointer (some ⟨w.heap.size, k * 16, none⟩)) → _ := hK
          simp only [mkOf, List.map_cons, List.map_nil, Act.put, List.setIfInBounds_toArray, List.set_cons_succ, List.set_cons_zero, Nat.reduceAdd, Nat.zero_add] at hK ⊢
          simp only [d16, d17] at hK ⊢
          go_simp
          exact hK _ _ (Ext.refl _) rfl
        | 5, _, ho =>
          obtain rfl := Option.some.inj ho
          intro s W hX hd K hK
          rw [if_pos (wanted_plain rfl)]
          have d18 : (s 4) = .pointer (some ⟨w.heap.size, k * 16, none⟩) := hd 4 (by decide) (by decide)
          clear hd
          replace hK : ∀ (v : Value) (W' : World), Ext W W' → (v = .agg P1.toArray) → _ := hK
          simp only [mkOf, List.map_cons, List.map_nil, Act.put, List.setIfInBounds_toArray, List.set_cons_succ, List.set_cons_zero, Nat.reduceAdd, Nat.zero_add] at hK ⊢
          simp only [d18] at hK ⊢
          refine wp_load_agg 33 (.tmp 18) rfl _ (by simpa [Act.eval] using d18) P1 _ Try.underlying33 rfl (piece_size HP1.out) (HK1.out W hX) ?_
          exact hK _ _ (Ext.refl _) rfl
        | 6, _, ho =>
          obtain rfl := Option.some.inj ho
          intro s W hX hd K hK
          rw [if_pos (wanted_plain rfl)]
          have d19 : (s 5) = .agg P1.toArray := hd 5 (by decide) (by decide)
          clear hd
          replace hK : ∀ (v : Value) (W' : World), Ext W W' → (v = .agg CV.toArray) → _ := hK
          simp only [mkOf, List.map_cons, List.map_nil, Act.put, List.setIfInBounds_toArray, List.set_cons_succ, List.set_cons_zero, Nat.reduceAdd, Nat.zero_add] at hK ⊢
          simp only [d19] at hK ⊢
          go_simp
          refine (HCV.out _).mono ?_
          rintro e w' ⟨rfl, hx⟩
          exact hK _ _ hx rfl
        | 7, _, ho =>
          obtain rfl := Option.some.inj ho
          intro s W hX hd K hK
          rw [if_pos (wanted_plain rfl)]
          have d14 : (s 0) = .int .i64 (k : Int) := hd 0 (by decide) (by decide)
          clear hd
          replace hK : ∀ (v : Value) (W' : World), Ext W W' → (v = .pointer (some ⟨g, k * 32, none⟩)) → _ := hK
          simp only [mkOf, List.map_cons, List.map_nil, Act.put, List.setIfInBounds_toArray, List.set_cons_succ, List.set_cons_zero, Nat.reduceAdd, Nat.zero_add] at hK ⊢
          simp only [d14] at hK ⊢
          go_simp
          exact hK _ _ (Ext.refl _) rfl
        | 8, _, ho =>
          obtain rfl := Option.some.inj ho
          intro s W hX hd K hK
          rw [if_pos (wanted_plain rfl)]
          have d15 : (s 1) = .int .u8 (b : Int) := hd 1 (by decide) (by decide)
          have d21 : (s 7) = .pointer (some ⟨g, k * 32, none⟩) := hd 7 (by decide) (by decide)
          clear hd
          replace hK : ∀ (v : Value) (W' : World), Ext W W' → (v = .pointer (some ⟨g, k * 32 + b * 16, none⟩)) → _ := hK
          simp only [mkOf, List.map_cons, List.map_nil, Act.put, List.setIfInBounds_toArray, List.set_cons_succ, List.set_cons_zero, Nat.reduceAdd, Nat.zero_add] at hK ⊢
          simp only [d15, d21] at hK ⊢
          have hbl : (b : Int) < 2 := by have := HBL.out; omega
          go_simp
          exact hK _ _ (Ext.refl _) rfl
        | i + 9, hi, _ => exact absurd hi (by simp)
      · intro o ho
        obtain rfl := Option.some.inj ho
        intro s W hX hd K hK
        rw [if_pos (wanted_plain rfl)]
        have d14 : (s 0) = .int .i64 (k : Int) := hd 0 (by decide)
        have d15 : (s 1) = .int .u8 (b : Int) := hd 1 (by decide)
        have d16 : (s 2) = .int .i64 (k : Int) := hd 2 (by decide)
        have d17 : (s 3) = .pointer (some ⟨w.heap.size, 0, none⟩) := hd 3 (by decide)
        have d18 : (s 4) = .pointer (some ⟨w.heap.size, k * 16, none⟩) := hd 4 (by decide)
        have d19 : (s 5) = .agg P1.toArray := hd 5 (by decide)
        have d20 : (s 6) = .agg CV.toArray := hd 6 (by decide)
        have d21 : (s 7) = .pointer (some ⟨g, k * 32, none⟩) := hd 7 (by decide)
        have d22 : (s 8) = .pointer (some ⟨g, k * 32 + b * 16, none⟩) := hd 8 (by decide)
        clear hd
        simp only [mkOf, List.map_cons, List.map_nil, Act.put, List.setIfInBounds_toArray, List.set_cons_succ, List.set_cons_zero, Nat.reduceAdd, Nat.zero_add]
        refine wp_store_part W 33 (.tmp 22) (.tmp 20) rfl g (k * 32 + b * 16) (by simpa [Act.eval] using d22) (LL k) CV _ (by simpa [Act.eval] using d20) (HB3.out.keep hX (by simp)) (piece_size HCL.out) (by have := HBL.out; rw [HLL.out, HCL.out]; omega) hco ?_
        refine hK _ _ ?_
        have hx2 : Ext w W := HX.out.trans (HX1.out.trans hX)
        have hb0 : Blk (W.setRow g (putAt (LL k) (k * 32 + b * 16) CV).toArray).drew w.heap.size 36 C := ((HB0.out.keep (HX1.out.trans hX) (by simp)).keep (setRow_only _) (by have := HG.out; simp; omega)).keep (Ext.refl _).drew (by simp)
        have hb1 : Blk (W.setRow g (putAt (LL k) (k * 32 + b * 16) CV).toArray).drew (w.heap.size + 1) 55 DC := ((HB1.out.keep (HX1.out.trans hX) (by simp)).keep (setRow_only _) (by have := HG.out; simp; omega)).keep (Ext.refl _).drew (by simp)
        have hb2 : Blk (W.setRow g (putAt (LL k) (k * 32 + b * 16) CV).toArray).drew (w.heap.size + 1 + 1) 55 D := ((HB2.out.keep (HX1.out.trans hX) (by simp)).keep (setRow_only _) (by have := HG.out; simp; omega)).keep (Ext.refl _).drew (by simp)
        have hb3 : Blk (W.setRow g (putAt (LL k) (k * 32 + b * 16) CV).toArray).drew g 116 (putAt (LL k) (k * 32 + b * 16) CV) := Blk.keep (t := 116) (setRow_at (HB3.out.keep hX (by simp))) (Ext.refl _).drew (by simp)
        have hx3 : Ext w (W.setRow g (putAt (LL k) (k * 32 + b * 16) CV).toArray).drew := (setRow_grown hx2 _ _ (by have := HG.out; omega)).trans (Ext.refl _).drew
        have HK2 : Hid (∀ W3, Ext (W.setRow g (putAt (LL k) (k * 32 + b * 16) CV).toArray).drew W3 → Cells W3 ⟨w.heap.size, 512 + k * 16, none⟩ P2) := Lib.hid fun W3 h => by have h2 := ((hb0.keep h (by simp)).cells.drop (512 + k * 16)).take 16; rw [addr_at, HQ2.out] at h2; exact h2
        clear HX HX1 HK1 HB0 HB1 HB2 HB3 HB3r hX hK hx2 HCV HBT
        have HX := Lib.hid hx3
        have HB0 := Lib.hid hb0
        have HB1 := Lib.hid hb1
        have HB2 := Lib.hid hb2
        have HB3 := Lib.hid hb3
        clear hx3 hb0 hb1 hb2 hb3 d14 d15 d16 d17 d18 d19 d20 d21 d22
        (try simp only [Exit.then])
        go_wp2_with fail
        generalize hV : W.setRow g (putAt (LL k) (k * 32 + b * 16) CV).toArray = V at *
        clear hV W
        refine stab_store Ext ext_refl ext_trans [[0], [1], [1, 2], [3], [4], [3, 4, 5], [3, 4, 5, 6], [0, 7], [0, 1, 2, 3, 4, 5, 6, 7, 8], [0, 1, 2, 3, 4, 5, 6, 7, 8, 9]] (fun i v wv => match i with | 0 => v = .int .i64 (k : Int) | 1 => v = .int .u8 (b : Int) | 2 => v = .int .u8 (c : Int) | 3 => v = .int .i64 (k : Int) | 4 => v = .pointer (some ⟨w.heap.size, 512, none⟩) | 5 => v = .pointer (some ⟨w.heap.size, 512 + k * 16, none⟩) | 6 => v = .agg P2.toArray | 7 => v = .pointer (some ⟨g, k * 32, none⟩) | 8 => v = .pointer (some ⟨g, k * 32 + c * 16, none⟩) | _ => True) (by kernel_rfl) (by kernel_rfl) (by kernel_rfl) (by kernel_rfl) (by simp) ?_ ?_ ?_
        · intro i v w1 w2 h hx
          match i, h with
          | 0, h => exact h
          | 1, h => exact h
          | 2, h => exact h
          | 3, h => exact h
          | 4, h => exact h
          | 5, h => exact h
          | 6, h => exact h
          | 7, h => exact h
          | 8, h => exact h
          | i + 9, h => trivial
        · intro i hi o ho
          match i, hi, ho with
          | 0, _, ho =>
            obtain rfl := Option.some.inj ho
            intro s W2 hX hd K hK
            rw [if_pos (wanted_plain rfl)]
            clear hd
            replace hK : ∀ (v : Value) (W2' : World), Ext W2 W2' → (v = .int .i64 (k : Int)) → _ := hK
            simp only [mkOf, List.map_cons, List.map_nil, Act.put, List.setIfInBounds_toArray, List.set_cons_succ, List.set_cons_zero, Nat.reduceAdd, Nat.zero_add] at hK ⊢
            go_simp
            exact hK _ _ (Ext.refl _) rfl
          | 1, _, ho =>
            obtain rfl := Option.some.inj ho
            intro s W2 hX hd K hK
            rw [if_pos (wanted_plain rfl)]
            clear hd
            replace hK : ∀ (v : Value) (W2' : World), Ext W2 W2' → (v = .int .u8 (b : Int)) → _ := hK
            simp only [mkOf, List.map_cons, List.map_nil, Act.put, List.setIfInBounds_toArray, List.set_cons_succ, List.set_cons_zero, Nat.reduceAdd, Nat.zero_add] at hK ⊢
            go_simp
            exact hK _ _ (Ext.refl _) rfl
          | 2, _, ho =>
            obtain rfl := Option.some.inj ho
            intro s W2 hX hd K hK
            rw [if_pos (wanted_plain rfl)]
            have d24 : (s 1) = .int .u8 (b : Int) := hd 1 (by decide) (by decide)
            clear hd
            replace hK : ∀ (v : Value) (W2' : World), Ext W2 W2' → (v = .int .u8 (c : Int)) → _ := hK
            simp only [mkOf, List.map_cons, List.map_nil, Act.put, List.setIfInBounds_toArray, List.set_cons_succ, List.set_cons_zero, Nat.reduceAdd, Nat.zero_add] at hK ⊢
            simp only [d24] at hK ⊢
            go_simp
            exact hK _ _ (Ext.refl _) (by rw [HWR.out])
          | 3, _, ho =>
            obtain rfl := Option.some.inj ho
            intro s W2 hX hd K hK
            rw [if_pos (wanted_plain rfl)]
            clear hd
            replace hK : ∀ (v : Value) (W2' : World), Ext W2 W2' → (v = .int .i64 (k : Int)) → _ := hK
            simp only [mkOf, List.map_cons, List.map_nil, Act.put, List.setIfInBounds_toArray, List.set_cons_succ, List.set_cons_zero, Nat.reduceAdd, Nat.zero_add] at hK ⊢
            go_simp
            exact hK _ _ (Ext.refl _) rfl
          | 4, _, ho =>
            obtain rfl := Option.some.inj ho
            intro s W2 hX hd K hK
            rw [if_pos (wanted_plain rfl)]
            clear hd
            replace hK : ∀ (v : Value) (W2' : World), Ext W2 W2' → (v = .pointer (some ⟨w.heap.size, 512, none⟩)) → _ := hK
            simp only [mkOf, List.map_cons, List.map_nil, Act.put, List.setIfInBounds_toArray, List.set_cons_succ, List.set_cons_zero, Nat.reduceAdd, Nat.zero_add] at hK ⊢
            go_simp
            exact hK _ _ (Ext.refl _) rfl
          | 5, _, ho =>
            obtain rfl := Option.some.inj ho
            intro s W2 hX hd K hK
            rw [if_pos (wanted_plain rfl)]
            have d26 : (s 3) = .int .i64 (k : Int) := hd 3 (by decide) (by decide)
            have d27 : (s 4) = .pointer (some ⟨w.heap.size, 512, none⟩) := hd 4 (by decide) (by decide)
            clear hd
            replace hK : ∀ (v : Value) (W2' : World), Ext W2 W2' → (v = .pointer (some ⟨w.heap.size, 512 + k * 16, none⟩)) → _ := hK
            simp only [mkOf, List.map_cons, List.map_nil, Act.put, List.setIfInBounds_toArray, List.set_cons_succ, List.set_cons_zero, Nat.reduceAdd, Nat.zero_add] at hK ⊢
            simp only [d26, d27] at hK ⊢
            go_simp
            exact hK _ _ (Ext.refl _) rfl
          | 6, _, ho =>
            obtain rfl := Option.some.inj ho
            intro s W2 hX hd K hK
            rw [if_pos (wanted_plain rfl)]
            have d28 : (s 5) = .pointer (some ⟨w.heap.size, 512 + k * 16, none⟩) := hd 5 (by decide) (by decide)
            clear hd
            replace hK : ∀ (v : Value) (W2' : World), Ext W2 W2' → (v = .agg P2.toArray) → _ := hK
            simp only [mkOf, List.map_cons, List.map_nil, Act.put, List.setIfInBounds_toArray, List.set_cons_succ, List.set_cons_zero, Nat.reduceAdd, Nat.zero_add] at hK ⊢
            simp only [d28] at hK ⊢
            refine wp_load_agg 33 (.tmp 28) rfl _ (by simpa [Act.eval] using d28) P2 _ Try.underlying33 rfl (piece_size HP2.out) (HK2.out W2 hX) ?_
            exact hK _ _ (Ext.refl _) rfl
          | 7, _, ho =>
            obtain rfl := Option.some.inj ho
            intro s W2 hX hd K hK
            rw [if_pos (wanted_plain rfl)]
            have d23 : (s 0) = .int .i64 (k : Int) := hd 0 (by decide) (by decide)
            clear hd
            replace hK : ∀ (v : Value) (W2' : World), Ext W2 W2' → (v = .pointer (some ⟨g, k * 32, none⟩)) → _ := hK
            simp only [mkOf, List.map_cons, List.map_nil, Act.put, List.setIfInBounds_toArray, List.set_cons_succ, List.set_cons_zero, Nat.reduceAdd, Nat.zero_add] at hK ⊢
            simp only [d23] at hK ⊢
            go_simp
            exact hK _ _ (Ext.refl _) rfl
          | 8, _, ho =>
            obtain rfl := Option.some.inj ho
            intro s W2 hX hd K hK
            rw [if_pos (wanted_plain rfl)]
            have d25 : (s 2) = .int .u8 (c : Int) := hd 2 (by decide) (by decide)
            have d30 : (s 7) = .pointer (some ⟨g, k * 32, none⟩) := hd 7 (by decide) (by decide)
            clear hd
            replace hK : ∀ (v : Value) (W2' : World), Ext W2 W2' → (v = .pointer (some ⟨g, k * 32 + c * 16, none⟩)) → _ := hK
            simp only [mkOf, List.map_cons, List.map_nil, Act.put, List.setIfInBounds_toArray, List.set_cons_succ, List.set_cons_zero, Nat.reduceAdd, Nat.zero_add] at hK ⊢
            simp only [d25, d30] at hK ⊢
            have hbl : (c : Int) < 2 := by have := HBC.out; omega
            go_simp
            exact hK _ _ (Ext.refl _) rfl
          | i + 9, hi, _ => exact absurd hi (by simp)
        · intro o ho
          obtain rfl := Option.some.inj ho
          intro s W2 hX hd K hK
          rw [if_pos (wanted_plain rfl)]
          have d23 : (s 0) = .int .i64 (k : Int) := hd 0 (by decide)
          have d24 : (s 1) = .int .u8 (b : Int) := hd 1 (by decide)
          have d25 : (s 2) = .int .u8 (c : Int) := hd 2 (by decide)
          have d26 : (s 3) = .int .i64 (k : Int) := hd 3 (by decide)
          have d27 : (s 4) = .pointer (some ⟨w.heap.size, 512, none⟩) := hd 4 (by decide)
          have d28 : (s 5) = .pointer (some ⟨w.heap.size, 512 + k * 16, none⟩) := hd 5 (by decide)
          have d29 : (s 6) = .agg P2.toArray := hd 6 (by decide)
          have d30 : (s 7) = .pointer (some ⟨g, k * 32, none⟩) := hd 7 (by decide)
          have d31 : (s 8) = .pointer (some ⟨g, k * 32 + c * 16, none⟩) := hd 8 (by decide)
          clear hd
          simp only [mkOf, List.map_cons, List.map_nil, Act.put, List.setIfInBounds_toArray, List.set_cons_succ, List.set_cons_zero, Nat.reduceAdd, Nat.zero_add]
          refine wp_store_part W2 33 (.tmp 31) (.tmp 29) rfl g (k * 32 + c * 16) (by simpa [Act.eval] using d31) (putAt (LL k) (k * 32 + b * 16) CV) P2 _ (by simpa [Act.eval] using d29) (HB3.out.keep hX (by simp)) (piece_size HP2.out) (by have := HBC.out; rw [HPLL.out, HP2.out]; omega) hpo2 ?_
          refine hK _ _ ?_
          have hx4 : Ext w (W2.setRow g (putAt (putAt (LL k) (k * 32 + b * 16) CV) (k * 32 + c * 16) P2).toArray) := setRow_grown (HX.out.trans hX) _ _ (by have := HG.out; omega)
          have hb0 := (HB0.out.keep hX (by simp)).keep (setRow_only (putAt (putAt (LL k) (k * 32 + b * 16) CV) (k * 32 + c * 16) P2).toArray) (show some w.heap.size ≠ some g by have := HG.out; simp; omega)
          have hb1 := (HB1.out.keep hX (by simp)).keep (setRow_only (putAt (putAt (LL k) (k * 32 + b * 16) CV) (k * 32 + c * 16) P2).toArray) (show some (w.heap.size + 1) ≠ some g by have := HG.out; simp; omega)
          have hb2 := (HB2.out.keep hX (by simp)).keep (setRow_only (putAt (putAt (LL k) (k * 32 + b * 16) CV) (k * 32 + c * 16) P2).toArray) (show some (w.heap.size + 1 + 1) ≠ some g by have := HG.out; simp; omega)
          have hb3 : Blk (W2.setRow g (putAt (putAt (LL k) (k * 32 + b * 16) CV) (k * 32 + c * 16) P2).toArray) g 116 (LL (k + 1)) := by rw [← HSTK.out]; exact setRow_at (HB3.out.keep hX (by simp))
          generalize W2.setRow g (putAt (putAt (LL k) (k * 32 + b * 16) CV) (k * 32 + c * 16) P2).toArray = V2 at *
          have hge := HG.out
          subst hge
          have HX9 := Lib.hid hx4
          have HB90 := Lib.hid hb0
          have HB91 := Lib.hid hb1
          have HB92 := Lib.hid hb2
          have HB93 := Lib.hid hb3
          clear hx4 hb0 hb1 hb2 hb3 hX hK
          (try simp only [Exit.then])
          go_wp2_with fail
          go_roundw
          case rel => exact ⟨k + 1, by omega, by go_num, HX9.out, HB90.out, HB91.out, HB92.out, HB93.out⟩
          case measure => simp [intOf]; omega
    · obtain rfl : k = 32 := by omega
      rw [HL32.out] at hb3
      have hcm := hb3.cells
      have HX := Lib.hid hx
      have HB2 := Lib.hid hb2
      clear hx hb0 hb1 hb2 hb3
      go_wp2_with (first
        | (refine wpList_load_agg _ rfl 116 (.tmp 5) rfl _ rfl AL _ Try.underlying116 rfl (all_size HAL.out) hcm ?_)
        | fail)
      refine (HLF.out _).mono ?_
      rintro e w4 ⟨rfl, hx4⟩
      have hr4 : w4.heap[w.heap.size + 1 + 1]? = some (.cells D.toArray 55 (0, 0)) := HB2.out.keep hx4 (by simp)
      have hx5 := HX.out.trans hx4
      go_wp2_with (first
        | (refine wpList_store_row _ rfl 55 (.tmp 4) (.tmp 34) rfl (w.heap.size + 1 + 1) rfl D R _ rfl hr4 (digest_size HRL.out) (by rw [HRL.out, HDL0.out]) hro ?_)
        | fail)
      have hc9 := Blk.cells (t := 55) (setRow_at (cs' := R.toArray) hr4)
      (try simp only [Exit.inBlock, Exit.then])
      refine bodyPost_ret (results_agg rfl _ _ _ _ _ rfl Try.underlying55 rfl (digest_size HRL.out) hc9) rfl ?_
      exact ⟨rfl, setRow_grown hx5 _ _ (by omega)⟩
end
section
open Go.RowKit

theorem piecesM_congr {f g : Nat → List UInt8} : ∀ n, (∀ k, k < n → f k = g k) → piecesM f n = piecesM g n
  | 0, _ => rfl
  | n + 1, h => by rw [piecesM_succ, piecesM_succ, piecesM_congr n (fun k hk => h k (by omega)), h n (by omega)]
theorem sign_openB (seed : List UInt8) (n : Nat) (d : List UInt8) {k : Nat} (h : k < 32) : ((signM seed n d).drop (k * 16)).take 16 = openM seed n d k := by
  have e := pieceAt_pieces (f := openM seed n d) (fun _ => secretM_length _ _ _ _) h
  have hl : (piecesM (openM seed n d) 32).length = 512 := piecesM_length (f := openM seed n d) (fun _ => secretM_length _ _ _ _) 32
  unfold pieceAt at e
  rw [← e, signM, List.drop_append_of_le_length (by rw [hl]; omega), List.take_append_of_le_length (by rw [List.length_drop, hl]; omega), Nat.mul_comm 16 k]
theorem sign_otherB (seed : List UInt8) (n : Nat) (d : List UInt8) {k : Nat} (h : k < 32) : ((signM seed n d).drop (512 + k * 16)).take 16 = otherM seed n d k := by
  have e := pieceAt_pieces (f := otherM seed n d) (fun _ => coverM_length _) h
  have hl : (piecesM (openM seed n d) 32).length = 512 := piecesM_length (f := openM seed n d) (fun _ => secretM_length _ _ _ _) 32
  unfold pieceAt at e
  rw [← e, signM, ← List.drop_drop, List.drop_left' hl, Nat.mul_comm 16 k]
theorem fromS_sign (seed : List UInt8) (n : Nat) (d : List UInt8) : fromS (signM seed n d) d = leafM seed n := by
  unfold fromS leafM
  congr 1
  refine piecesM_congr (g := rowM seed n) 32 fun k hk => ?_
  unfold rowS
  rw [sign_openB seed n d hk, sign_otherB seed n d hk, row_back]
section
variable {P : Program} {w : World}
theorem wp_known {o : Oper} {a : Act} {K : Act → World → Prop} {Q : Exit → Act → World → Prop} (v : Value) (hr : (execOp a.eval o).run P w = .ok (.value v) w) (h : K (a.put o.dst v) w) : o.wp P a w K Q := by
  unfold Oper.wp
  rw [hr]
  exact h
theorem wp_bin2 {o : Oper} {a : Act} {K : Act → World → Prop} {Q : Exit → Act → World → Prop} (op : BinOp) (t : TypeId) {t' : TypeId} (x y : Operand) (ho : o.op = .binOp op t x y t') (u v : Value) {r : Value} (hx : a.eval x = u) (hy : a.eval y = v)
    (hg : (eqGuard op t x y u v).run P w = .ok () w) (hb : (binOp op t u v).run P w = .ok r w) (h : K (a.put o.dst r) w) : o.wp P a w K Q := by
  refine wp_known r ?_ h
  unfold execOp
  simp only [ho, hx, hy, Sem.run_bind, hg, hb, Result.andThen_ok, Sem.run_pure]
end
theorem eqD_self (D : List UInt8) (hD : D.length = 32) : (∀ (x y : Operand) (w : World), (eqGuard .eql 55 x y (.agg (bv D).toArray) (.agg (bv D).toArray)).run Try.prog w = .ok () w) ∧ ∀ w, (binOp .eql 55 (.agg (bv D).toArray) (.agg (bv D).toArray)).run Try.prog w = .ok (.bool true) w :=
  ⟨fun x y w => run_eqGuard w .eql 55 x y _ _ (.inl rfl) (by kernel_rfl), fun w => by have := run_eqD w 55 5 32 Try.underlying55 Try.underlying5 (by kernel_rfl) D D hD hD; rw [this, beq_self_eq_true]⟩
def fiveD : List UInt8 := 5 :: List.replicate 31 0
end
end Go.Proofs.Ytpdkmapogncgmaa

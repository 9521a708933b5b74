/- The walk of the mill's Sum. Condition: fewer than 2^60 bytes in all. -/
import Derived.Test.YtklljkfnlakdaaaPut
import Derived.Deep.RegionHeldLaw
set_option linter.unusedVariables false
set_option linter.unusedSimpArgs false
set_option linter.unnecessarySimpa false
namespace Go.Proofs.Ytklljkfnlakdaaa
open Go.RowKit

theorem digest_zero : (Try.prog.info? 25).bind (fun i => i.zero.map (·.cells)) = some (bv (List.replicate 32 0)).toArray := by kernel_rfl
theorem digest_size {n : Nat} (h : n = 32) : (Try.prog.info? 25).map (·.size) = some n := by subst h; kernel_rfl
theorem mill_zero : (Try.prog.info? 65).bind (fun i => i.zero.map (·.cells)) = some (nv (List.replicate 8 0) ++ bv (List.replicate 64 0) ++ [Value.int .u64 0]).toArray := by kernel_rfl
theorem mill_size {n : Nat} (h : n = 73) : (Try.prog.info? 65).map (·.size) = some n := by subst h; kernel_rfl
theorem be8_split (n : Nat) : be 8 n = be 4 (n / 4294967296) ++ be 4 (n % 4294967296) := by
  rw [be_mod4]
  simp only [be, List.cons_append, List.nil_append, Nat.div_div_eq_div_mul]
theorem mill_one (st : List Nat) (wait : List UInt8) (L : Int) : ∀ u ∈ nv st ++ bv wait ++ [Value.int .u64 L], u.oneCell' = true := by
  intro u hu
  simp only [List.mem_append, List.mem_singleton] at hu
  rcases hu with (hu | hu) | rfl
  · exact nv_one _ u hu
  · exact bv_one _ u hu
  · rfl
theorem fill_length (n : Nat) : (fill n).length = 64 - (n + 8) % 64 := by
  have : (n + 8) % 64 < 64 := Nat.mod_lt _ (by decide)
  simp [fill]; omega
theorem padded_length (b : List UInt8) : (padded b).length = b.length + (64 - (b.length + 8) % 64) + 8 := by
  simp [padded, fill_length, be_length]; omega
theorem flat4_length (l : List Nat) : (l.flatMap (be 4)).length = 4 * l.length := be_flat 4 l

set_option maxHeartbeats 400000 in
theorem Sum_nil (w : World) : Calls Try.prog 15 #[.pointer none] w fun e w' => e = .returned (.agg (bv (List.replicate 32 0)).toArray) ∧ Ext w w' := by
  have hz := digest_zero
  have hl : (bv (List.replicate 32 0)).length = 32 := by simp
  have hone := bv_one (List.replicate 32 0)
  have HL := Lib.hid hl
  have hb : ∀ (o : Op) (w : World), True := fun _ _ => trivial
  clear hl hb
  generalize hZ : bv (List.replicate 32 0) = Z at hz HL hone ⊢
  have HZ := Lib.hid hZ
  clear hZ
  go_enter Try.func15, Try.ntmps15
  go_wp2_with (first
    | (refine wpList_alloc _ rfl 25 rfl _ hz ?_)
    | (refine wpList_build (.inl rfl) 25 _ rfl (.agg Z.toArray) (by rw [← HZ.out]; kernel_rfl) ?_)
    | (refine wpList_store_new _ rfl 25 (.tmp 2) (.tmp 11) rfl rfl Z Z _ rfl (digest_size HL.out) rfl hone ?_)
    | fail)
  have hc : Cells (w.alloc (.cells Z.toArray 25)) ⟨w.heap.size, 0, none⟩ Z := by have := Cells.of_block (heap_alloc_new w (.cells Z.toArray 25)); simpa using this
  (try simp only [Exit.inBlock, Exit.then])
  refine bodyPost_ret (results_agg rfl _ _ _ _ _ rfl Try.underlying25 rfl (digest_size HL.out) hc) rfl ?_
  exact ⟨rfl, (Ext.refl w).alloc _⟩

theorem after_make {w w1 : World} {N G : Nat} {a : Addr} {x : Value} (ho : w1.ownsRow 0 5 1 (.slice (some ⟨w.heap.size, 0, none⟩) N N) N (madeCells (Value.int .u8 0).cells (N * 1)).toList) (hg : w.grownBy w1 none) (hN : 0 < N) (hx : w.cell? a = some x) (hG : w.heap.size = G) :
    w1.cell? ⟨G, 0, none⟩ = some (.int .u8 0) ∧ w1.frozen? ⟨G, 0, none⟩ = false ∧ w1.cell? a = some x ∧
    OwnB (w1.setCell ⟨G, 0, none⟩ (.int .u8 128)) (.slice (some ⟨G, 0, none⟩) N N) (128 :: List.replicate (N - 1) 0) := by
  subst hG
  have e : (madeCells (Value.int .u8 0).cells (N * 1)).toList = bv (List.replicate N 0) := by
    rw [show (Value.int .u8 0).cells = #[.int .u8 0] from rfl, toList_madeCells_one, Nat.mul_one]
    simp [bv]
  rw [e] at ho
  refine ⟨?_, World.ownsRow.frozenAt ho 0, ?_, ?_⟩
  · have := World.ownsRow.cellAt ho 0 (by simpa using hN)
    rw [this]
    simp [bv, hN]
  · have hlt := World.block_lt_of_cell? w a hx
    rw [World.cell?_of_block (hg.block _ hlt (by simp))]; exact hx
  · have := (World.ownsRow.stored ho 0 (.int .u8 128)).1
    obtain ⟨m, rfl⟩ : ∃ m, N = m + 1 := ⟨N - 1, by omega⟩
    have e2 : (bv (List.replicate (m + 1) 0)).set 0 (Value.int .u8 128) = bv (128 :: List.replicate m 0) := by simp [bv, List.replicate_succ]
    rw [e2] at this
    unfold OwnB
    have e3 : (128 :: List.replicate (m + 1 - 1) (0 : UInt8)).length = m + 1 := by simp
    rw [e3]
    exact this

theorem laid_step (S : List Nat) (k : Nat) (hS : S.length = 8) (hk : k < 8) :
    (bv ((S.take k).flatMap (be 4) ++ List.replicate (32 - 4 * k) 0)).length = 32 ∧
    (bv ((S.take k).flatMap (be 4) ++ List.replicate (32 - 4 * k) 0)).take (4 * k) ++ bv ((be 4 (S.getD k 0)).take 4) ++ (bv ((S.take k).flatMap (be 4) ++ List.replicate (32 - 4 * k) 0)).drop (4 * k + 4) =
      bv ((S.take (k + 1)).flatMap (be 4) ++ List.replicate (32 - 4 * (k + 1)) 0) := by
  have hA : ((S.take k).flatMap (be 4)).length = 4 * k := by rw [be_flat, List.length_take]; omega
  have he : S.getD k 0 = S[k]'(by omega) := by simp [List.getD, List.getElem?_eq_getElem (show k < S.length by omega)]
  refine ⟨by rw [bv_length, List.length_append, hA, List.length_replicate]; omega, ?_⟩
  rw [flat_step _ _ _ (by omega), he]
  generalize (S.take k).flatMap (be 4) = A at hA
  rw [bv_append, List.take_left' (by rw [bv_length]; exact hA), ← bv_append, List.take_of_length_le (by rw [be_length]; exact Nat.le_refl _), List.drop_append, bv_length, hA, List.drop_eq_nil_of_le (by rw [bv_length]; omega), List.nil_append, show 4 * k + 4 - 4 * k = 4 by omega]
  have e2 : (bv (List.replicate (32 - 4 * k) 0)).drop 4 = bv (List.replicate (32 - 4 * (k + 1)) 0) := by
    simp only [bv, List.map_replicate, List.drop_replicate]
    congr 1
  rw [e2, ← bv_append]
theorem Four_i (x : Int) (n : Nat) (w : World) (hx : x = n) (hn : n < 4294967296) : Calls Try.prog 27 #[.int .u32 x] w fun e w' => e = .returned (.slice (some ⟨w.heap.size, 0, none⟩) 4 4) ∧ w' = w.alloc (.cells (bv (be 4 n)).toArray 5) := by
  subst hx; exact Four w n hn
theorem own_lit {w : World} {G : Nat} {e : TypeId} {cs : List Value} {n : Nat} (hG : w.heap.size = G) (hn : cs.length = n) (hm : n ≤ maxLen) : Own (w.alloc (.cells cs.toArray e)) e 1 (.slice (some ⟨G, 0, none⟩) n n) n cs := by
  subst hG
  refine ⟨by simpa using hn, .inr ⟨w.heap.size, n, cs.toArray, rfl, Nat.zero_le _, heap_alloc_new w _, Nat.le_refl _, hm, by simpa using hn, ?_⟩⟩
  simp [← hn]

set_option maxRecDepth 100000 in
set_option maxHeartbeats 1000000 in
theorem Sum (g : Nat) (B : List UInt8) (w : World) (hm : MillAt w g B) (hb : B.length < 576460752303423488) :
    Calls Try.prog 15 #[.pointer (some ⟨g, 0, none⟩)] w fun e w' => e = .returned (.agg (bv (sha B)).toArray) ∧ Ext w w' := by
  obtain ⟨i0, hi, hz0, hz1, hz2⟩ := info_parts u8_info
  have hg := hm.lt
  obtain ⟨wait, hwl, hwt, hblk⟩ := hm
  have hst := blocks_ok B (B.length / 64)
  generalize hS : blocks B (B.length / 64) = st at hblk hst
  have hone := mill_one st wait (B.length : Int)
  have hcl : (nv st ++ bv wait ++ [Value.int .u64 (B.length : Int)]).length = 73 := by simp [hst.1, hwl]
  have hcs : Cells (w.alloc (.cells (bv (List.replicate 32 0)).toArray 25)) ⟨g, 0, none⟩ (nv st ++ bv wait ++ [Value.int .u64 (B.length : Int)]) := hblk.cells.keep (heap_alloc_old _ _ hg)
  have c72 : (((w.alloc (.cells (bv (List.replicate 32 0)).toArray 25)).alloc (.cells (nv st ++ bv wait ++ [Value.int .u64 (B.length : Int)]).toArray 65))).cell? ⟨w.heap.size + 1, 72, none⟩ = some (.int .u64 (B.length : Int)) := by
    have h := Blk.new (w.alloc (.cells (bv (List.replicate 32 0)).toArray 25)) 65 (nv st ++ bv wait ++ [Value.int .u64 (B.length : Int)])
    have := (long_cell hst.1 hwl h).1
    simpa using this
  generalize hZ : bv (List.replicate 32 0) = Z at hcs c72
  generalize hCS : nv st ++ bv wait ++ [Value.int .u64 (B.length : Int)] = CS at hcs hblk hone hcl c72
  have hz := digest_zero
  rw [hZ] at hz
  have hmz := mill_zero
  have hmzl : (nv (List.replicate 8 0) ++ bv (List.replicate 64 0) ++ [Value.int .u64 0]).length = 73 := by simp
  generalize nv (List.replicate 8 0) ++ bv (List.replicate 64 0) ++ [Value.int .u64 0] = MZ at hmz hmzl
  have HZ := Lib.hid hZ
  have HS := Lib.hid hS
  have HCS := Lib.hid hCS
  have HCL := Lib.hid hcl
  have HST := Lib.hid hst
  have HMZ := Lib.hid hmzl
  have HBLK := Lib.hid hblk
  have HWL := Lib.hid hwl
  have HWT := Lib.hid hwt
  obtain ⟨N, hN⟩ : ∃ N, N = 64 - (B.length + 8) % 64 := ⟨_, rfl⟩
  have n1 : 0 < N := by omega
  have n2 : N ≤ 64 := by omega
  have NN := Lib.hid hN
  clear hN
  have l1 : (0 : Int) ≤ 64 - ((B.length : Int) + 8) % 64 ∧ 64 - ((B.length : Int) + 8) % 64 ≤ 64 := by omega
  clear hZ hS hCS hcl hst hmzl hblk hwl hwt
  go_enter Try.func15, Try.ntmps15
  go_wp2_with (first
    | (refine wpList_alloc _ rfl 25 rfl _ hz ?_)
    | (refine wpList_load_agg _ rfl 65 (.tmp 13) rfl _ rfl CS _ Try.underlying65 rfl (mill_size HCL.out) hcs ?_)
    | (refine wpList_alloc _ rfl 65 rfl _ hmz ?_)
    | (refine wpList_store_new _ rfl 65 (.tmp 3) (.tmp 14) rfl (by simp; rfl) MZ CS _ rfl (mill_size HCL.out) (by rw [HCL.out, HMZ.out]) hone ?_)
    | (at_make; refine wpList_make_full _ rfl _ _ _ rfl 0 _ i0 _ 1 Try.underlying22 hi hz0 hz1 .u64 .u64 _ _ N rfl rfl (by rw [NN.out]; omega) (by rw [NN.out]; omega) (by rw [hz2]; omega) (by unfold maxLen; omega) (Nat.zero_le _) ?_; intro w1 ho1 hg1; obtain ⟨c0, f0, d72, hs1⟩ := after_make (G := w.heap.size + 1 + 1) ho1 hg1 n1 c72 (by simp); have HS1 := Lib.hid hs1; have HG1 := Lib.hid hg1; have HO1 := Lib.hid ho1; clear hs1 hg1 ho1)
    | fail)
  have hfill : 128 :: List.replicate (N - 1) 0 = fill B.length := by
    have h := NN.out
    unfold fill
    rw [show N - 1 = 63 - (B.length + 8) % 64 by omega]
  have ho2 : OwnB (w1.setCell ⟨w.heap.size + 1 + 1, 0, none⟩ (Value.int .u8 128)) (.slice (some ⟨w.heap.size + 1 + 1, 0, none⟩) N N) (fill B.length) := by rw [← hfill]; exact HS1.out
  have hbq : Blk ((w.alloc (.cells Z.toArray 25)).alloc (.cells CS.toArray 65)) (w.heap.size + 1) 65 CS := by have := Blk.new (w.alloc (.cells Z.toArray 25)) 65 CS; simpa using this
  have hm1 : MillAt (w1.setCell ⟨w.heap.size + 1 + 1, 0, none⟩ (Value.int .u8 128)) (w.heap.size + 1) B :=
    ⟨wait, HWL.out, HWT.out, by rw [HS.out, HCS.out]; exact (hbq.keep HG1.out (by simp)).keep (only_set 0 _) (by simp)⟩
  have hx1 : Ext w (w1.setCell ⟨w.heap.size + 1 + 1, 0, none⟩ (Value.int .u8 128)) := ((((Ext.refl w).alloc _).alloc _).trans HG1.out).setCell (by simp; omega) _
  have hr1 : Blk (w1.setCell ⟨w.heap.size + 1 + 1, 0, none⟩ (Value.int .u8 128)) w.heap.size 25 Z := (((Blk.new w 25 Z).keep ((Ext.refl _).alloc _) (by simp)).keep HG1.out (by simp)).keep (only_set 0 _) (by simp; omega)
  have hp2 : (Ty.sl .u8).holds _ (fun b => b = w.heap.size + 1 + 1) [_] (fill B.length) := Ty.keep (fun _ _ => rfl) (fun b hb => (Option.some.inj hb).symm) _ ho2.holds
  refine (Put (w.heap.size + 1) _ _ B (fill B.length) (fun b => b = w.heap.size + 1 + 1) hm1 hp2 (by rintro b rfl; exact ⟨ho2.lt _ rfl, by omega⟩) (by rw [fill_length]; omega)).mono ?_
  rintro e w2 ⟨rfl, hm2, hg2⟩
  have hx2 : Ext w w2 := grown_then hx1 hg2 (.inr (by rintro _ ⟨⟩; omega))
  have hr2 := hr1.keep hg2 (by simp)
  have HM2 := Lib.hid hm2
  have HX2 := Lib.hid hx2
  have HR2 := Lib.hid hr2
  clear hm1 hx1 hr1 hm2 hx2 hr2 hbq ho2 hp2 hfill c0 f0 d72 hcs c72
  go_wp2_with fail
  refine (Four_i _ (B.length * 8 / 4294967296) _ (by omega) (by omega)).mono ?_
  rintro e w3 ⟨rfl, rfl⟩
  go_wp2_with fail
  refine (Four_i _ (B.length * 8 % 4294967296) _ (by omega) (by omega)).mono ?_
  rintro e w3 ⟨rfl, rfl⟩
  generalize hhi : B.length * 8 / 4294967296 = hi8
  generalize hlo : B.length * 8 % 4294967296 = lo8
  have HHI := Lib.hid hhi
  have HLO := Lib.hid hlo
  clear hhi hlo
  go_wp2_with (first
    | (at_builtin; refine wpList_app _ rfl (.tmp 31) (.tmp 34) _ _ rfl _ _ i0 _ 1 1 Try.underlying22 Try.underlying22 hi hz0 hz1 hz2 rfl (by decide) _ _ _ rfl ((own_lit rfl (by simp [be_length]) (by simp [maxLen])).ext ((Ext.refl _).alloc _)) _ _ _ (bv (be 4 lo8)) rfl (by simp [be_length]) (by have := src_new (w2.alloc (.cells (bv (be 4 hi8)).toArray 5)) (bv (be 4 lo8)) 5 4; simpa using this) (bv_one _) (by simp [maxLen]) (by omega) ?_; intro v5 w5 ho5 hm5)
    | fail)
  have hm5 : Moved ((w2.alloc (.cells (bv (be 4 hi8)).toArray 5)).alloc (.cells (bv (be 4 lo8)).toArray 5)) w5 (.slice (some ⟨w2.heap.size, 0, none⟩) 4 4) v5 := hm5
  have ho5' : OwnB w5 v5 (be 8 (B.length * 8)) := by rw [be8_split, HHI.out, HLO.out]; exact OwnB.app (by simpa [be_length] using ho5)
  have hlt2 : w.heap.size + 1 < w2.heap.size := HM2.out.lt
  have hg5 : w2.grownBy w5 none := grown_then (((Ext.refl w2).alloc _).alloc _) hm5.grown (.inr (by rintro _ ⟨⟩; exact Nat.le_refl _))
  have hnew5 : ∀ b, v5.ownBlock = some b → w2.heap.size ≤ b := by
    intro b hb
    rcases hm5.at_ with e | h
    · rw [e] at hb; cases hb; exact Nat.le_refl _
    · have := h b hb; simp at this; omega
  have hm6 : MillAt w5 (w.heap.size + 1) (B ++ fill B.length) := HM2.out.keep hg5 (by simp)
  have hx5 : Ext w w5 := HX2.out.trans hg5
  have hr5 := HR2.out.keep hg5 (by simp)
  have hp5 := ho5'.holds
  have hlt5 := ho5'.lt
  have HR5 := Lib.hid hr5
  have HX5 := Lib.hid hx5
  clear hm5 ho5 ho5' hg5 hx5 hr5 HM2 HX2 HR2
  refine (Put (w.heap.size + 1) _ v5 (B ++ fill B.length) (be 8 (B.length * 8)) _ hm6 hp5 (fun b hb => ⟨hlt5 b hb, by have := hnew5 b hb; omega⟩) (by rw [List.length_append, fill_length, be_length]; omega)).mono ?_
  rintro e w6 ⟨rfl, hm7, hg6⟩
  have hpad : B ++ fill B.length ++ be 8 (B.length * 8) = padded B := rfl
  rw [hpad] at hm7
  have hx6 : Ext w w6 := grown_then HX5.out hg6 (.inr (by rintro _ ⟨⟩; omega))
  have hr6 := HR5.out.keep hg6 (by simp)
  have hdiv : (padded B).length / 64 = (padded B).length / 64 := rfl
  obtain ⟨wait2, hwl2, hwt2, hbk2⟩ := hm7
  have hst2 := blocks_ok (padded B) ((padded B).length / 64)
  have hfin : (blocks (padded B) ((padded B).length / 64)).flatMap (be 4) = sha B := rfl
  generalize blocks (padded B) ((padded B).length / 64) = S at hbk2 hst2 hfin
  obtain ⟨hS8, hSlt⟩ := hst2
  have hlt6 := hbk2.lt
  have hcS : Cells (w6.alloc (.cells Z.toArray 25)) ⟨w.heap.size + 1, 0, none⟩ (nv S) := (hbk2.cells.left.left).keep (heap_alloc_old _ _ hlt6)
  have hlS : (nv S).length = 8 := by rw [nv_length]; exact hS8
  have HS8 := Lib.hid hS8
  have HLS := Lib.hid hlS
  have HFIN := Lib.hid hfin
  have HR6 := Lib.hid hr6
  have HX6 := Lib.hid hx6
  clear hS8 hlS hfin hr6 hx6 hbk2 hwl2 hwt2 hdiv hpad hm6 hp5 hlt5 hnew5 hg6
  have ss : ∀ {n : Nat}, n = 8 → (Try.prog.info? 62).map (·.size) = some n := by rintro _ rfl; kernel_rfl
  go_wp2_with (first
    | (refine wpList_alloc _ rfl 25 rfl _ hz ?_)
    | (refine wpList_load_agg _ rfl 62 (.tmp 37) rfl _ rfl (nv S) _ Try.underlying62 rfl (ss HLS.out) hcS ?_)
    | fail)
  have hdb : Blk (w6.alloc (.cells Z.toArray 25)) w6.heap.size 25 Z := Blk.new _ _ _
  have hr7 : Blk (w6.alloc (.cells Z.toArray 25)) w.heap.size 25 Z := HR6.out.keep ((Ext.refl _).alloc _) (by simp)
  have hx7 : Ext w (w6.alloc (.cells Z.toArray 25)) := HX6.out.alloc _
  have hne : w.heap.size ≠ w6.heap.size := Nat.ne_of_lt HR6.out.lt
  have hdz : w.heap.size ≤ w6.heap.size := HX6.out.size
  clear hcS
  generalize hDB : w6.heap.size = DB at hdb hne hdz
  have HDB := Lib.hid hDB
  clear hDB
  go_loopw [39] (fun i wr => ∃ k : Nat, k ≤ 8 ∧ i = .int .i64 k ∧ Ext w wr ∧ Blk wr DB 25 (bv ((S.take k).flatMap (be 4) ++ List.replicate (32 - 4 * k) 0)) ∧ Blk wr w.heap.size 25 Z) (fun i _ => 8 - (intOf i).toNat)
  case atStart => exact ⟨0, by omega, rfl, hx7, by rw [show bv ((S.take 0).flatMap (be 4) ++ List.replicate (32 - 4 * 0) 0) = Z from HZ.out]; exact hdb, hr7⟩
  case round =>
    clear hx7 hdb hr7
    obtain ⟨k, hk, rfl, hx, hd, hr⟩ := hrel
    by_cases hlt : k < 8
    · obtain ⟨hcl, hcs⟩ := laid_step S k HS8.out hlt
      have hSk : (nv S)[k]? = some (Value.int .u32 ((S.getD k 0 : Nat) : Int)) := by
        have := HS8.out
        simp [nv, List.getD, List.getElem?_eq_getElem (show k < S.length by omega)]
      have hbd := getD_lt hSlt k
      generalize hcur : bv ((S.take k).flatMap (be 4) ++ List.replicate (32 - 4 * k) 0) = cur at hd hcl hcs
      generalize S.getD k 0 = x at hcs hSk hbd
      have HCS2 := Lib.hid hcs
      have HCL2 := Lib.hid hcl
      have HX := Lib.hid hx
      have HD := Lib.hid hd
      have HRR := Lib.hid hr
      have hu32 : (Try.prog.info? 61).map (·.size) = some 1 := by kernel_rfl
      have k1 : (0 : Int) ≤ 4 * (k : Int) := by omega
      have k2 : 4 * (k : Int) ≤ 32 := by omega
      have kw : IntKind.i64.wrap (4 * (k : Int)) = 4 * (k : Int) := by rw [IntKind.wrap_i64]; omega
      clear hcur hcs hcl hx hd hr
      go_wp2_with (first
        | (refine wpList_index (.inl rfl) 62 (.tmp 38) (.tmp 39) rfl (nv S) k 8 .i64 61 _ _ rfl rfl Try.underlying62 hlt Try.underlying61 rfl hu32 hSk ?_)
        | fail)
      have hb8 : Blk (wr.drew.alloc (.cells (bv (be 4 x)).toArray 5)) DB 25 cur := Blk.keep (w := wr.drew) HD.out ((Ext.refl _).alloc _) (by simp)
      go_region_held_law (fun _ => True) (trivial) (first
        | (go_at_call 27; refine (Four_i _ x _ rfl hbd).mono ?_; rintro e w7 ⟨rfl, rfl⟩)
        | (refine step_copyB rfl (.tmp 45) (.tmp 47) 22 22 rfl 5 Try.underlying22 (by kernel_rfl) DB (4 * k) (32 - 4 * k) (32 - 4 * k) rfl (some ⟨wr.heap.size, 0, none⟩) 4 4 rfl (be 4 x) (be_length _ _) (src_new wr.drew (bv (be 4 x)) 5 4) cur 25 hb8 4 (by omega) (by rw [HCL2.out]; omega) ?_; intro w8 hd8 hg8; rw [HCS2.out] at hd8))
      go_wp2
      go_roundw
      case rel =>
        have h1 : Ext w (wr.drew.alloc (.cells (bv (be 4 x)).toArray 5)) := HX.out.drew.alloc _
        have h2 : Blk (wr.drew.alloc (.cells (bv (be 4 x)).toArray 5)) w.heap.size 25 Z := Blk.keep (w := wr.drew) HRR.out ((Ext.refl _).alloc _) (by simp)
        exact ⟨k + 1, by omega, by go_num, grown_then h1 hg8 (.inr (by rintro _ ⟨⟩; exact hdz)), hd8, h2.keep hg8 (by simpa using hne)⟩
      case measure => simp [intOf]; omega
    · obtain rfl : k = 8 := by omega
      have e8 : (S.take 8).flatMap (be 4) ++ List.replicate (32 - 4 * 8) 0 = sha B := by rw [List.take_of_length_le (by rw [HS8.out]; exact Nat.le_refl _), HFIN.out]; simp
      rw [e8] at hd
      have hsl : (bv (sha B)).length = 32 := by rw [bv_length, ← HFIN.out, be_flat, HS8.out]
      have hzl : Z.length = 32 := by rw [← HZ.out, bv_length, List.length_replicate]
      have hso := bv_one (sha B)
      generalize hR : bv (sha B) = R at hd hsl hso
      have HR := Lib.hid hR
      clear hR
      have hcd := hd.cells
      have hrw : wr.heap[w.heap.size]? = some (.cells Z.toArray 25 (0, 0)) := hr
      have HSL := Lib.hid hsl
      have HZL := Lib.hid hzl
      have HX := Lib.hid hx
      clear e8 hsl hzl hx
      go_wp2_with (first
        | (refine wpList_load_agg _ rfl 25 (.tmp 6) rfl _ rfl R _ Try.underlying25 rfl (digest_size HSL.out) hcd ?_)
        | (refine wpList_store_row _ rfl 25 (.tmp 2) (.tmp 50) rfl w.heap.size rfl Z R _ rfl hrw (digest_size HSL.out) (by rw [HSL.out, HZL.out]) hso ?_)
        | fail)
      have hc : Cells (wr.setRow w.heap.size R.toArray) ⟨w.heap.size, 0, none⟩ R := Blk.cells (t := 25) (setRow_at hrw)
      (try simp only [Exit.inBlock, Exit.then])
      refine bodyPost_ret (results_agg rfl _ _ _ _ _ rfl Try.underlying25 rfl (digest_size HSL.out) hc) rfl ?_
      exact ⟨by rw [HR.out], setRow_grown HX.out _ _ (Nat.le_refl _)⟩
end Go.Proofs.Ytklljkfnlakdaaa

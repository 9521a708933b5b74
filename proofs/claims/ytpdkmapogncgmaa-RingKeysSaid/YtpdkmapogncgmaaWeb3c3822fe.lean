/- Walks and plain laws, put together in build order. Conditions: what each of them names. -/
import Derived.Laws.Tables
import Derived.Laws.Cover3
import Derived.Test.YtpdkmapogncgmaaW0566d6787f
set_option linter.unusedVariables false
set_option linter.unusedSimpArgs false
set_option linter.unnecessarySimpa false
namespace Go.Proofs.Ytpdkmapogncgmaa
section
open Go.RowKit

set_option maxHeartbeats 400000 in
theorem Write_nil (v : Value) (w : World) : Calls Try.prog 80 #[.pointer none, v] w fun e w' => e = .returned (.tuple #[]) ∧ w = w' := by
  go_enter Try.func80, Try.ntmps80
  go_wp2
  exact bodyPost_ret (results_none rfl _ _ _) rfl ⟨rfl, rfl⟩
theorem flat_take_len {α β : Type} (f : α → List β) (l : List α) (k : Nat) : ((l.take k).flatMap f).length ≤ (l.flatMap f).length := by
  have e : l.flatMap f = (l.take k).flatMap f ++ (l.drop k).flatMap f := by rw [← List.flatMap_append, List.take_append_drop]
  rw [e, List.length_append]
  omega
set_option maxHeartbeats 400000 in
theorem Write (g : Nat) (v : Value) (B : List UInt8) (ps : List (List UInt8)) (w : World) (F : Fp) (hm : MillAt w g B) (hp : (Ty.sl (.sl .u8)).holds w F [v] ps) (hF : ∀ b, F b → b < w.heap.size ∧ b ≠ g) (hb : B.length + (ps.flatMap id).length < 1152921504606846976) :
    Calls Try.prog 80 #[.pointer (some ⟨g, 0, none⟩), v] w fun e w' => e = .returned (.tuple #[]) ∧ MillAt w' g (B ++ ps.flatMap id) ∧ w.grownBy w' (some g) := by
  obtain ⟨A, c, xs, hv, hlc, hc, hA, hcell, hall⟩ := hp
  cases hv
  unfold maxLen at hc
  go_enter Try.func80, Try.ntmps80
  go_wp2
  go_loopw [10] (fun i wr => ∃ k : Nat, k ≤ ps.length ∧ i = .int .i64 k ∧ MillAt wr g (B ++ (ps.take k).flatMap id) ∧ w.grownBy wr (some g)) (fun i _ => ps.length - (intOf i).toNat)
  case atStart => exact ⟨0, by omega, rfl, by simpa using hm, World.grownBy.refl _ _⟩
  case round =>
    obtain ⟨k, hk, rfl, hmr, hgr⟩ := hrel
    by_cases hlt : k < ps.length
    · obtain ⟨ad, rfl, hf, hcells⟩ := hcell (by rintro rfl; simp at hlt)
      obtain ⟨y, hy, hyh⟩ := AllH.sl_at hall hlt
      have hsame : ∀ b, F b → wr.heap[b]? = w.heap[b]? := fun b hb => hgr.block b (hF b hb).1 (by simpa using (hF b hb).2)
      have hcx := (hcells.keep (hsame _ hf)) k _ hy
      have hyr := Ty.keep (t := (Ty.sl .u8)) hsame (fun _ h => h) hyh
      have hst := flat_len_step id ps k hlt
      obtain ⟨A1, c1, xs1, hv1, hlc1, hc1, hA1, hcell1, hall1⟩ := hyh
      cases hv1
      go_wp2_with fail
      refine (Put g _ _ (B ++ (ps.take k).flatMap id) ps[k] F hmr hyr (fun b hb => ⟨Nat.lt_of_lt_of_le (hF b hb).1 hgr.size, (hF b hb).2⟩) (by rw [List.length_append]; simp only [id] at hst; omega)).mono ?_
      rintro e w1 ⟨rfl, hm1, hg1⟩
      go_wp2
      go_roundw
      case rel => exact ⟨k + 1, by omega, by go_num, by rw [flat_step _ _ _ hlt, ← List.append_assoc]; exact hm1, hgr.trans hg1⟩
      case measure => simp [intOf]; omega
    · obtain rfl : k = ps.length := by omega
      rw [List.take_length] at hmr
      go_wp2
      go_end0
      exact ⟨rfl, hmr, hgr⟩
end
section
open Go.RowKit

theorem digest_zero : (Try.prog.info? 55).bind (fun i => i.zero.map (·.cells)) = some (bv (List.replicate 32 0)).toArray := by kernel_rfl
theorem digest_size {n : Nat} (h : n = 32) : (Try.prog.info? 55).map (·.size) = some n := by subst h; kernel_rfl
theorem mill_zero : (Try.prog.info? 142).bind (fun i => i.zero.map (·.cells)) = some (nv (List.replicate 8 0) ++ bv (List.replicate 64 0) ++ [Value.int .u64 0]).toArray := by kernel_rfl
theorem mill_size {n : Nat} (h : n = 73) : (Try.prog.info? 142).map (·.size) = some n := by subst h; kernel_rfl
theorem be8_split (n : Nat) : be 8 n = be 4 (n / 4294967296) ++ be 4 (n % 4294967296) := by
  rw [be_mod4]
  simp only [be, List.cons_append, List.nil_append, Nat.div_div_eq_div_mul]
theorem mill_one (st : List Nat) (wait : List UInt8) (L : Int) : ∀ u ∈ nv st ++ bv wait ++ [Value.int .u64 L], u.oneCell' = true := by
  intro u hu
  simp only [List.mem_append, List.mem_singleton] at hu
  rcases hu with (hu | hu) | rfl
  · exact nv_one _ u hu
  · exact bv_one _ u hu
  · rfl
theorem fill_length (n : Nat) : (fill n).length = 64 - (n + 8) % 64 := by
  have : (n + 8) % 64 < 64 := Nat.mod_lt _ (by decide)
  simp [fill]; omega
theorem padded_length (b : List UInt8) : (padded b).length = b.length + (64 - (b.length + 8) % 64) + 8 := by
  simp [padded, fill_length, be_length]; omega
theorem flat4_length (l : List Nat) : (l.flatMap (be 4)).length = 4 * l.length := be_flat 4 l

set_option maxHeartbeats 400000 in
theorem Sum_nil (w : World) : Calls Try.prog 82 #[.pointer none] w fun e w' => e = .returned (.agg (bv (List.replicate 32 0)).toArray) ∧ Ext w w' := by
  have hz := digest_zero
  have hl : (bv (List.replicate 32 0)).length = 32 := by simp
  have hone := bv_one (List.replicate 32 0)
  have HL := Lib.hid hl
  have hb : ∀ (o : Op) (w : World), True := fun _ _ => trivial
  clear hl hb
  generalize hZ : bv (List.replicate 32 0) = Z at hz HL hone ⊢
  have HZ := Lib.hid hZ
  clear hZ
  go_enter Try.func82, Try.ntmps82
  go_wp2_with (first
    | (refine wpList_alloc _ rfl 55 rfl _ hz ?_)
    | (refine wpList_build (.inl rfl) 55 _ rfl (.agg Z.toArray) (by rw [← HZ.out]; kernel_rfl) ?_)
    | (refine wpList_store_new _ rfl 55 (.tmp 2) (.tmp 11) rfl rfl Z Z _ rfl (digest_size HL.out) rfl hone ?_)
    | fail)
  have hc : Cells (w.alloc (.cells Z.toArray 55)) ⟨w.heap.size, 0, none⟩ Z := by have := Cells.of_block (heap_alloc_new w (.cells Z.toArray 55)); simpa using this
  (try simp only [Exit.inBlock, Exit.then])
  refine bodyPost_ret (results_agg rfl _ _ _ _ _ rfl Try.underlying55 rfl (digest_size HL.out) hc) rfl ?_
  exact ⟨rfl, (Ext.refl w).alloc _⟩

theorem after_make {w w1 : World} {N G : Nat} {a : Addr} {x : Value} (ho : w1.ownsRow 0 5 1 (.slice (some ⟨w.heap.size, 0, none⟩) N N) N (madeCells (Value.int .u8 0).cells (N * 1)).toList) (hg : w.grownBy w1 none) (hN : 0 < N) (hx : w.cell? a = some x) (hG : w.heap.size = G) :
    w1.cell? ⟨G, 0, none⟩ = some (.int .u8 0) ∧ w1.frozen? ⟨G, 0, none⟩ = false ∧ w1.cell? a = some x ∧
    OwnB (w1.setCell ⟨G, 0, none⟩ (.int .u8 128)) (.slice (some ⟨G, 0, none⟩) N N) (128 :: List.replicate (N - 1) 0) := by
  subst hG
  have e : (madeCells (Value.int .u8 0).cells (N * 1)).toList = bv (List.replicate N 0) := by
    rw [show (Value.int .u8 0).cells = #[.int .u8 0] from rfl, toList_madeCells_one, Nat.mul_one]
    simp [bv]
  rw [e] at ho
  refine ⟨?_, World.ownsRow.frozenAt ho 0, ?_, ?_⟩
  · have := World.ownsRow.cellAt ho 0 (by simpa using hN)
    rw [this]
    simp [bv, hN]
  · have hlt := World.block_lt_of_cell? w a hx
    rw [World.cell?_of_block (hg.block _ hlt (by simp))]; exact hx
  · have := (World.ownsRow.stored ho 0 (.int .u8 128)).1
    obtain ⟨m, rfl⟩ : ∃ m, N = m + 1 := ⟨N - 1, by omega⟩
    have e2 : (bv (List.replicate (m + 1) 0)).set 0 (Value.int .u8 128) = bv (128 :: List.replicate m 0) := by simp [bv, List.replicate_succ]
    rw [e2] at this
    unfold OwnB
    have e3 : (128 :: List.replicate (m + 1 - 1) (0 : UInt8)).length = m + 1 := by simp
    rw [e3]
    exact this

theorem laid_step (S : List Nat) (k : Nat) (hS : S.length = 8) (hk : k < 8) :
    (bv ((S.take k).flatMap (be 4) ++ List.replicate (32 - 4 * k) 0)).length = 32 ∧
    (bv ((S.take k).flatMap (be 4) ++ List.replicate (32 - 4 * k) 0)).take (4 * k) ++ bv ((be 4 (S.getD k 0)).take 4) ++ (bv ((S.take k).flatMap (be 4) ++ List.replicate (32 - 4 * k) 0)).drop (4 * k + 4) =
      bv ((S.take (k + 1)).flatMap (be 4) ++ List.replicate (32 - 4 * (k + 1)) 0) := by
  have hA : ((S.take k).flatMap (be 4)).length = 4 * k := by rw [be_flat, List.length_take]; omega
  have he : S.getD k 0 = S[k]'(by omega) := by simp [List.getD, List.getElem?_eq_getElem (show k < S.length by omega)]
  refine ⟨by rw [bv_length, List.length_append, hA, List.length_replicate]; omega, ?_⟩
  rw [flat_step _ _ _ (by omega), he]
  generalize (S.take k).flatMap (be 4) = A at hA
  rw [bv_append, List.take_left' (by rw [bv_length]; exact hA), ← bv_append, List.take_of_length_le (by rw [be_length]; exact Nat.le_refl _), List.drop_append, bv_length, hA, List.drop_eq_nil_of_le (by rw [bv_length]; omega), List.nil_append, show 4 * k + 4 - 4 * k = 4 by omega]
  have e2 : (bv (List.replicate (32 - 4 * k) 0)).drop 4 = bv (List.replicate (32 - 4 * (k + 1)) 0) := by
    simp only [bv, List.map_replicate, List.drop_replicate]
    congr 1
  rw [e2, ← bv_append]
theorem Four_i (x : Int) (n : Nat) (w : World) (hx : x = n) (hn : n < 4294967296) : Calls Try.prog 81 #[.int .u32 x] w fun e w' => e = .returned (.slice (some ⟨w.heap.size, 0, none⟩) 4 4) ∧ w' = w.alloc (.cells (bv (be 4 n)).toArray 5) := by
  subst hx; exact Four w n hn
theorem own_lit {w : World} {G : Nat} {e : TypeId} {cs : List Value} {n : Nat} (hG : w.heap.size = G) (hn : cs.length = n) (hm : n ≤ maxLen) : Own (w.alloc (.cells cs.toArray e)) e 1 (.slice (some ⟨G, 0, none⟩) n n) n cs := by
  subst hG
  refine ⟨by simpa using hn, .inr ⟨w.heap.size, n, cs.toArray, rfl, Nat.zero_le _, heap_alloc_new w _, Nat.le_refl _, hm, by simpa using hn, ?_⟩⟩
  simp [← hn]

set_option maxRecDepth 100000 in
set_option maxHeartbeats 1000000 in
theorem Sum (g : Nat) (B : List UInt8) (w : World) (hm : MillAt w g B) (hb : B.length < 576460752303423488) :
    Calls Try.prog 82 #[.pointer (some ⟨g, 0, none⟩)] w fun e w' => e = .returned (.agg (bv (sha B)).toArray) ∧ Ext w w' := by
  obtain ⟨i0, hi, hz0, hz1, hz2⟩ := info_parts u8_info
  have hg := hm.lt
  obtain ⟨wait, hwl, hwt, hblk⟩ := hm
  have hst := blocks_ok B (B.length / 64)
  generalize hS : blocks B (B.length / 64) = st at hblk hst
  have hone := mill_one st wait (B.length : Int)
  have hcl : (nv st ++ bv wait ++ [Value.int .u64 (B.length : Int)]).length = 73 := by simp [hst.1, hwl]
  have hcs : Cells (w.alloc (.cells (bv (List.replicate 32 0)).toArray 55)) ⟨g, 0, none⟩ (nv st ++ bv wait ++ [Value.int .u64 (B.length : Int)]) := hblk.cells.keep (heap_alloc_old _ _ hg)
  have c72 : (((w.alloc (.cells (bv (List.replicate 32 0)).toArray 55)).alloc (.cells (nv st ++ bv wait ++ [Value.int .u64 (B.length : Int)]).toArray 142))).cell? ⟨w.heap.size + 1, 72, none⟩ = some (.int .u64 (B.length : Int)) := by
    have h := Blk.new (w.alloc (.cells (bv (List.replicate 32 0)).toArray 55)) 142 (nv st ++ bv wait ++ [Value.int .u64 (B.length : Int)])
    have := (long_cell hst.1 hwl h).1
    simpa using this
  generalize hZ : bv (List.replicate 32 0) = Z at hcs c72
  generalize hCS : nv st ++ bv wait ++ [Value.int .u64 (B.length : Int)] = CS at hcs hblk hone hcl c72
  have hz := digest_zero
  rw [hZ] at hz
  have hmz := mill_zero
  have hmzl : (nv (List.replicate 8 0) ++ bv (List.replicate 64 0) ++ [Value.int .u64 0]).length = 73 := by simp
  generalize nv (List.replicate 8 0) ++ bv (List.replicate 64 0) ++ [Value.int .u64 0] = MZ at hmz hmzl
  have HZ := Lib.hid hZ
  have HS := Lib.hid hS
  have HCS := Lib.hid hCS
  have HCL := Lib.hid hcl
  have HST := Lib.hid hst
  have HMZ := Lib.hid hmzl
  have HBLK := Lib.hid hblk
  have HWL := Lib.hid hwl
  have HWT := Lib.hid hwt
  obtain ⟨N, hN⟩ : ∃ N, N = 64 - (B.length + 8) % 64 := ⟨_, rfl⟩
  have n1 : 0 < N := by omega
  have n2 : N ≤ 64 := by omega
  have NN := Lib.hid hN
  clear hN
  have l1 : (0 : Int) ≤ 64 - ((B.length : Int) + 8) % 64 ∧ 64 - ((B.length : Int) + 8) % 64 ≤ 64 := by omega
  clear hZ hS hCS hcl hst hmzl hblk hwl hwt
  go_enter Try.func82, Try.ntmps82
  go_wp2_with (first
    | (refine wpList_alloc _ rfl 55 rfl _ hz ?_)
    | (refine wpList_load_agg _ rfl 142 (.tmp 13) rfl _ rfl CS _ Try.underlying142 rfl (mill_size HCL.out) hcs ?_)
    | (refine wpList_alloc _ rfl 142 rfl _ hmz ?_)
    | (refine wpList_store_new _ rfl 142 (.tmp 3) (.tmp 14) rfl (by simp; rfl) MZ CS _ rfl (mill_size HCL.out) (by rw [HCL.out, HMZ.out]) hone ?_)
    | (at_make; refine wpList_make_full _ rfl _ _ _ rfl 0 _ i0 _ 1 Try.underlying62 hi hz0 hz1 .u64 .u64 _ _ N rfl rfl (by rw [NN.out]; omega) (by rw [NN.out]; omega) (by rw [hz2]; omega) (by unfold maxLen; omega) (Nat.zero_le _) ?_; intro w1 ho1 hg1; obtain ⟨c0, f0, d72, hs1⟩ := after_make (G := w.heap.size + 1 + 1) ho1 hg1 n1 c72 (by simp); have HS1 := Lib.hid hs1; have HG1 := Lib.hid hg1; have HO1 := Lib.hid ho1; clear hs1 hg1 ho1)
    | fail)
  have hfill : 128 :: List.replicate (N - 1) 0 = fill B.length := by
    have h := NN.out
    unfold fill
    rw [show N - 1 = 63 - (B.length + 8) % 64 by omega]
  have ho2 : OwnB (w1.setCell ⟨w.heap.size + 1 + 1, 0, none⟩ (Value.int .u8 128)) (.slice (some ⟨w.heap.size + 1 + 1, 0, none⟩) N N) (fill B.length) := by rw [← hfill]; exact HS1.out
  have hbq : Blk ((w.alloc (.cells Z.toArray 55)).alloc (.cells CS.toArray 142)) (w.heap.size + 1) 142 CS := by have := Blk.new (w.alloc (.cells Z.toArray 55)) 142 CS; simpa using this
  have hm1 : MillAt (w1.setCell ⟨w.heap.size + 1 + 1, 0, none⟩ (Value.int .u8 128)) (w.heap.size + 1) B :=
    ⟨wait, HWL.out, HWT.out, by rw [HS.out, HCS.out]; exact (hbq.keep HG1.out (by simp)).keep (only_set 0 _) (by simp)⟩
  have hx1 : Ext w (w1.setCell ⟨w.heap.size + 1 + 1, 0, none⟩ (Value.int .u8 128)) := ((((Ext.refl w).alloc _).alloc _).trans HG1.out).setCell (by simp; omega) _
  have hr1 : Blk (w1.setCell ⟨w.heap.size + 1 + 1, 0, none⟩ (Value.int .u8 128)) w.heap.size 55 Z := (((Blk.new w 55 Z).keep ((Ext.refl _).alloc _) (by simp)).keep HG1.out (by simp)).keep (only_set 0 _) (by simp; omega)
  have hp2 : (Ty.sl .u8).holds _ (fun b => b = w.heap.size + 1 + 1) [_] (fill B.length) := Ty.keep (fun _ _ => rfl) (fun b hb => (Option.some.inj hb).symm) _ ho2.holds
  refine (Put (w.heap.size + 1) _ _ B (fill B.length) (fun b => b = w.heap.size + 1 + 1) hm1 hp2 (by rintro b rfl; exact ⟨ho2.lt _ rfl, by omega⟩) (by rw [fill_length]; omega)).mono ?_
  rintro e w2 ⟨rfl, hm2, hg2⟩
  have hx2 : Ext w w2 := grown_then hx1 hg2 (.inr (by rintro _ ⟨⟩; omega))
  have hr2 := hr1.keep hg2 (by simp)
  have HM2 := Lib.hid hm2
  have HX2 := Lib.hid hx2
  have HR2 := Lib.hid hr2
  clear hm1 hx1 hr1 hm2 hx2 hr2 hbq ho2 hp2 hfill c0 f0 d72 hcs c72
  go_wp2_with fail
  refine (Four_i _ (B.length * 8 / 4294967296) _ (by omega) (by omega)).mono ?_
  rintro e w3 ⟨rfl, rfl⟩
  go_wp2_with fail
  refine (Four_i _ (B.length * 8 % 4294967296) _ (by omega) (by omega)).mono ?_
  rintro e w3 ⟨rfl, rfl⟩
  generalize hhi : B.length * 8 / 4294967296 = hi8
  generalize hlo : B.length * 8 % 4294967296 = lo8
  have HHI := Lib.hid hhi
  have HLO := Lib.hid hlo
  clear hhi hlo
  go_wp2_with (first
    | (at_builtin; refine wpList_app _ rfl (.tmp 31) (.tmp 34) _ _ rfl _ _ i0 _ 1 1 Try.underlying62 Try.underlying62 hi hz0 hz1 hz2 rfl (by decide) _ _ _ rfl ((own_lit rfl (by simp [be_length]) (by simp [maxLen])).ext ((Ext.refl _).alloc _)) _ _ _ (bv (be 4 lo8)) rfl (by simp [be_length]) (by have := src_new (w2.alloc (.cells (bv (be 4 hi8)).toArray 5)) (bv (be 4 lo8)) 5 4; simpa using this) (bv_one _) (by simp [maxLen]) (by omega) ?_; intro v5 w5 ho5 hm5)
    | fail)
  have hm5 : Moved ((w2.alloc (.cells (bv (be 4 hi8)).toArray 5)).alloc (.cells (bv (be 4 lo8)).toArray 5)) w5 (.slice (some ⟨w2.heap.size, 0, none⟩) 4 4) v5 := hm5
  have ho5' : OwnB w5 v5 (be 8 (B.length * 8)) := by rw [be8_split, HHI.out, HLO.out]; exact OwnB.app (by simpa [be_length] using ho5)
  have hlt2 : w.heap.size + 1 < w2.heap.size := HM2.out.lt
  have hg5 : w2.grownBy w5 none := grown_then (((Ext.refl w2).alloc _).alloc _) hm5.grown (.inr (by rintro _ ⟨⟩; exact Nat.le_refl _))
  have hnew5 : ∀ b, v5.ownBlock = some b → w2.heap.size ≤ b := by
    intro b hb
    rcases hm5.at_ with e | h
    · rw [e] at hb; cases hb; exact Nat.le_refl _
    · have := h b hb; simp at this; omega
  have hm6 : MillAt w5 (w.heap.size + 1) (B ++ fill B.length) := HM2.out.keep hg5 (by simp)
  have hx5 : Ext w w5 := HX2.out.trans hg5
  have hr5 := HR2.out.keep hg5 (by simp)
  have hp5 := ho5'.holds
  have hlt5 := ho5'.lt
  have HR5 := Lib.hid hr5
  have HX5 := Lib.hid hx5
  clear hm5 ho5 ho5' hg5 hx5 hr5 HM2 HX2 HR2
  refine (Put (w.heap.size + 1) _ v5 (B ++ fill B.length) (be 8 (B.length * 8)) _ hm6 hp5 (fun b hb => ⟨hlt5 b hb, by have := hnew5 b hb; omega⟩) (by rw [List.length_append, fill_length, be_length]; omega)).mono ?_
  rintro e w6 ⟨rfl, hm7, hg6⟩
  have hpad : B ++ fill B.length ++ be 8 (B.length * 8) = padded B := rfl
  rw [hpad] at hm7
  have hx6 : Ext w w6 := grown_then HX5.out hg6 (.inr (by rintro _ ⟨⟩; omega))
  have hr6 := HR5.out.keep hg6 (by simp)
  have hdiv : (padded B).length / 64 = (padded B).length / 64 := rfl
  obtain ⟨wait2, hwl2, hwt2, hbk2⟩ := hm7
  have hst2 := blocks_ok (padded B) ((padded B).length / 64)
  have hfin : (blocks (padded B) ((padded B).length / 64)).flatMap (be 4) = sha B := rfl
  generalize blocks (padded B) ((padded B).length / 64) = S at hbk2 hst2 hfin
  obtain ⟨hS8, hSlt⟩ := hst2
  have hlt6 := hbk2.lt
  have hcS : Cells (w6.alloc (.cells Z.toArray 55)) ⟨w.heap.size + 1, 0, none⟩ (nv S) := (hbk2.cells.left.left).keep (heap_alloc_old _ _ hlt6)
  have hlS : (nv S).length = 8 := by rw [nv_length]; exact hS8
  have HS8 := Lib.hid hS8
  have HLS := Lib.hid hlS
  have HFIN := Lib.hid hfin
  have HR6 := Lib.hid hr6
  have HX6 := Lib.hid hx6
  clear hS8 hlS hfin hr6 hx6 hbk2 hwl2 hwt2 hdiv hpad hm6 hp5 hlt5 hnew5 hg6
  have ss : ∀ {n : Nat}, n = 8 → (Try.prog.info? 139).map (·.size) = some n := by rintro _ rfl; kernel_rfl
  go_wp2_with (first
    | (refine wpList_alloc _ rfl 55 rfl _ hz ?_)
    | (refine wpList_load_agg _ rfl 139 (.tmp 37) rfl _ rfl (nv S) _ Try.underlying139 rfl (ss HLS.out) hcS ?_)
    | fail)
  have hdb : Blk (w6.alloc (.cells Z.toArray 55)) w6.heap.size 55 Z := Blk.new _ _ _
  have hr7 : Blk (w6.alloc (.cells Z.toArray 55)) w.heap.size 55 Z := HR6.out.keep ((Ext.refl _).alloc _) (by simp)
  have hx7 : Ext w (w6.alloc (.cells Z.toArray 55)) := HX6.out.alloc _
  have hne : w.heap.size ≠ w6.heap.size := Nat.ne_of_lt HR6.out.lt
  have hdz : w.heap.size ≤ w6.heap.size := HX6.out.size
  clear hcS
  generalize hDB : w6.heap.size = DB at hdb hne hdz
  have HDB := Lib.hid hDB
  clear hDB
  go_loopw [39] (fun i wr => ∃ k : Nat, k ≤ 8 ∧ i = .int .i64 k ∧ Ext w wr ∧ Blk wr DB 55 (bv ((S.take k).flatMap (be 4) ++ List.replicate (32 - 4 * k) 0)) ∧ Blk wr w.heap.size 55 Z) (fun i _ => 8 - (intOf i).toNat)
  case atStart => exact ⟨0, by omega, rfl, hx7, by rw [show bv ((S.take 0).flatMap (be 4) ++ List.replicate (32 - 4 * 0) 0) = Z from HZ.out]; exact hdb, hr7⟩
  case round =>
    clear hx7 hdb hr7
    obtain ⟨k, hk, rfl, hx, hd, hr⟩ := hrel
    by_cases hlt : k < 8
    · obtain ⟨hcl, hcs⟩ := laid_step S k HS8.out hlt
      have hSk : (nv S)[k]? = some (Value.int .u32 ((S.getD k 0 : Nat) : Int)) := by
        have := HS8.out
        simp [nv, List.getD, List.getElem?_eq_getElem (show k < S.length by omega)]
      have hbd := getD_lt hSlt k
      generalize hcur : bv ((S.take k).flatMap (be 4) ++ List.replicate (32 - 4 * k) 0) = cur at hd hcl hcs
      generalize S.getD k 0 = x at hcs hSk hbd
      have HCS2 := Lib.hid hcs
      have HCL2 := Lib.hid hcl
      have HX := Lib.hid hx
      have HD := Lib.hid hd
      have HRR := Lib.hid hr
      have hu32 : (Try.prog.info? 27).map (·.size) = some 1 := by kernel_rfl
      have k1 : (0 : Int) ≤ 4 * (k : Int) := by omega
      have k2 : 4 * (k : Int) ≤ 32 := by omega
      have kw : IntKind.i64.wrap (4 * (k : Int)) = 4 * (k : Int) := by rw [IntKind.wrap_i64]; omega
      clear hcur hcs hcl hx hd hr
      go_wp2_with (first
        | (refine wpList_index (.inl rfl) 139 (.tmp 38) (.tmp 39) rfl (nv S) k 8 .i64 27 _ _ rfl rfl Try.underlying139 hlt Try.underlying27 rfl hu32 hSk ?_)
        | fail)
      have hb8 : Blk (wr.drew.alloc (.cells (bv (be 4 x)).toArray 5)) DB 55 cur := Blk.keep (w := wr.drew) HD.out ((Ext.refl _).alloc _) (by simp)
      go_region_held_law (fun _ => True) (trivial) (first
        | (go_at_call 81; refine (Four_i _ x _ rfl hbd).mono ?_; rintro e w7 ⟨rfl, rfl⟩)
        | (refine step_copyB rfl (.tmp 45) (.tmp 47) 62 62 rfl 5 Try.underlying62 (by kernel_rfl) DB (4 * k) (32 - 4 * k) (32 - 4 * k) rfl (some ⟨wr.heap.size, 0, none⟩) 4 4 rfl (be 4 x) (be_length _ _) (src_new wr.drew (bv (be 4 x)) 5 4) cur 55 hb8 4 (by omega) (by rw [HCL2.out]; omega) ?_; intro w8 hd8 hg8; rw [HCS2.out] at hd8))
      go_wp2
      go_roundw
      case rel =>
        have h1 : Ext w (wr.drew.alloc (.cells (bv (be 4 x)).toArray 5)) := HX.out.drew.alloc _
        have h2 : Blk (wr.drew.alloc (.cells (bv (be 4 x)).toArray 5)) w.heap.size 55 Z := Blk.keep (w := wr.drew) HRR.out ((Ext.refl _).alloc _) (by simp)
        exact ⟨k + 1, by omega, by go_num, grown_then h1 hg8 (.inr (by rintro _ ⟨⟩; exact hdz)), hd8, h2.keep hg8 (by simpa using hne)⟩
      case measure => simp [intOf]; omega
    · obtain rfl : k = 8 := by omega
      have e8 : (S.take 8).flatMap (be 4) ++ List.replicate (32 - 4 * 8) 0 = sha B := by rw [List.take_of_length_le (by rw [HS8.out]; exact Nat.le_refl _), HFIN.out]; simp
      rw [e8] at hd
      have hsl : (bv (sha B)).length = 32 := by rw [bv_length, ← HFIN.out, be_flat, HS8.out]
      have hzl : Z.length = 32 := by rw [← HZ.out, bv_length, List.length_replicate]
      have hso := bv_one (sha B)
      generalize hR : bv (sha B) = R at hd hsl hso
      have HR := Lib.hid hR
      clear hR
      have hcd := hd.cells
      have hrw : wr.heap[w.heap.size]? = some (.cells Z.toArray 55 (0, 0)) := hr
      have HSL := Lib.hid hsl
      have HZL := Lib.hid hzl
      have HX := Lib.hid hx
      clear e8 hsl hzl hx
      go_wp2_with (first
        | (refine wpList_load_agg _ rfl 55 (.tmp 6) rfl _ rfl R _ Try.underlying55 rfl (digest_size HSL.out) hcd ?_)
        | (refine wpList_store_row _ rfl 55 (.tmp 2) (.tmp 50) rfl w.heap.size rfl Z R _ rfl hrw (digest_size HSL.out) (by rw [HSL.out, HZL.out]) hso ?_)
        | fail)
      have hc : Cells (wr.setRow w.heap.size R.toArray) ⟨w.heap.size, 0, none⟩ R := Blk.cells (t := 55) (setRow_at hrw)
      (try simp only [Exit.inBlock, Exit.then])
      refine bodyPost_ret (results_agg rfl _ _ _ _ _ rfl Try.underlying55 rfl (digest_size HSL.out) hc) rfl ?_
      exact ⟨by rw [HR.out], setRow_grown HX.out _ _ (Nat.le_refl _)⟩
end
section
open Go.RowKit

theorem sha_length (b : List UInt8) : (sha b).length = 32 := by
  have h := (blocks_ok (padded b) ((padded b).length / 64)).1
  show ((blocks (padded b) ((padded b).length / 64)).flatMap (be 4)).length = 32
  rw [be_flat, h]
theorem mill_new {w : World} {G : Nat} (hG : w.heap.size = G) : MillAt (w.alloc (.cells (nv firstK ++ bv (List.replicate 64 0) ++ [Value.int .u64 0]).toArray 142)) G [] := by
  subst hG
  exact ⟨List.replicate 64 0, by simp, by simp, Blk.new _ _ _⟩
/-- The new block that holds a result. -/
theorem new_store {w : World} {t : TypeId} {Z : List Value} {w' : World} (hx : Ext (w.alloc (.cells Z.toArray t)) w') : w'.heap[w.heap.size]? = some (.cells Z.toArray t (0, 0)) :=
  (hx.block _ (by simp) (by simp)).trans (heap_alloc_new w _)

/-- What is summed for a domain of parts. -/
def textM (d : UInt8) (ps : List (List UInt8)) : List UInt8 := d :: UInt8.ofNat ps.length :: ps.flatMap blob
theorem parts_new {w : World} {G n : Nat} {vs : List Value} {ps : List (List UInt8)} {F : Fp} {T : TypeId} (hG : w.heap.size = G) (hn : ps.length = n) (hm : n ≤ maxLen) (h : AllH ((Ty.sl .u8).holds w F) vs ps) (hF : ∀ b, F b → b < w.heap.size) :
    (Ty.sl (.sl .u8)).holds (w.alloc (.cells vs.toArray T)) (fun b => F b ∨ b = G) [.slice (some ⟨G, 0, none⟩) n n] ps :=
  sl_made (t := .sl .u8) hG (.inr rfl) hn hm (AllH.mono (fun c a _ h => Ty.keep (t := .sl .u8) (fun b hb => Below.heap_alloc _ _ b (hF b hb)) (fun _ h => .inl h) h) h)
theorem bytes_new {w : World} {G n : Nat} {bs : List UInt8} {T : TypeId} {fr : Nat × Nat} (hG : w.heap.size = G) (hn : bs.length = n) (hm : n ≤ maxLen) : (Ty.sl .u8).holds (w.alloc (.cells (bv bs).toArray T fr)) (fun b => b = G) [.slice (some ⟨G, 0, none⟩) n n] bs :=
  sl_made (t := .u8) hG rfl hn hm (AllH.bytes.2 rfl)
theorem allH_two {α : Type} {R : List Value → α → Prop} {v1 v2 : Value} {a b : α} (h1 : R [v1] a) (h2 : R [v2] b) : AllH R [v1, v2] [a, b] := ⟨[v1], [v2], rfl, h1, [v2], [], rfl, h2, rfl⟩

set_option maxHeartbeats 1000000 in
theorem For (d : UInt8) (v : Value) (ps : List (List UInt8)) (w : World) (F : Fp) (hp : (Ty.sl (.sl .u8)).holds w F [v] ps) (hF : ∀ b, F b → b < w.heap.size) (hb : (ps.flatMap blob).length < 288230376151711744) :
    Calls Try.prog 66 #[.int .u8 d.toNat, v] w fun e w' => e = .returned (.agg (bv (sha (textM d ps))).toArray) ∧ Ext w w' := by
  have hz := digest_zero
  have hzl : (bv (List.replicate 32 0)).length = 32 := by simp
  generalize bv (List.replicate 32 0) = Z at hz hzl
  have HZL := Lib.hid hzl
  clear hzl
  have hp0 := hp
  obtain ⟨A, c, xs, hv, hlc, hc, hA, hcell, hall⟩ := hp
  cases hv
  unfold maxLen at hc
  obtain ⟨lb, hlb⟩ : ∃ lb : UInt8, lb = UInt8.ofNat ps.length := ⟨_, rfl⟩
  have hlb1 : (ps.length : Int) % 256 = (lb.toNat : Int) := by rw [hlb, UInt8.toNat_ofNat']; omega
  have HLB := Lib.hid hlb
  clear hlb
  go_enter Try.func66, Try.ntmps66
  go_wp2_with (first
    | (refine wpList_alloc _ rfl 55 rfl _ hz ?_)
    | fail)
  refine (New _).mono ?_
  rintro e w1 ⟨rfl, rfl⟩
  have hx1 : Ext w ((w.alloc (.cells Z.toArray 55)).alloc (.cells (nv firstK ++ bv (List.replicate 64 0) ++ [Value.int .u64 0]).toArray 142)) := ((Ext.refl w).alloc _).alloc _
  have hm1 := mill_new (w := w.alloc (.cells Z.toArray 55)) (G := w.heap.size + 1) (by simp)
  have hr1 := new_store ((Ext.refl (w.alloc (.cells Z.toArray 55))).alloc (.cells (nv firstK ++ bv (List.replicate 64 0) ++ [Value.int .u64 0]).toArray 142))
  generalize ((w.alloc (.cells Z.toArray 55)).alloc (.cells (nv firstK ++ bv (List.replicate 64 0) ++ [Value.int .u64 0]).toArray 142)) = w2 at hx1 hm1 hr1 ⊢
  go_wp2_with fail
  refine (Write (w.heap.size + 1) _ [] [[d, lb]] _ (fun b => b = w2.heap.size ∨ b = w2.heap.size + 1) ((MillAt.keep (row := none) (by simpa using hm1) (((Ext.refl w2).alloc _).alloc _) (by simp)))
    (parts_new (w := w2.alloc (.cells (bv [d, lb]).toArray 5)) (by simp) rfl (by simp [maxLen]) (AllH.one (R := (Ty.sl .u8).holds _ _) (bytes_new (bs := [d, lb]) rfl rfl (by simp [maxLen]))) (by rintro b rfl; simp)) (by have := hm1.lt; rintro b (rfl | rfl) <;> exact ⟨by simp <;> omega, by omega⟩) (by simp)).mono ?_
  rintro e w3 ⟨rfl, hm3, hg3⟩
  have hx3 : Ext w w3 := grown_then ((hx1.alloc _).alloc _) hg3 (.inr (by rintro _ ⟨⟩; omega))
  have hr3 : Blk w3 w.heap.size 55 Z := (Blk.keep (w := w2) hr1 (((Ext.refl w2).alloc _).alloc _) (by simp)).keep hg3 (by simp)
  have hm3 : MillAt w3 (w.heap.size + 1) [d, lb] := hm3
  clear hx1 hm1 hr1 hg3
  go_wp2
  go_loopw [19] (fun i wr => ∃ k : Nat, k ≤ ps.length ∧ i = .int .i64 k ∧ Ext w wr ∧ MillAt wr (w.heap.size + 1) ([d, lb] ++ (ps.take k).flatMap blob) ∧ Blk wr w.heap.size 55 Z) (fun i _ => ps.length - (intOf i).toNat)
  case atStart => exact ⟨0, by omega, rfl, hx3, by simpa using hm3, hr3⟩
  case round =>
    clear hx3 hm3 hr3
    obtain ⟨k, hk, rfl, hx, hm, hr⟩ := hrel
    by_cases hlt : k < ps.length
    · obtain ⟨ad, rfl, hf, hcells⟩ := hcell (by rintro rfl; simp at hlt)
      obtain ⟨y, hy, hyh⟩ := AllH.sl_at hall hlt
      have hcx := (hcells.keep (hx.same hF _ hf)) k _ hy
      have hyr := hx.holds hF hyh
      obtain ⟨A1, c1, xs1, hv1, hlc1, hc1, _⟩ := hyh
      cases hv1
      unfold maxLen at hc1
      have hbd := flat_len_step blob ps k hlt
      have hbl : (blob ps[k]).length = 4 + ps[k].length := by simp [blob, be_length]
      have hstep := flat_step blob ps k hlt
      have HY := Lib.hid hyr
      have HM := Lib.hid hm
      have HBL := Lib.hid hbl
      have HST := Lib.hid hstep
      rw [hbl] at hbd
      clear hyr hm hbl hstep hy
      generalize hpk : ps[k] = p at *
      clear hpk
      go_wp2_with fail
      refine (Four_i _ (p.length % 4294967296) _ (by omega) (by omega)).mono ?_
      rintro e w4 ⟨rfl, rfl⟩
      rw [be_mod4]
      go_wp2_with fail
      refine (Write (w.heap.size + 1) _ _ [be 4 p.length, p] _ (fun b => (F b ∨ b = wr.heap.size) ∨ b = wr.heap.size + 1) (HM.out.keep (((Ext.refl wr).alloc _).alloc _) (by simp))
        (parts_new (w := wr.alloc (.cells (bv (be 4 p.length)).toArray 5)) (vs := [_, _]) (by simp) rfl (by simp [maxLen])
          (allH_two (R := (Ty.sl .u8).holds _ _) (Ty.keep (t := .sl .u8) (fun _ _ => rfl) (fun _ h => .inr h) (bytes_new (bs := be 4 p.length) rfl (be_length _ _) (by simp [maxLen]))) (Ty.keep (t := .sl .u8) (fun b hb => Below.heap_alloc _ _ b (Nat.lt_of_lt_of_le (hF b hb) hx.size)) (fun _ h => .inl h) HY.out))
          (by rintro b (hb | rfl)
              · have := hF b hb; have := hx.size; simp; omega
              · simp))
        (by have := HM.out.lt
            have := hx.size
            rintro b ((hb | rfl) | rfl)
            · have := hF b hb; exact ⟨by simp; omega, by omega⟩
            · exact ⟨by simp; omega, by omega⟩
            · exact ⟨by simp, by omega⟩)
        (by simp only [List.length_append, List.length_cons, List.length_nil, List.flatMap_cons, List.flatMap_nil, id, be_length]; omega)).mono ?_
      rintro e w5 ⟨rfl, hm5, hg5⟩
      have hx5 : Ext w w5 := grown_then ((hx.alloc _).alloc _) hg5 (.inr (by rintro _ ⟨⟩; omega))
      have hr5 : Blk w5 w.heap.size 55 Z := (Blk.keep (w := wr) hr (((Ext.refl wr).alloc _).alloc _) (by simp)).keep hg5 (by simp)
      have e5 : [be 4 p.length, p].flatMap id = blob p := by simp [blob]
      rw [e5, List.append_assoc, ← HST.out] at hm5
      have HM5 := Lib.hid hm5
      clear hm5 e5
      go_wp2
      go_roundw
      case rel => exact ⟨k + 1, by omega, by go_num, hx5, HM5.out, hr5⟩
      case measure => simp [intOf]; omega
    · obtain rfl : k = ps.length := by omega
      rw [List.take_length] at hm
      have htx : [d, lb] ++ ps.flatMap blob = textM d ps := by rw [HLB.out]; rfl
      rw [htx] at hm
      have htl : (textM d ps).length = 2 + (ps.flatMap blob).length := by simp [textM]; omega
      go_wp2_with fail
      refine (Sum (w.heap.size + 1) (textM d ps) wr hm (by omega)).mono ?_
      rintro e w4 ⟨rfl, hx4⟩
      have hr4 : w4.heap[w.heap.size]? = some (.cells Z.toArray 55 (0, 0)) := hr.keep hx4 (by simp)
      have hsl : (bv (sha (textM d ps))).length = 32 := by rw [bv_length, sha_length]
      have hso := bv_one (sha (textM d ps))
      generalize hR : bv (sha (textM d ps)) = R at hsl hso ⊢
      have HR := Lib.hid hR
      have HSL := Lib.hid hsl
      clear hR hsl htx htl
      go_wp2_with (first
        | (refine wpList_store_row _ rfl 55 (.tmp 4) (.tmp 33) rfl w.heap.size rfl Z R _ rfl hr4 (digest_size HSL.out) (by rw [HSL.out, HZL.out]) hso ?_)
        | fail)
      have hc : Cells (w4.setRow w.heap.size R.toArray) ⟨w.heap.size, 0, none⟩ R := Blk.cells (t := 55) (setRow_at hr4)
      (try simp only [Exit.inBlock, Exit.then])
      refine bodyPost_ret (results_agg rfl _ _ _ _ _ rfl Try.underlying55 rfl (digest_size HSL.out) hc) rfl ?_
      exact ⟨by rw [HR.out], setRow_grown (hx.trans hx4) _ _ (Nat.le_refl _)⟩
theorem For_i (d : UInt8) (x : Int) (hx : x = (d.toNat : Int)) (v : Value) (ps : List (List UInt8)) (w : World) (F : Fp) (hp : (Ty.sl (.sl .u8)).holds w F [v] ps) (hF : ∀ b, F b → b < w.heap.size) (hb : (ps.flatMap blob).length < 288230376151711744) :
    Calls Try.prog 66 #[.int .u8 x, v] w fun e w' => e = .returned (.agg (bv (sha (textM d ps))).toArray) ∧ Ext w w' := by
  subst hx; exact For d v ps w F hp hF hb
end
section

def byteN (n : Nat) : UInt8 := UInt8.ofNat n
/-- A secret, for a place and a value. -/
def secretM (seed : List UInt8) (n k b : Nat) : List UInt8 := (sha (textM 1 [seed, be 4 n, [byteN k, byteN b]])).take 16
/-- What a piece is known by. -/
def coverM (p : List UInt8) : List UInt8 := (sha (textM 5 [p])).take 16
def leafOf (all : List UInt8) : List UInt8 := sha (textM 2 [all])
def rowM (seed : List UInt8) (n k : Nat) : List UInt8 := coverM (secretM seed n k 0) ++ coverM (secretM seed n k 1)
def allM (seed : List UInt8) (n : Nat) : List UInt8 := (List.range 32).flatMap (rowM seed n)
def leafM (seed : List UInt8) (n : Nat) : List UInt8 := leafOf (allM seed n)
/-- One of a digest's first bits. -/
def bitM (d : List UInt8) (k : Nat) : Nat := (d.getD (k / 8) 0).toNat / 2 ^ (7 - k % 8) % 2
theorem bitM_lt (d : List UInt8) (k : Nat) : bitM d k < 2 := Nat.mod_lt _ (by decide)
theorem secretM_length (seed : List UInt8) (n k b : Nat) : (secretM seed n k b).length = 16 := by unfold secretM; rw [List.length_take, sha_length]; rfl
theorem coverM_length (p : List UInt8) : (coverM p).length = 16 := by unfold coverM; rw [List.length_take, sha_length]; rfl
theorem leafOf_length (a : List UInt8) : (leafOf a).length = 32 := sha_length _
theorem rowM_length (seed : List UInt8) (n k : Nat) : (rowM seed n k).length = 32 := by unfold rowM; rw [List.length_append, coverM_length, coverM_length]
/-- What a signature's piece k, with its other one, comes to for the leaf. -/
def rowFrom (b : Nat) (op ot : List UInt8) : List UInt8 := if b = 0 then coverM op ++ ot else ot ++ coverM op
/-- The open pieces, the other ones. -/
def openM (seed : List UInt8) (n : Nat) (d : List UInt8) (k : Nat) : List UInt8 := secretM seed n k (bitM d k)
def otherM (seed : List UInt8) (n : Nat) (d : List UInt8) (k : Nat) : List UInt8 := coverM (secretM seed n k (1 - bitM d k))
theorem row_back (seed : List UInt8) (n : Nat) (d : List UInt8) (k : Nat) : rowFrom (bitM d k) (openM seed n d k) (otherM seed n d k) = rowM seed n k := by
  have h := bitM_lt d k
  unfold rowFrom openM otherM rowM
  rcases Nat.eq_zero_or_pos (bitM d k) with h0 | h0
  · rw [if_pos h0, h0]
  · have h1 : bitM d k = 1 := by omega
    rw [if_neg (by omega), h1]
/-- A signature's piece k. -/
def pieceAt (s : List UInt8) (k : Nat) : List UInt8 := (s.drop (16 * k)).take 16
theorem pieceAt_length {s : List UInt8} {k : Nat} (h : 16 * k + 16 ≤ s.length) : (pieceAt s k).length = 16 := by unfold pieceAt; rw [List.length_take, List.length_drop]; omega
/-- What a key would be known by that signed a digest so: op, the open pieces, ot, the other ones. -/
def allFrom (op ot d : List UInt8) : List UInt8 := (List.range 32).flatMap fun k => rowFrom (bitM d k) (pieceAt op k) (pieceAt ot k)
def fromM (op ot d : List UInt8) : List UInt8 := leafOf (allFrom op ot d)
/-- Pieces, one behind the other. -/
def piecesM (f : Nat → List UInt8) (n : Nat) : List UInt8 := (List.range n).flatMap f
theorem piecesM_succ (f : Nat → List UInt8) (n : Nat) : piecesM f (n + 1) = piecesM f n ++ f n := by simp [piecesM, List.range_succ]
theorem piecesM_length {f : Nat → List UInt8} {m : Nat} (h : ∀ k, (f k).length = m) : ∀ n, (piecesM f n).length = m * n
  | 0 => by simp [piecesM]
  | n + 1 => by rw [piecesM_succ, List.length_append, piecesM_length h n, h, Nat.mul_succ]
theorem piecesM_split (f : Nat → List UInt8) {m : Nat} : ∀ {n : Nat}, m ≤ n → ∃ r, piecesM f n = piecesM f m ++ r
  | 0, h => by obtain rfl : m = 0 := by omega
               exact ⟨[], by simp⟩
  | n + 1, h => by
    by_cases e : m = n + 1
    · subst e; exact ⟨[], by simp⟩
    · obtain ⟨r, hr⟩ := piecesM_split f (show m ≤ n by omega)
      exact ⟨r ++ f n, by rw [piecesM_succ, hr, List.append_assoc]⟩
theorem pieceAt_pieces {f : Nat → List UInt8} (h : ∀ k, (f k).length = 16) {k n : Nat} (hk : k < n) : pieceAt (piecesM f n) k = f k := by
  obtain ⟨r, hr⟩ := piecesM_split f (show k + 1 ≤ n by omega)
  rw [hr, piecesM_succ, List.append_assoc, pieceAt, List.drop_left' (piecesM_length h k), List.take_left' (h k)]
/-- A signature leads to its key's leaf. -/
theorem from_back (seed : List UInt8) (n : Nat) (d : List UInt8) : fromM (piecesM (openM seed n d) 32) (piecesM (otherM seed n d) 32) d = leafM seed n := by
  unfold fromM leafM allFrom allM
  congr 1
  have h : ∀ l : List Nat, (∀ k ∈ l, k < 32) → l.flatMap (fun k => rowFrom (bitM d k) (pieceAt (piecesM (openM seed n d) 32) k) (pieceAt (piecesM (otherM seed n d) 32) k)) = l.flatMap (rowM seed n) := by
    intro l
    induction l with
    | nil => intro _; rfl
    | cons k l ih =>
      intro hl
      rw [List.flatMap_cons, List.flatMap_cons, ih (fun x hx => hl x (List.mem_cons_of_mem _ hx)), pieceAt_pieces (f := openM seed n d) (fun k => secretM_length _ _ _ _) (hl k (by simp)), pieceAt_pieces (f := otherM seed n d) (fun k => coverM_length _) (hl k (by simp)), row_back]
  exact h _ (fun k hk => by simpa using hk)
end
section
open Go.RowKit

/-- The worlds that have grown from this one. -/
def Since (w0 w : World) : Prop := Ext w0 w
theorem Since.ext {w0 w : World} (h : Since w0 w) : Ext w0 w := h
section
variable {P : Program} {C : World → Prop} {o : Oper} {a : Act} {K : Act → Prop}
theorem quiet_run (v : Value) (h : ∀ w, C w → (execOp a.eval o).run P w = .ok (.value v) w) (hk : K (a.put o.dst v)) : o.quiet P a C K :=
  ⟨v, fun w hw => by unfold Oper.quietAt; rw [h w hw]; exact ⟨rfl, rfl⟩, hk⟩
theorem quiet_agg (ty : TypeId) (x : Operand) (ho : o.op = .load ty x) (ad : Addr) (hx : a.eval x = .pointer (some ad)) (cs : List Value) (d : TypeDesc) (hu : P.underlying ty = some d) (hd : isAggD d = true) (hi : (P.info? ty).map (·.size) = some cs.length) (hc : ∀ w, C w → Cells w ad cs) (hk : K (a.put o.dst (.agg cs.toArray))) : o.quiet P a C K :=
  quiet_run _ (fun w hw => by
    unfold execOp
    simp only [ho, hx, Instr.loadAt, Instr.sureAddr, Sem.run_bind, Sem.run_pure, Result.andThen_ok, run_load_agg w ty ad cs d hu hd hi (hc w hw)]) hk
theorem run_load_one {w : World} (ty : TypeId) (ad : Addr) (v : Value) (d : TypeDesc) (hu : P.underlying ty = some d) (hd : isAggD d = false) (hc : w.cell? ad = some v) : (Instr.loadAt ty (.pointer (some ad))).run P w = .ok v w := by
  have hagg : (isAgg ty).run P w = .ok false w := by
    unfold isAgg
    rw [Sem.run_bind, run_underlying hu w]
    cases d <;> simp_all [isAggD]
  simp [Instr.loadAt, Instr.sureAddr, loadVar, Sem.run_bind, hagg, hc]
/-- A load of one cell. -/
theorem quiet_cell (ty : TypeId) (x : Operand) (ho : o.op = .load ty x) (ad : Addr) (hx : a.eval x = .pointer (some ad)) (v : Value) (d : TypeDesc) (hu : P.underlying ty = some d) (hd : isAggD d = false) (hc : ∀ w, C w → w.cell? ad = some v) (hk : K (a.put o.dst v)) : o.quiet P a C K :=
  quiet_run _ (fun w hw => by
    unfold execOp
    simp only [ho, hx, Sem.run_bind, run_load_one ty ad v d hu hd (hc w hw), Sem.run_pure, Result.andThen_ok]) hk
/-- 'string(b)'. -/
theorem quiet_str (src dst : TypeId) (x : Operand) (ho : o.op = .convert src dst x) (e : TypeId) (hs : P.underlying src = some (.slice e)) (he : P.underlying e = some (.int .u8)) (hd : P.underlying dst = some .string)
    (A : Option Addr) (n c : Nat) (bs : List UInt8) (hx : a.eval x = .slice A n c) (hn : bs.length = n) (hsrc : ∀ w, C w → Src w A n (bv bs)) (hk : K (a.put o.dst (.string (strOf bs)))) : o.quiet P a C K := by
  subst hn
  exact quiet_run _ (fun w hw => by
    unfold execOp
    simp only [ho, hx, Sem.run_bind, run_str w src dst e hs he hd A c bs (hsrc w hw), Result.andThen_ok, Sem.run_pure]) hk
/-- A conversion, its run known. -/
theorem quiet_conv (src dst : TypeId) (x : Operand) (ho : o.op = .convert src dst x) (v u : Value) (hx : a.eval x = v) (h : ∀ w, C w → (convert src dst v).run P w = .ok u w) (hk : K (a.put o.dst u)) : o.quiet P a C K :=
  quiet_run _ (fun w hw => by
    unfold execOp
    simp only [ho, hx, Sem.run_bind, h w hw, Result.andThen_ok, Sem.run_pure]) hk
theorem quiet_eqSame (t t' : TypeId) (x y : Operand) (ho : o.op = .binOp .eql t x y t') (e : TypeId) (n : Nat) (ht : P.underlying t = some (.array n e)) (he : P.underlying e = some (.int .u8)) (hi : (P.info? e).map (·.size) = some 1) (hg : P.eqGuardType P.depth t = false)
    (xs : List UInt8) (hx : a.eval x = .agg (bv xs).toArray) (hy : a.eval y = .agg (bv xs).toArray) (hxl : xs.length = n) (hk : K (a.put o.dst (.bool true))) : o.quiet P a C K :=
  quiet_run _ (fun w _ => by
    unfold execOp
    simp only [ho, hx, hy, Sem.run_bind, run_eqGuard w .eql t x y _ _ (.inl rfl) hg, run_eqD w t e n ht he hi xs xs hxl hxl, Result.andThen_ok, Sem.run_pure]
    simp) hk
end
theorem wp_region_since {P : Program} {Q : Exit → Act → World → Prop} {id : Nat} {l : List Oper} {a : Act} {w : World} (hm : P.follows .mixedOrders = true) (hB : Region.lexB .any l.toArray = true)
    (h : wpQuiet P l.toArray (Since w) (fun a' => ∀ w', Since w w' → Q .normal a' w') l a) : (Code.region id l.toArray true).wp P Q a w :=
  wp_region_quiet (C := Since w) hm hB (Ext.refl w).drew (by simpa using h)
end
section
open Go.RowKit

theorem seg_fold : ∀ (cs : List Value) (off k : Nat) (xs : List Value), off + k + cs.length ≤ xs.length →
    (cs.zipIdx k).foldl (fun (a : Array Value) (p : Value × Nat) => a.setIfInBounds (off + p.2) p.1) xs.toArray = (xs.take (off + k) ++ cs ++ xs.drop (off + k + cs.length)).toArray
  | [], off, k, xs, _ => by simp
  | c :: cs, off, k, xs, h => by
    simp only [List.length_cons] at h
    rw [List.zipIdx_cons, List.foldl_cons, List.setIfInBounds_toArray, seg_fold cs off (k + 1) _ (by simp; omega)]
    congr 1
    rw [List.length_cons, show off + (k + 1) + cs.length = off + k + (cs.length + 1) by omega, List.drop_set_of_lt (by omega), show off + (k + 1) = off + k + 1 by omega,
      List.take_add_one, List.take_set_of_le (by omega), List.getElem?_set_self (by omega)]
    simp
/-- What a build yields, over lists. -/
def fillL (place : Nat → Option (Nat × Nat)) (cells : List Value) : List (Nat × List Value) → Option (List Value)
  | [] => some cells
  | (i, v) :: rest =>
    match place i with
    | none => none
    | some (off, size) => if v.length ≠ size ∨ off + v.length > cells.length then none else fillL place (cells.take off ++ v ++ cells.drop (off + v.length)) rest
theorem fill_segs (place : Nat → Option (Nat × Nat)) : ∀ (parts : List (Nat × Value)) (segs : List (Nat × List Value)) (cells : List Value) (r : List Value), parts.map (fun p => (p.1, p.2.cells)) = segs.map (fun p => (p.1, p.2.toArray)) →
    fillL place cells segs = some r → Instr.fill place cells.toArray parts = some r.toArray
  | [], [], cells, r, _, h => by simp [fillL] at h; subst h; rfl
  | [], _ :: _, _, _, h, _ => by simp at h
  | _ :: _, [], _, _, h, _ => by simp at h
  | (i, v) :: parts, (i', u) :: segs, cells, r, h, hf => by
    simp only [List.map_cons, List.cons.injEq, Prod.mk.injEq] at h
    obtain ⟨⟨rfl, hv⟩, h⟩ := h
    unfold fillL at hf
    unfold Instr.fill
    cases hp : place i with
    | none => rw [hp] at hf; cases hf
    | some p =>
      obtain ⟨off, size⟩ := p
      rw [hp] at hf
      simp only at hf ⊢
      split at hf
      · cases hf
      · rename_i hc
        have h1 : u.length = size := by omega
        have h2 : off + u.length ≤ cells.length := by omega
        rw [hv, if_neg (by simp [h1]; omega)]
        have := seg_fold u off 0 cells (by omega)
        simp only [Nat.add_zero] at this
        have hz : u.toArray.zipIdx.foldl (fun (a : Array Value) (p : Value × Nat) => a.setIfInBounds (off + p.2) p.1) cells.toArray = (cells.take off ++ u ++ cells.drop (off + u.length)).toArray := by
          rw [← this]; simp
        have hz2 : (u.toArray.zipIdx.foldl (fun cs (c, j) => cs.setIfInBounds (off + j) c) cells.toArray) = (cells.take off ++ u ++ cells.drop (off + u.length)).toArray := hz
        rw [hz2]
        exact fill_segs place parts segs _ r h hf
theorem run_build_st {P : Program} (w : World) (t : TypeId) (parts : Array (Nat × Value)) (fields : Array Field) (z r : List Value) (places : List (Nat × Nat)) (segs : List (Nat × List Value)) (hu : P.underlying t = some (.struct fields))
    (hz : (P.info? t).bind (fun i => i.zero.map (·.cells)) = some z.toArray) (hp : fields.toList.mapM (fun f => (P.info? f.type).map fun i => (f.offset, i.size)) = some places)
    (hs : parts.toList.map (fun p => (p.1, p.2.cells)) = segs.map (fun p => (p.1, p.2.toArray))) (hf : fillL (places.toArray[·]?) z segs = some r) : (Instr.build t parts).run P w = .ok (.agg r.toArray) w := by
  obtain ⟨i, hi, hzz⟩ := Option.bind_eq_some_iff.1 hz
  obtain ⟨zv, hzv, hzc⟩ := Option.map_eq_some_iff.1 hzz
  refine run_build w t parts _ ?_
  unfold Program.built
  simp only [hi, hu, hzv, hp, hzc]
  exact fill_segs _ _ _ _ _ hs hf
theorem exec_build_st {P : Program} {o : Oper} {a : Act} (w : World) (t : TypeId) (parts : Array (Nat × Operand)) (ho : o.op = .build t parts) (fields : Array Field) (z r : List Value) (places : List (Nat × Nat)) (segs : List (Nat × List Value)) (hu : P.underlying t = some (.struct fields))
    (hz : (P.info? t).bind (fun i => i.zero.map (·.cells)) = some z.toArray) (hp : fields.toList.mapM (fun f => (P.info? f.type).map fun i => (f.offset, i.size)) = some places)
    (hs : (parts.map fun p => (p.1, a.eval p.2)).toList.map (fun p => (p.1, p.2.cells)) = segs.map (fun p => (p.1, p.2.toArray))) (hf : fillL (places.toArray[·]?) z segs = some r) : (execOp a.eval o).run P w = .ok (.value (.agg r.toArray)) w := by
  unfold execOp
  simp only [ho]
  rw [Sem.run_bind, run_build_st w t _ fields z r places segs hu hz hp hs hf]
  simp
/-- A struct built from parts, some of them lists of cells. -/
theorem wpList_build_st {P : Program} {w : World} {ops : Array Oper} {rest : List Oper} {o : Oper} {a : Act} {Q : Exit → Act → World → Prop} (hgd : o.guard = none ∨ Region.wanted o (yielded ops a.tmps) = true) (t : TypeId) (parts : Array (Nat × Operand)) (ho : o.op = .build t parts) (fields : Array Field) (z r : List Value) (places : List (Nat × Nat)) (segs : List (Nat × List Value)) (hu : P.underlying t = some (.struct fields))
    (hz : (P.info? t).bind (fun i => i.zero.map (·.cells)) = some z.toArray) (hp : fields.toList.mapM (fun f => (P.info? f.type).map fun i => (f.offset, i.size)) = some places)
    (hs : (parts.map fun p => (p.1, a.eval p.2)).toList.map (fun p => (p.1, p.2.cells)) = segs.map (fun p => (p.1, p.2.toArray))) (hf : fillL (places.toArray[·]?) z segs = some r)
    (h : wpList P ops Q rest (a.put o.dst (.agg r.toArray)) w) : wpList P ops Q (o :: rest) a w :=
  wpList_build hgd t parts ho _ (exec_build_st w t parts ho fields z r places segs hu hz hp hs hf) h
theorem quiet_build_st {P : Program} {C : World → Prop} {o : Oper} {a : Act} {K : Act → Prop} (t : TypeId) (parts : Array (Nat × Operand)) (ho : o.op = .build t parts) (fields : Array Field) (z r : List Value) (places : List (Nat × Nat)) (segs : List (Nat × List Value)) (hu : P.underlying t = some (.struct fields))
    (hz : (P.info? t).bind (fun i => i.zero.map (·.cells)) = some z.toArray) (hp : fields.toList.mapM (fun f => (P.info? f.type).map fun i => (f.offset, i.size)) = some places)
    (hs : (parts.map fun p => (p.1, a.eval p.2)).toList.map (fun p => (p.1, p.2.cells)) = segs.map (fun p => (p.1, p.2.toArray))) (hf : fillL (places.toArray[·]?) z segs = some r)
    (h : K (a.put o.dst (.agg r.toArray))) : o.quiet P a C K :=
  quiet_run _ (fun w _ => exec_build_st w t parts ho fields z r places segs hu hz hp hs hf) h
end
section
open Go.RowKit

theorem blk_new_at {w : World} {g : Nat} (h : w.heap.size = g) (t : TypeId) (cs : List Value) : Blk (w.alloc (.cells cs.toArray t)) g t cs := h ▸ Blk.new w t cs
theorem piece_zero : (Try.prog.info? 33).bind (fun i => i.zero.map (·.cells)) = some (bv (List.replicate 16 0)).toArray := by kernel_rfl
theorem piece_size {n : Nat} (h : n = 16) : (Try.prog.info? 33).map (·.size) = some n := by subst h; kernel_rfl
theorem at_any {P : Program} (arr e : TypeId) (n : Nat) (a : Option Addr) (len cap : Nat) (h : P.underlying arr = some (.array n e)) (hn : n ≤ len) : ∀ w, (Instr.arrayAt arr (.slice a len cap)).run P w = .ok (.pointer a) w :=
  fun w => run_arrayAt w arr e n a len cap h hn
set_option maxRecDepth 100000 in
set_option maxHeartbeats 800000 in
theorem Cover (p : List UInt8) (hp : p.length = 16) (w : World) :
    Calls Try.prog 64 #[.agg (bv p).toArray] w fun e w' => e = .returned (.agg (bv (coverM p)).toArray) ∧ Ext w w' := by
  have hz := piece_zero
  have hzd := digest_zero
  have hzl : (bv (List.replicate 16 0)).length = 16 := by simp
  have hdl : (bv (List.replicate 32 0)).length = 32 := by simp
  have hbl := bytes_new (w := w) (bs := p) (T := 33) (fr := (0, 0)) rfl hp (by simp [maxLen])
  generalize bv (List.replicate 16 0) = Z at hz hzl
  generalize bv (List.replicate 32 0) = D at hzd hdl
  have HZL := Lib.hid hzl
  have HDL := Lib.hid hdl
  have HBL := Lib.hid hbl
  clear hzl hbl hdl
  generalize hB : bv p = B at HBL ⊢
  have HB := Lib.hid hB
  clear hB
  go_enter Try.func64, Try.ntmps64
  go_wp2_with (first
    | (refine wpList_alloc _ rfl 33 rfl _ hz ?_)
    | fail)
  have hv : (Ty.sl (.sl .u8)).holds (((w.alloc (.cells B.toArray 33)).alloc (.cells Z.toArray 33)).alloc (.cells #[Value.slice (some ⟨w.heap.size, 0, none⟩) 16 16] 62)) (fun b => b = w.heap.size ∨ b = w.heap.size + 1 + 1) [.slice (some ⟨w.heap.size + 1 + 1, 0, none⟩) 1 1] [p] :=
    parts_new (w := (w.alloc (.cells B.toArray 33)).alloc (.cells Z.toArray 33)) (by simp) rfl (by simp [maxLen]) (AllH.one (R := (Ty.sl .u8).holds _ _) (Ty.keep (t := .sl .u8) (by rintro b rfl; exact Below.heap_alloc _ _ _ (by simp)) (fun _ h => h) HBL.out)) (by rintro b rfl; simp; omega)
  refine (For_i 5 5 rfl _ [p] _ _ hv (by rintro b (rfl | rfl) <;> simp <;> omega) (by simp [blob, be_length, hp])).mono ?_
  rintro e w4 ⟨rfl, hx4⟩
  have hx5 : Ext w w4 := ((((Ext.refl w).alloc _).alloc _).alloc _).trans hx4
  have hb1 : Blk w4 (w.heap.size + 1) 33 Z := (blk_new_at (w := w.alloc (.cells B.toArray 33)) (by simp) 33 Z).keep (((Ext.refl _).alloc _).trans hx4) (by simp)
  have hsl : (bv (sha (textM 5 [p]))).length = 32 := by rw [bv_length, sha_length]
  have hso := bv_one (sha (textM 5 [p]))
  have hcl : (bv (coverM p)).length = 16 := by rw [bv_length, coverM_length]
  have hco := bv_one (coverM p)
  have htk : (bv (sha (textM 5 [p]))).take 16 = bv (coverM p) := by simp [coverM, bv, List.map_take]
  generalize hR : bv (sha (textM 5 [p])) = R at hsl hso htk ⊢
  generalize hC : bv (coverM p) = C at hcl hco htk ⊢
  have hr5 : Blk (w4.alloc (.cells R.toArray 55)) w4.heap.size 55 R := Blk.new _ _ _
  have hc5 : Cells (w4.alloc (.cells R.toArray 55)) ⟨w4.heap.size, 0, none⟩ C := by rw [← htk]; exact hr5.cells.take 16
  have hb5 : Blk (w4.alloc (.cells R.toArray 55)) (w.heap.size + 1) 33 Z := hb1.keep ((Ext.refl w4).alloc _) (by simp)
  have hat := at_any (P := Try.prog) 33 5 16 (some ⟨w4.heap.size, 0, none⟩) 16 32 Try.underlying33 (Nat.le_refl 16)
  have HSL := Lib.hid hsl
  have HCL := Lib.hid hcl
  have HC := Lib.hid hC
  have HX5 := Lib.hid (hx5.alloc (.cells R.toArray 55))
  have HB5 := Lib.hid hb5
  clear hsl hv hx5 hb1 hcl hR hC htk hr5 hb5
  go_wp2_with (first
    | (refine wpList_alloc _ rfl 55 rfl _ hzd ?_)
    | (refine wpList_store_new _ rfl 55 (.tmp 3) (.tmp 6) rfl rfl D R _ rfl (digest_size HSL.out) (by rw [HSL.out, HDL.out]) hso ?_)
    | (refine wpList_load_agg _ rfl 33 (.tmp 8) rfl _ rfl C _ Try.underlying33 rfl (piece_size HCL.out) hc5 ?_)
    | (refine wpList_store_row _ rfl 33 (.tmp 2) (.tmp 9) rfl (w.heap.size + 1) rfl Z C _ rfl HB5.out (piece_size HCL.out) (by rw [HCL.out, HZL.out]) hco ?_)
    | fail)
  have hc : Cells ((w4.alloc (.cells R.toArray 55)).setRow (w.heap.size + 1) C.toArray) ⟨w.heap.size + 1, 0, none⟩ C := Blk.cells (t := 33) (setRow_at HB5.out)
  (try simp only [Exit.inBlock, Exit.then])
  refine bodyPost_ret (results_agg rfl _ _ _ _ _ rfl Try.underlying33 rfl (piece_size HCL.out) hc) rfl ?_
  exact ⟨by rw [HC.out], setRow_grown HX5.out _ _ (by omega)⟩
/-- A key's cells. -/
def keyC (seed : List UInt8) (n : Nat) : List Value := bv seed ++ [.int .u32 (n : Int)]
theorem keyC_len {seed : List UInt8} (h : seed.length = 32) (n : Nat) : (keyC seed n).length = 33 := by simp [keyC, h]
theorem keyC_one (seed : List UInt8) (n : Nat) : ∀ u ∈ keyC seed n, u.oneCell' = true := by
  intro u hu
  rcases List.mem_append.1 hu with h | h
  · exact bv_one seed u h
  · obtain rfl : u = .int .u32 (n : Int) := by simpa using h
    rfl
theorem key_size {n : Nat} (h : n = 33) : (Try.prog.info? 96).map (·.size) = some n := by subst h; kernel_rfl
theorem key_zero : (Try.prog.info? 96).bind (fun i => i.zero.map (·.cells)) = some (keyC (List.replicate 32 0) 0).toArray := by kernel_rfl
theorem bits_one : ∀ n : Fin 256, bits .and .u8 (n.val : Int) 1 = ((n.val % 2 : Nat) : Int) := by decide +kernel
theorem bit_one (x j : Nat) (h : x < 256) : bits .and .u8 ((x : Int) / 2 ^ j) 1 = ((x / 2 ^ j % 2 : Nat) : Int) := by
  have e : (x : Int) / 2 ^ j = ((x / 2 ^ j : Nat) : Int) := by rw [Int.natCast_ediv, Int.natCast_pow]; rfl
  rw [e]
  exact bits_one ⟨x / 2 ^ j, Nat.lt_of_le_of_lt (Nat.div_le_self _ _) h⟩
set_option maxHeartbeats 400000 in
theorem Bit (d : List UInt8) (hd : d.length = 32) (k : Nat) (hk : k < 32) (w : World) :
    Calls Try.prog 63 #[.agg (bv d).toArray, .int .i64 (k : Int)] w fun e w' => e = .returned (.int .u8 ((bitM d k : Nat) : Int)) ∧ Ext w w' := by
  have hb0 : Blk (w.alloc (.cells (bv d).toArray 55)) w.heap.size 55 (bv d) := Blk.new _ _ _
  have hx0 : Ext w (w.alloc (.cells (bv d).toArray 55)) := (Ext.refl w).alloc _
  have hq : k / 8 < d.length := by omega
  have hc : (w.alloc (.cells (bv d).toArray 55)).cell? ⟨w.heap.size, k / 8, none⟩ = some (.int .u8 ((d.getD (k / 8) 0).toNat : Int)) := (hb0.cell (k / 8)).trans (by simp [bv, List.getD, hq])
  have hbm : bitM d k = (d.getD (k / 8) 0).toNat / 2 ^ (7 - k % 8) % 2 := rfl
  generalize bitM d k = R at *
  have hX : (d.getD (k / 8) 0).toNat < 256 := UInt8.toNat_lt _
  generalize (d.getD (k / 8) 0).toNat = X at *
  have HXL := Lib.hid hX
  generalize bv d = B at *
  have HX := Lib.hid hx0
  have HR := Lib.hid hbm
  clear hb0 hx0 hq hbm hX
  go_enter Try.func63, Try.ntmps63
  go_wp2_with fail
  go_ret
  refine ⟨?_, HX.out⟩
  rw [HR.out]
  simp only [List.getD_eq_getElem?_getD, Array.getD_eq_getD_getElem?, List.size_toArray]
  have := bit_one X (7 - k % 8) HXL.out
  simpa using this
set_option maxRecDepth 100000 in
set_option maxHeartbeats 400000 in
theorem NewKey (seed : List UInt8) (hs : seed.length = 32) (n : Nat) (w : World) :
    Calls Try.prog 41 #[.agg (bv seed).toArray, .int .u32 (n : Int)] w fun e w' => e = .returned (.agg (keyC seed n).toArray) ∧ Ext w w' := by
  have hz := key_zero
  have hzl := keyC_len (seed := List.replicate 32 0) (by simp) 0
  have hkl := keyC_len hs n
  have hko := keyC_one seed n
  have hsl : (bv seed).length = 32 := by simp [hs]
  have hb0 : Blk (w.alloc (.cells (bv seed).toArray 31)) w.heap.size 31 (bv seed) := Blk.new _ _ _
  generalize keyC (List.replicate 32 0) 0 = Z at hz hzl
  have hcs : Cells ((w.alloc (.cells (bv seed).toArray 31)).alloc (.cells Z.toArray 96)) ⟨w.heap.size, 0, none⟩ (bv seed) := (hb0.keep ((Ext.refl _).alloc _) (by simp)).cells
  have hb1 : Blk ((w.alloc (.cells (bv seed).toArray 31)).alloc (.cells Z.toArray 96)) (w.heap.size + 1) 96 Z := blk_new_at (by simp) _ _
  have hx : Ext w ((w.alloc (.cells (bv seed).toArray 31)).alloc (.cells Z.toArray 96)) := ((Ext.refl w).alloc _).alloc _
  obtain ⟨fields, hfu, hfp⟩ : ∃ fields, Try.prog.underlying 96 = some (.struct fields) ∧ fields.toList.mapM (fun f => (Try.prog.info? f.type).map fun i => (f.offset, i.size)) = some [(0, 32), (32, 1)] := ⟨_, Try.underlying96, by kernel_rfl⟩
  have hfl : fillL ([(0, 32), (32, 1)].toArray[·]?) Z [(0, bv seed), (1, [.int .u32 (n : Int)])] = some (keyC seed n) := by
    simp [fillL, keyC, hs, hzl]
  generalize hK : keyC seed n = K at *
  generalize hB : bv seed = B at *
  have HKL := Lib.hid hkl
  have HSL := Lib.hid hsl
  have HZL := Lib.hid hzl
  have HB1 := Lib.hid hb1
  have HX := Lib.hid hx
  have HK := Lib.hid hK
  have HFL := Lib.hid hfl
  clear hkl hsl hzl hb0 hb1 hx hK hfl
  go_enter Try.func41, Try.ntmps41
  go_wp2_with (first
    | (refine wpList_alloc _ rfl 96 rfl _ hz ?_)
    | (refine wpList_load_agg _ rfl 31 (.tmp 2) rfl _ rfl B _ Try.underlying31 rfl (by rw [HSL.out]; kernel_rfl) hcs ?_)
    | (refine wpList_build_st (.inl rfl) 96 #[(0, .tmp 5), (1, .tmp 6)] rfl fields Z K _ _ hfu hz hfp (by simp [Value.cells, Act.eval]) HFL.out ?_)
    | (refine wpList_store_row _ rfl 96 (.tmp 4) (.tmp 7) rfl (w.heap.size + 1) rfl Z K _ rfl HB1.out (key_size HKL.out) (by rw [HKL.out, HZL.out]) hko ?_)
    | fail)
  have hc : Cells (((w.alloc (.cells B.toArray 31)).alloc (.cells Z.toArray 96)).setRow (w.heap.size + 1) K.toArray) ⟨w.heap.size + 1, 0, none⟩ K := Blk.cells (t := 96) (setRow_at HB1.out)
  (try simp only [Exit.inBlock, Exit.then])
  refine bodyPost_ret (results_agg rfl _ _ _ _ _ rfl Try.underlying96 rfl (key_size HKL.out) hc) rfl ?_
  exact ⟨rfl, setRow_grown HX.out _ _ (by omega)⟩
end
section
open Go.RowKit
set_option maxRecDepth 100000 in
set_option maxHeartbeats 400000 in
theorem Out_num (v : Value) (bs : List UInt8) (n size : Nat) (w : World) (ho : OwnB w v bs) (_hn : n < 18446744073709551616) (hs : size ≤ 8) (hb : bs.length + size ≤ 140737488355328) :
    Calls Try.prog 78 #[v, .int .u64 n, .int .i64 size] w fun e w' => ∃ v', e = .returned v' ∧ OwnB w' v' (bs ++ be size n) ∧ Moved w w' v v' := by
  obtain ⟨i0, hi, hz0, hz1, hz2⟩ := info_parts u8_info
  go_enter Try.func78, Try.ntmps78
  go_wp2
  go_loopw [0, 7] (fun vr i wr => ∃ j : Nat, j ≤ size ∧ i = .int .i64 ((j : Int) - 1) ∧ OwnB wr vr (bs ++ beTop size j n) ∧ Moved w wr v vr) (fun _ i _ => (intOf i + 1).toNat)
  case atStart => exact ⟨size, by omega, rfl, by simpa [beTop] using ho, Moved.refl _ _⟩
  case round =>
    obtain ⟨j, hj, rfl, hor, hmr⟩ := hrel
    have hl := beTop_length size j n
    have hll : (bs ++ beTop size j n).length + j ≤ bs.length + size := by simp; omega
    by_cases hlt : 0 < j
    · go_wp2_with (at_builtin; refine wpList_app1 wr rfl (.tmp 14) (.tmp 20) _ _ rfl _ _ 5 i0 _ 1 1 Try.underlying80 Try.underlying80 hi hz0 hz1 hz2 rfl (by decide) _ _ _ [.int .u8 ((n : Int) / 2 ^ (8 * (j - 1)) % 256)] rfl hor rfl rfl (by simp [Value.oneCell']) (by unfold maxLen; omega) (by omega) ?_; intro v' w1 ho1 hm1)
      go_roundw
      case rel =>
        refine ⟨j - 1, by omega, by rw [show ((j - 1 : Nat) : Int) = (j : Int) - 1 by omega], ?_, hmr.trans hm1⟩
        rw [beTop_step size j n hlt hj, ← List.append_assoc]
        exact OwnB.snoc ho1 (be_byte n j)
      case measure => simp [intOf]; omega
    · obtain rfl : j = 0 := by omega
      go_wp2
      go_ret
      exact ⟨_, rfl, by simpa [beTop, List.take_of_length_le, be_length] using hor, hmr⟩
set_option maxRecDepth 100000 in
set_option maxHeartbeats 400000 in
theorem Out_Four (v vl : Value) (bs : List UInt8) (l : List Nat) (w : World) (F : Fp) (ho : OwnB w v bs) (hl : (Ty.sl (.nat .u32)).holds w F [vl] l) (hF : Far F w v) (hb : bs.length + 4 * l.length ≤ 140737488355328) :
    Calls Try.prog 57 #[v, vl] w fun e w' => ∃ v', e = .returned v' ∧ OwnB w' v' (bs ++ l.flatMap (be 4)) ∧ Moved w w' v v' := by
  obtain ⟨A, c, xs, hv, hlc, hc, _, hcell, hall⟩ := hl
  cases hv
  unfold maxLen at hc
  go_enter Try.func57, Try.ntmps57
  go_wp2
  go_loopw [0, 9] (fun vr i wr => ∃ k : Nat, k ≤ l.length ∧ i = .int .i64 k ∧ OwnB wr vr (bs ++ (l.take k).flatMap (be 4)) ∧ Moved w wr v vr) (fun _ i _ => l.length - (intOf i).toNat)
  case atStart => exact ⟨0, by omega, rfl, by simpa using ho, Moved.refl _ _⟩
  case round =>
    obtain ⟨k, hk, rfl, hor, hmr⟩ := hrel
    have hll : (bs ++ (l.take k).flatMap (be 4)).length = bs.length + 4 * k := by rw [List.length_append, be_flat]; simp; omega
    by_cases hlt : k < l.length
    · obtain ⟨ad, rfl, hf, hcells⟩ := hcell (by rintro rfl; simp at hlt)
      obtain ⟨hx, hwf⟩ := AllH.nat_at hall hlt
      have hcx := (hcells.keep (hmr.same hF _ hf)) k _ hx
      have hbd := bounds_u32 hwf
      clear hwf hx
      go_wp2_with fail
      refine (Out_num _ _ _ 4 _ hor (by omega) (by omega) (by omega)).mono ?_
      rintro e w1 ⟨v1, rfl, ho1, hm1⟩
      go_wp2
      go_roundw
      case rel => exact ⟨k + 1, by omega, by go_num, by rw [flat_step _ _ _ hlt, ← List.append_assoc]; exact ho1, hmr.trans hm1⟩
      case measure => simp [intOf]; omega
    · obtain rfl : k = l.length := by omega
      go_wp2
      go_ret
      exact ⟨_, rfl, by simpa using hor, hmr⟩
set_option maxRecDepth 100000 in
set_option maxHeartbeats 400000 in
theorem Out_One (v vl : Value) (bs : List UInt8) (l : List UInt8) (w : World) (F : Fp) (ho : OwnB w v bs) (hl : (Ty.sl .u8).holds w F [vl] l) (hb : bs.length + l.length ≤ 140737488355328) :
    Calls Try.prog 58 #[v, vl] w fun e w' => ∃ v', e = .returned v' ∧ OwnB w' v' (bs ++ l) ∧ Moved w w' v v' := by
  obtain ⟨i0, hi, hz0, hz1, hz2⟩ := info_parts u8_info
  obtain ⟨A, c, xs, hv, hlc, hc, hA, hcell, hall⟩ := hl
  cases hv
  have hsrc := src_bytes (w := w) (F := F) (A := A) (c := c) (l := l) ⟨A, c, xs, rfl, hlc, hc, hA, hcell, hall⟩
  go_enter Try.func58, Try.ntmps58
  go_wp2_with (at_builtin; refine wpList_app w rfl (.tmp 5) (.tmp 6) _ _ rfl _ _ i0 _ 1 1 Try.underlying80 Try.underlying62 hi hz0 hz1 hz2 rfl (by decide) _ _ _ rfl ho _ _ _ (bv l) rfl (by simp) hsrc (bv_one _) (by unfold maxLen; omega) (by omega) ?_; intro v' w1 ho1 hm1)
  go_ret
  exact ⟨_, rfl, OwnB.app ho1, hm1⟩
theorem zero32 : (Try.prog.info? 55).bind (fun i => i.zero.map (·.cells)) = some (bv (List.replicate 32 0)).toArray := by kernel_rfl
set_option maxRecDepth 100000 in
set_option maxHeartbeats 400000 in
theorem Out_Sum (v vl : Value) (bs : List UInt8) (l : List (List UInt8)) (w : World) (F : Fp) (ho : OwnB w v bs) (hl : (Ty.sl (.arr 32 .u8)).holds w F [vl] l) (hF : Far F w v) (hb : bs.length + 32 * l.length ≤ 140737488355328) :
    Calls Try.prog 59 #[v, vl] w fun e w' => ∃ v', e = .returned v' ∧ OwnB w' v' (bs ++ l.flatMap id) ∧ Moved w w' v v' := by
  obtain ⟨i0, hi, hz0, hz1, hz2⟩ := info_parts u8_info
  obtain ⟨A, c, xs, hv, hlc, hc, _, hcell, hall⟩ := hl
  cases hv
  unfold maxLen at hc
  go_enter Try.func59, Try.ntmps59
  go_wp2
  go_loopw [0, 9] (fun vr i wr => ∃ k : Nat, k ≤ l.length ∧ i = .int .i64 k ∧ OwnB wr vr (bs ++ (l.take k).flatMap id) ∧ (bs ++ (l.take k).flatMap id).length = bs.length + 32 * k ∧ Moved w wr v vr) (fun _ i _ => l.length - (intOf i).toNat)
  case atStart => exact ⟨0, by omega, rfl, by simpa using ho, by simp, Moved.refl _ _⟩
  case round =>
    obtain ⟨k, hk, rfl, hor, hll, hmr⟩ := hrel
    by_cases hlt : k < l.length
    · obtain ⟨ad, rfl, hf, hcells⟩ := hcell (by rintro rfl; simp at hlt)
      obtain ⟨h32, hx⟩ := AllH.elem hall hlt
      have hx := AllH.bytes.1 hx
      have hcx : Cells wr (ad.add (k * 32)) (bv l[k]) := by rw [← hx]; exact ((hcells.keep (hmr.same hF _ hf)).drop _).take _
      have HL := Lib.hid hll
      have H32 := Lib.hid h32
      clear hx hcells hll h32
      go_wp2_with (first
        | (refine wpList_load_agg _ rfl 55 (.tmp 11) rfl _ rfl (bv l[k]) _ Try.underlying55 rfl (by rw [bv_length, H32.out]; kernel_rfl) hcx ?_)
        | (refine wpList_alloc _ rfl 55 rfl _ zero32 ?_)
        | (refine wpList_store_new _ rfl 55 (.tmp 6) (.tmp 12) rfl rfl _ (bv l[k]) _ rfl (by rw [bv_length, H32.out]; kernel_rfl) (by simp [H32.out]) (bv_one _) ?_)
        | (at_builtin; refine wpList_app _ rfl (.tmp 13) (.tmp 14) _ _ rfl _ _ i0 _ 1 1 Try.underlying80 Try.underlying62 hi hz0 hz1 hz2 rfl (by decide) _ _ _ rfl (hor.ext ((Ext.refl _).alloc _)) _ _ _ (bv l[k]) rfl (by simp [H32.out]) (src_new _ _ _ _) (bv_one _) (by unfold maxLen; rw [HL.out]; omega) (by rw [HL.out]; omega) ?_; intro v1 w1 ho1 hm1))
      have hm2 := hmr.trans (Moved.pre ((Ext.refl _).alloc _) hm1)
      go_roundw
      case rel => exact ⟨k + 1, by omega, by go_num, by rw [flat_step _ _ _ hlt, ← List.append_assoc]; exact OwnB.app (by rw [show (id l[k]).length = 32 from H32.out]; exact ho1), by rw [flat_step _ _ _ hlt, ← List.append_assoc, List.length_append, HL.out]; simp only [id]; rw [H32.out]; omega, hm2⟩
      case measure => simp [intOf]; omega
    · obtain rfl : k = l.length := by omega
      clear hll
      go_wp2
      go_ret
      exact ⟨_, rfl, by simpa using hor, hmr⟩
end
section
open Go.RowKit

section
variable {P : Program}
/-- .. appended to an empty slice: a new array. -/
theorem wpList_app1_empty {w : World} {ops : Array Oper} {rest : List Oper} {o : Oper} {a : Act} {Q : Exit → Act → World → Prop} (hgd : o.guard = none) (s x : Operand) (t t' : TypeId)
    (ho : o.op = .call { callee := .builtin .append, args := #[s, x], argTypes := #[t, t'] })
    (e e' e2 : TypeId) (i : TypeInfo) (z : Value) (size bytes : Nat) (ht : P.underlying t = some (.slice e)) (ht' : P.underlying t' = some (.slice e')) (hi : P.info? e = some i) (hz : i.zero = some z)
    (hsize : i.size = size) (hby : i.bytes = bytes) (hzs : z.cells.size = size) (hsz : 0 < size)
    (b : Addr) (cs : List Value) (hs : a.eval s = .slice (some b) 0 0) (hown : Own w e size (.slice (some b) 0 0) 0 [])
    (hx : a.eval x = .slice (some ⟨w.heap.size, 0, none⟩) 1 1) (hcs : cs.length = size) (h1 : ∀ u ∈ cs, u.oneCell' = true) (hbytes : bytes ≤ 1024)
    (h : ∀ v' w', Own w' e size v' 1 cs → Ext w w' → (∀ g, v'.ownBlock = some g → w.heap.size ≤ g) → wpList P ops Q rest (a.put o.dst v') w') : wpList P ops Q (o :: rest) a (w.alloc (.cells cs.toArray e2)) := by
  have hx0 : Ext w (w.alloc (.cells cs.toArray e2)) := (Ext.refl w).alloc _
  have hown' := hown.ext hx0
  have hc : Cells (w.alloc (.cells cs.toArray e2)) ⟨w.heap.size, 0, none⟩ cs := by have := Cells.of_block (heap_alloc_new w (.cells cs.toArray e2)); simpa using this
  have hbb : bytes * 1 ≤ 1024 := by omega
  obtain ⟨v', w', hr, h2, h3⟩ := run_app (P := P) (w.alloc (.cells cs.toArray e2)) t t' o.type e e' i z size bytes ht ht' hi hz hsize hby hzs hsz _ 0 [] hown' (some ⟨w.heap.size, 0, none⟩) 1 1 cs (by omega) (fun _ => ⟨_, rfl, hc⟩) h1 (by decide) (by omega)
  have hg := run_append_grow (P := P) (w := w.alloc (.cells cs.toArray e2)) t o.type e i z ht hi hz b 0 0 [] (by simp) (by intro j v hj; simp at hj) ⟨w.heap.size, 0, none⟩ 1 1 cs (by rw [hsize]; omega) (fun j v hj => hc j v hj) (by omega) (by omega)
    (by rw [hby, show Builtin.nextslicecap (0 + 1) 0 = 1 from by decide]; omega)
  rw [← append_types (w.alloc (.cells cs.toArray e2)) ht ht'] at hg
  rw [hr] at hg
  have hq := hg
  simp only [Result.ok.injEq] at hq
  obtain ⟨hv, hw⟩ := hq
  refine wpList_plain hgd fun K hK => ?_
  unfold Oper.wp execOp
  simp only [ho, resolve, invoke, builtin, Sem.run_bind, Sem.run_pure, Result.andThen_ok, List.map_toArray, List.map_cons, List.map_nil, hs, hx, hr]
  refine hK _ _ (h v' w' (by simpa using h2) ?_ ?_)
  · rw [hw]; exact (hx0.trans (Ext.refl _).drew).alloc _
  · intro g hgb
    rw [hv] at hgb
    simp [Value.ownBlock] at hgb
    omega
end
set_option maxRecDepth 100000 in
set_option maxHeartbeats 400000 in
theorem num0 (b : Addr) (n size : Nat) (w : World) (ho : OwnB w (.slice (some b) 0 0) []) (_hn : n < 18446744073709551616) (hs : size ≤ 8) (hs0 : 0 < size) :
    Calls Try.prog 78 #[.slice (some b) 0 0, .int .u64 n, .int .i64 size] w fun e w' => ∃ v', e = .returned v' ∧ OwnB w' v' (be size n) ∧ Ext w w' ∧ ∀ g, v'.ownBlock = some g → w.heap.size ≤ g := by
  obtain ⟨i0, hi, hz0, hz1, hz2⟩ := info_parts u8_info
  have HO := Lib.hid ho
  clear ho
  go_enter Try.func78, Try.ntmps78
  go_wp2
  go_loopw [0, 7] (fun vr i wr => ∃ j : Nat, j ≤ size ∧ i = .int .i64 ((j : Int) - 1) ∧ Ext w wr ∧ ((j = size ∧ vr = .slice (some b) 0 0) ∨ (j < size ∧ OwnB wr vr (beTop size j n) ∧ ∀ g, vr.ownBlock = some g → w.heap.size ≤ g))) (fun _ i _ => (intOf i + 1).toNat)
  case atStart => exact ⟨size, by omega, rfl, Ext.refl _, .inl ⟨rfl, rfl⟩⟩
  case round =>
    obtain ⟨j, hj, rfl, hxr, hst⟩ := hrel
    rcases hst with ⟨rfl, rfl⟩ | ⟨hjs, hor, hnr⟩
    · have hor := HO.out.ext hxr
      go_wp2_with (at_builtin; refine wpList_app1_empty rfl (.tmp 14) (.tmp 20) _ _ rfl _ _ 5 i0 _ 1 1 Try.underlying80 Try.underlying80 hi hz0 hz1 hz2 rfl (by decide) b [.int .u8 ((n : Int) / 2 ^ (8 * (j - 1)) % 256)] rfl hor rfl rfl (by simp [Value.oneCell']) (by decide) ?_; intro v' w1 ho1 hx1 hn1)
      go_roundw
      case rel =>
        refine ⟨j - 1, by omega, by rw [show ((j - 1 : Nat) : Int) = (j : Int) - 1 by omega], hxr.trans hx1, .inr ⟨by omega, ?_, fun g hg => Nat.le_trans hxr.size (hn1 g hg)⟩⟩
        rw [beTop_step j j n hs0 (Nat.le_refl j)]
        have e : beTop j j n = [] := by simp [beTop]
        rw [e]
        exact OwnB.snoc ho1 (be_byte n j)
      case measure => simp [intOf]; omega
    · have hl := beTop_length size j n
      by_cases hlt : 0 < j
      · go_wp2_with (at_builtin; refine wpList_app1 wr rfl (.tmp 14) (.tmp 20) _ _ rfl _ _ 5 i0 _ 1 1 Try.underlying80 Try.underlying80 hi hz0 hz1 hz2 rfl (by decide) _ _ _ [.int .u8 ((n : Int) / 2 ^ (8 * (j - 1)) % 256)] rfl hor rfl rfl (by simp [Value.oneCell']) (by unfold maxLen; omega) (by omega) ?_; intro v' w1 ho1 hm1)
        go_roundw
        case rel =>
          refine ⟨j - 1, by omega, by rw [show ((j - 1 : Nat) : Int) = (j : Int) - 1 by omega], grown_then hxr hm1.grown (.inr hnr), .inr ⟨by omega, ?_, fun g hg => ?_⟩⟩
          · rw [beTop_step size j n hlt hj]
            exact OwnB.snoc ho1 (be_byte n j)
          · rcases hm1.at_ with e | hn
            · exact hnr g (e.symm.trans hg)
            · exact Nat.le_trans hxr.size (hn g hg)
        case measure => simp [intOf]; omega
      · obtain rfl : j = 0 := by omega
        go_wp2
        go_ret
        exact ⟨_, rfl, by simpa [beTop, List.take_of_length_le, be_length] using hor, hxr, hnr⟩
set_option maxRecDepth 100000 in
set_option maxHeartbeats 400000 in
theorem four0 (b : Addr) (vl : Value) (n : Nat) (w : World) (F : Fp) (ho : OwnB w (.slice (some b) 0 0) []) (hl : (Ty.sl (.nat .u32)).holds w F [vl] [n]) (hF : ∀ b, F b → b < w.heap.size) :
    Calls Try.prog 57 #[.slice (some b) 0 0, vl] w fun e w' => ∃ v', e = .returned v' ∧ OwnB w' v' (be 4 n) ∧ Ext w w' ∧ ∀ g, v'.ownBlock = some g → w.heap.size ≤ g := by
  obtain ⟨A, c, xs, hv, hlc, hc, _, hcell, hall⟩ := hl
  cases hv
  unfold maxLen at hc
  obtain ⟨ad, rfl, hf, hcells⟩ := hcell (by simp)
  obtain ⟨hx, hwf⟩ := AllH.nat_at hall (show 0 < [n].length by simp)
  have hcx := hcells 0 _ hx
  have hbd := bounds_u32 hwf
  have hfl := hF _ hf
  have HO := Lib.hid ho
  clear hwf hx hall hcells hcell ho
  simp only [List.getElem_cons_zero] at hcx hbd
  replace hcx : w.cell? ad = some (.int .u32 (n : Int)) := hcx
  go_enter Try.func57, Try.ntmps57
  go_wp2
  go_loopw [0, 9] (fun vr i wr => Ext w wr ∧ ((i = .int .i64 0 ∧ vr = .slice (some b) 0 0) ∨ (i = .int .i64 1 ∧ OwnB wr vr (be 4 n) ∧ ∀ g, vr.ownBlock = some g → w.heap.size ≤ g))) (fun _ i _ => 1 - (intOf i).toNat)
  case atStart => exact ⟨Ext.refl _, .inl ⟨rfl, rfl⟩⟩
  case round =>
    obtain ⟨hxr, hst⟩ := hrel
    rcases hst with ⟨rfl, rfl⟩ | ⟨rfl, hor, hnr⟩
    · have hor := HO.out.ext hxr
      have hcr := World.grownBy.cell hxr hcx (by simp)
      go_wp2_with fail
      refine (num0 b n 4 _ hor (by omega) (by omega) (by omega)).mono ?_
      rintro e w1 ⟨v1, rfl, ho1, hx1, hn1⟩
      go_wp2
      go_roundw
      case rel => exact ⟨hxr.trans hx1, .inr ⟨rfl, ho1, fun g hg => Nat.le_trans hxr.size (hn1 g hg)⟩⟩
      case measure => simp [intOf]
    · go_wp2
      go_ret
      exact ⟨_, rfl, hor, hxr, hnr⟩
end
end Go.Proofs.Ytpdkmapogncgmaa

/- The walks of lamp's cover, of its bit, of New. Conditions: the parts have their sizes. -/
import Derived.Test.YtfoomnibfibfnaaLModel
import Derived.Test.YtfoomnibfibfnaaBuild
import Derived.Laws.Cover3
set_option linter.unusedVariables false
set_option linter.unusedSimpArgs false
set_option linter.unnecessarySimpa false
namespace Go.Proofs.Ytfoomnibfibfnaa
open Go.RowKit

theorem blk_new_at {w : World} {g : Nat} (h : w.heap.size = g) (t : TypeId) (cs : List Value) : Blk (w.alloc (.cells cs.toArray t)) g t cs := h ▸ Blk.new w t cs
theorem piece_zero : (Try.prog.info? 40).bind (fun i => i.zero.map (·.cells)) = some (bv (List.replicate 16 0)).toArray := by kernel_rfl
theorem piece_size {n : Nat} (h : n = 16) : (Try.prog.info? 40).map (·.size) = some n := by subst h; kernel_rfl
theorem at_any {P : Program} (arr e : TypeId) (n : Nat) (a : Option Addr) (len cap : Nat) (h : P.underlying arr = some (.array n e)) (hn : n ≤ len) : ∀ w, (Instr.arrayAt arr (.slice a len cap)).run P w = .ok (.pointer a) w :=
  fun w => run_arrayAt w arr e n a len cap h hn
set_option maxRecDepth 100000 in
set_option maxHeartbeats 800000 in
theorem Cover (p : List UInt8) (hp : p.length = 16) (w : World) :
    Calls Try.prog 30 #[.agg (bv p).toArray] w fun e w' => e = .returned (.agg (bv (coverM p)).toArray) ∧ Ext w w' := by
  have hz := piece_zero
  have hzd := digest_zero
  have hzl : (bv (List.replicate 16 0)).length = 16 := by simp
  have hdl : (bv (List.replicate 32 0)).length = 32 := by simp
  have hbl := bytes_new (w := w) (bs := p) (T := 40) (fr := (0, 0)) rfl hp (by simp [maxLen])
  generalize bv (List.replicate 16 0) = Z at hz hzl
  generalize bv (List.replicate 32 0) = D at hzd hdl
  have HZL := Lib.hid hzl
  have HDL := Lib.hid hdl
  have HBL := Lib.hid hbl
  clear hzl hbl hdl
  generalize hB : bv p = B at HBL ⊢
  have HB := Lib.hid hB
  clear hB
  go_enter Try.func30, Try.ntmps30
  go_wp2_with (first
    | (refine wpList_alloc _ rfl 40 rfl _ hz ?_)
    | fail)
  have hv : (Ty.sl (.sl .u8)).holds (((w.alloc (.cells B.toArray 40)).alloc (.cells Z.toArray 40)).alloc (.cells #[Value.slice (some ⟨w.heap.size, 0, none⟩) 16 16] 55)) (fun b => b = w.heap.size ∨ b = w.heap.size + 1 + 1) [.slice (some ⟨w.heap.size + 1 + 1, 0, none⟩) 1 1] [p] :=
    parts_new (w := (w.alloc (.cells B.toArray 40)).alloc (.cells Z.toArray 40)) (by simp) rfl (by simp [maxLen]) (AllH.one (R := (Ty.sl .u8).holds _ _) (Ty.keep (t := .sl .u8) (by rintro b rfl; exact Below.heap_alloc _ _ _ (by simp)) (fun _ h => h) HBL.out)) (by rintro b rfl; simp; omega)
  refine (For_i 5 5 rfl _ [p] _ _ hv (by rintro b (rfl | rfl) <;> simp <;> omega) (by simp [blob, be_length, hp])).mono ?_
  rintro e w4 ⟨rfl, hx4⟩
  have hx5 : Ext w w4 := ((((Ext.refl w).alloc _).alloc _).alloc _).trans hx4
  have hb1 : Blk w4 (w.heap.size + 1) 40 Z := (blk_new_at (w := w.alloc (.cells B.toArray 40)) (by simp) 40 Z).keep (((Ext.refl _).alloc _).trans hx4) (by simp)
  have hsl : (bv (sha (textM 5 [p]))).length = 32 := by rw [bv_length, sha_length]
  have hso := bv_one (sha (textM 5 [p]))
  have hcl : (bv (coverM p)).length = 16 := by rw [bv_length, coverM_length]
  have hco := bv_one (coverM p)
  have htk : (bv (sha (textM 5 [p]))).take 16 = bv (coverM p) := by simp [coverM, bv, List.map_take]
  generalize hR : bv (sha (textM 5 [p])) = R at hsl hso htk ⊢
  generalize hC : bv (coverM p) = C at hcl hco htk ⊢
  have hr5 : Blk (w4.alloc (.cells R.toArray 31)) w4.heap.size 31 R := Blk.new _ _ _
  have hc5 : Cells (w4.alloc (.cells R.toArray 31)) ⟨w4.heap.size, 0, none⟩ C := by rw [← htk]; exact hr5.cells.take 16
  have hb5 : Blk (w4.alloc (.cells R.toArray 31)) (w.heap.size + 1) 40 Z := hb1.keep ((Ext.refl w4).alloc _) (by simp)
  have hat := at_any (P := Try.prog) 40 5 16 (some ⟨w4.heap.size, 0, none⟩) 16 32 Try.underlying40 (Nat.le_refl 16)
  have HSL := Lib.hid hsl
  have HCL := Lib.hid hcl
  have HC := Lib.hid hC
  have HX5 := Lib.hid (hx5.alloc (.cells R.toArray 31))
  have HB5 := Lib.hid hb5
  clear hsl hv hx5 hb1 hcl hR hC htk hr5 hb5
  go_wp2_with (first
    | (refine wpList_alloc _ rfl 31 rfl _ hzd ?_)
    | (refine wpList_store_new _ rfl 31 (.tmp 3) (.tmp 6) rfl rfl D R _ rfl (digest_size HSL.out) (by rw [HSL.out, HDL.out]) hso ?_)
    | (refine wpList_load_agg _ rfl 40 (.tmp 8) rfl _ rfl C _ Try.underlying40 rfl (piece_size HCL.out) hc5 ?_)
    | (refine wpList_store_row _ rfl 40 (.tmp 2) (.tmp 9) rfl (w.heap.size + 1) rfl Z C _ rfl HB5.out (piece_size HCL.out) (by rw [HCL.out, HZL.out]) hco ?_)
    | fail)
  have hc : Cells ((w4.alloc (.cells R.toArray 31)).setRow (w.heap.size + 1) C.toArray) ⟨w.heap.size + 1, 0, none⟩ C := Blk.cells (t := 40) (setRow_at HB5.out)
  (try simp only [Exit.inBlock, Exit.then])
  refine bodyPost_ret (results_agg rfl _ _ _ _ _ rfl Try.underlying40 rfl (piece_size HCL.out) hc) rfl ?_
  exact ⟨by rw [HC.out], setRow_grown HX5.out _ _ (by omega)⟩
/-- A key's cells. -/
def keyC (seed : List UInt8) (n : Nat) : List Value := bv seed ++ [.int .u32 (n : Int)]
theorem keyC_len {seed : List UInt8} (h : seed.length = 32) (n : Nat) : (keyC seed n).length = 33 := by simp [keyC, h]
theorem keyC_one (seed : List UInt8) (n : Nat) : ∀ u ∈ keyC seed n, u.oneCell' = true := by
  intro u hu
  rcases List.mem_append.1 hu with h | h
  · exact bv_one seed u h
  · obtain rfl : u = .int .u32 (n : Int) := by simpa using h
    rfl
theorem key_size {n : Nat} (h : n = 33) : (Try.prog.info? 28).map (·.size) = some n := by subst h; kernel_rfl
theorem key_zero : (Try.prog.info? 28).bind (fun i => i.zero.map (·.cells)) = some (keyC (List.replicate 32 0) 0).toArray := by kernel_rfl
theorem bits_one : ∀ n : Fin 256, bits .and .u8 (n.val : Int) 1 = ((n.val % 2 : Nat) : Int) := by decide +kernel
theorem bit_one (x j : Nat) (h : x < 256) : bits .and .u8 ((x : Int) / 2 ^ j) 1 = ((x / 2 ^ j % 2 : Nat) : Int) := by
  have e : (x : Int) / 2 ^ j = ((x / 2 ^ j : Nat) : Int) := by rw [Int.natCast_ediv, Int.natCast_pow]; rfl
  rw [e]
  exact bits_one ⟨x / 2 ^ j, Nat.lt_of_le_of_lt (Nat.div_le_self _ _) h⟩
set_option maxHeartbeats 400000 in
theorem Bit (d : List UInt8) (hd : d.length = 32) (k : Nat) (hk : k < 32) (w : World) :
    Calls Try.prog 36 #[.agg (bv d).toArray, .int .i64 (k : Int)] w fun e w' => e = .returned (.int .u8 ((bitM d k : Nat) : Int)) ∧ Ext w w' := by
  have hb0 : Blk (w.alloc (.cells (bv d).toArray 31)) w.heap.size 31 (bv d) := Blk.new _ _ _
  have hx0 : Ext w (w.alloc (.cells (bv d).toArray 31)) := (Ext.refl w).alloc _
  have hq : k / 8 < d.length := by omega
  have hc : (w.alloc (.cells (bv d).toArray 31)).cell? ⟨w.heap.size, k / 8, none⟩ = some (.int .u8 ((d.getD (k / 8) 0).toNat : Int)) := (hb0.cell (k / 8)).trans (by simp [bv, List.getD, hq])
  have hbm : bitM d k = (d.getD (k / 8) 0).toNat / 2 ^ (7 - k % 8) % 2 := rfl
  generalize bitM d k = R at *
  have hX : (d.getD (k / 8) 0).toNat < 256 := UInt8.toNat_lt _
  generalize (d.getD (k / 8) 0).toNat = X at *
  have HXL := Lib.hid hX
  generalize bv d = B at *
  have HX := Lib.hid hx0
  have HR := Lib.hid hbm
  clear hb0 hx0 hq hbm hX
  go_enter Try.func36, Try.ntmps36
  go_wp2_with fail
  go_ret
  refine ⟨?_, HX.out⟩
  rw [HR.out]
  simp only [List.getD_eq_getElem?_getD, Array.getD_eq_getD_getElem?, List.size_toArray]
  have := bit_one X (7 - k % 8) HXL.out
  simpa using this
set_option maxRecDepth 100000 in
set_option maxHeartbeats 400000 in
theorem NewKey (seed : List UInt8) (hs : seed.length = 32) (n : Nat) (w : World) :
    Calls Try.prog 9 #[.agg (bv seed).toArray, .int .u32 (n : Int)] w fun e w' => e = .returned (.agg (keyC seed n).toArray) ∧ Ext w w' := by
  have hz := key_zero
  have hzl := keyC_len (seed := List.replicate 32 0) (by simp) 0
  have hkl := keyC_len hs n
  have hko := keyC_one seed n
  have hsl : (bv seed).length = 32 := by simp [hs]
  have hb0 : Blk (w.alloc (.cells (bv seed).toArray 22)) w.heap.size 22 (bv seed) := Blk.new _ _ _
  generalize keyC (List.replicate 32 0) 0 = Z at hz hzl
  have hcs : Cells ((w.alloc (.cells (bv seed).toArray 22)).alloc (.cells Z.toArray 28)) ⟨w.heap.size, 0, none⟩ (bv seed) := (hb0.keep ((Ext.refl _).alloc _) (by simp)).cells
  have hb1 : Blk ((w.alloc (.cells (bv seed).toArray 22)).alloc (.cells Z.toArray 28)) (w.heap.size + 1) 28 Z := blk_new_at (by simp) _ _
  have hx : Ext w ((w.alloc (.cells (bv seed).toArray 22)).alloc (.cells Z.toArray 28)) := ((Ext.refl w).alloc _).alloc _
  obtain ⟨fields, hfu, hfp⟩ : ∃ fields, Try.prog.underlying 28 = some (.struct fields) ∧ fields.toList.mapM (fun f => (Try.prog.info? f.type).map fun i => (f.offset, i.size)) = some [(0, 32), (32, 1)] := ⟨_, Try.underlying28, by kernel_rfl⟩
  have hfl : fillL ([(0, 32), (32, 1)].toArray[·]?) Z [(0, bv seed), (1, [.int .u32 (n : Int)])] = some (keyC seed n) := by
    simp [fillL, keyC, hs, hzl]
  generalize hK : keyC seed n = K at *
  generalize hB : bv seed = B at *
  have HKL := Lib.hid hkl
  have HSL := Lib.hid hsl
  have HZL := Lib.hid hzl
  have HB1 := Lib.hid hb1
  have HX := Lib.hid hx
  have HK := Lib.hid hK
  have HFL := Lib.hid hfl
  clear hkl hsl hzl hb0 hb1 hx hK hfl
  go_enter Try.func9, Try.ntmps9
  go_wp2_with (first
    | (refine wpList_alloc _ rfl 28 rfl _ hz ?_)
    | (refine wpList_load_agg _ rfl 22 (.tmp 2) rfl _ rfl B _ Try.underlying22 rfl (by rw [HSL.out]; kernel_rfl) hcs ?_)
    | (refine wpList_build_st (.inl rfl) 28 #[(0, .tmp 5), (1, .tmp 6)] rfl fields Z K _ _ hfu hz hfp (by simp [Value.cells, Act.eval]) HFL.out ?_)
    | (refine wpList_store_row _ rfl 28 (.tmp 4) (.tmp 7) rfl (w.heap.size + 1) rfl Z K _ rfl HB1.out (key_size HKL.out) (by rw [HKL.out, HZL.out]) hko ?_)
    | fail)
  have hc : Cells (((w.alloc (.cells B.toArray 22)).alloc (.cells Z.toArray 28)).setRow (w.heap.size + 1) K.toArray) ⟨w.heap.size + 1, 0, none⟩ K := Blk.cells (t := 28) (setRow_at HB1.out)
  (try simp only [Exit.inBlock, Exit.then])
  refine bodyPost_ret (results_agg rfl _ _ _ _ _ rfl Try.underlying28 rfl (key_size HKL.out) hc) rfl ?_
  exact ⟨rfl, setRow_grown HX.out _ _ (by omega)⟩
end Go.Proofs.Ytfoomnibfibfnaa

/- Walks and plain laws, put together in build order. Conditions: what each of them names. -/
import Derived.Laws.Cover3
import Derived.Test.YtmicjaiiinaipaaWa79199e436
set_option linter.unusedVariables false
set_option linter.unusedSimpArgs false
set_option linter.unnecessarySimpa false
namespace Go.Proofs.Ytmicjaiiinaipaa
section
open Go.RowKit

theorem blk_new_at {w : World} {g : Nat} (h : w.heap.size = g) (t : TypeId) (cs : List Value) : Blk (w.alloc (.cells cs.toArray t)) g t cs := h ▸ Blk.new w t cs
theorem piece_zero : (Try.prog.info? 64).bind (fun i => i.zero.map (·.cells)) = some (bv (List.replicate 16 0)).toArray := by kernel_rfl
theorem piece_size {n : Nat} (h : n = 16) : (Try.prog.info? 64).map (·.size) = some n := by subst h; kernel_rfl
theorem at_any {P : Program} (arr e : TypeId) (n : Nat) (a : Option Addr) (len cap : Nat) (h : P.underlying arr = some (.array n e)) (hn : n ≤ len) : ∀ w, (Instr.arrayAt arr (.slice a len cap)).run P w = .ok (.pointer a) w :=
  fun w => run_arrayAt w arr e n a len cap h hn
set_option maxRecDepth 100000 in
set_option maxHeartbeats 800000 in
theorem Cover (p : List UInt8) (hp : p.length = 16) (w : World) :
    Calls Try.prog 56 #[.agg (bv p).toArray] w fun e w' => e = .returned (.agg (bv (coverM p)).toArray) ∧ Ext w w' := by
  have hz := piece_zero
  have hzd := digest_zero
  have hzl : (bv (List.replicate 16 0)).length = 16 := by simp
  have hdl : (bv (List.replicate 32 0)).length = 32 := by simp
  have hbl := bytes_new (w := w) (bs := p) (T := 64) (fr := (0, 0)) rfl hp (by simp [maxLen])
  generalize bv (List.replicate 16 0) = Z at hz hzl
  generalize bv (List.replicate 32 0) = D at hzd hdl
  have HZL := Lib.hid hzl
  have HDL := Lib.hid hdl
  have HBL := Lib.hid hbl
  clear hzl hbl hdl
  generalize hB : bv p = B at HBL ⊢
  have HB := Lib.hid hB
  clear hB
  go_enter Try.func56, Try.ntmps56
  go_wp2_with (first
    | (refine wpList_alloc _ rfl 64 rfl _ hz ?_)
    | fail)
  have hv : (Ty.sl (.sl .u8)).holds (((w.alloc (.cells B.toArray 64)).alloc (.cells Z.toArray 64)).alloc (.cells #[Value.slice (some ⟨w.heap.size, 0, none⟩) 16 16] 35)) (fun b => b = w.heap.size ∨ b = w.heap.size + 1 + 1) [.slice (some ⟨w.heap.size + 1 + 1, 0, none⟩) 1 1] [p] :=
    parts_new (w := (w.alloc (.cells B.toArray 64)).alloc (.cells Z.toArray 64)) (by simp) rfl (by simp [maxLen]) (AllH.one (R := (Ty.sl .u8).holds _ _) (Ty.keep (t := .sl .u8) (by rintro b rfl; exact Below.heap_alloc _ _ _ (by simp)) (fun _ h => h) HBL.out)) (by rintro b rfl; simp; omega)
  refine (For_i 5 5 rfl _ [p] _ _ hv (by rintro b (rfl | rfl) <;> simp <;> omega) (by simp [blob, be_length, hp])).mono ?_
  rintro e w4 ⟨rfl, hx4⟩
  have hx5 : Ext w w4 := ((((Ext.refl w).alloc _).alloc _).alloc _).trans hx4
  have hb1 : Blk w4 (w.heap.size + 1) 64 Z := (blk_new_at (w := w.alloc (.cells B.toArray 64)) (by simp) 64 Z).keep (((Ext.refl _).alloc _).trans hx4) (by simp)
  have hsl : (bv (sha (textM 5 [p]))).length = 32 := by rw [bv_length, sha_length]
  have hso := bv_one (sha (textM 5 [p]))
  have hcl : (bv (coverM p)).length = 16 := by rw [bv_length, coverM_length]
  have hco := bv_one (coverM p)
  have htk : (bv (sha (textM 5 [p]))).take 16 = bv (coverM p) := by simp [coverM, bv, List.map_take]
  generalize hR : bv (sha (textM 5 [p])) = R at hsl hso htk ⊢
  generalize hC : bv (coverM p) = C at hcl hco htk ⊢
  have hr5 : Blk (w4.alloc (.cells R.toArray 52)) w4.heap.size 52 R := Blk.new _ _ _
  have hc5 : Cells (w4.alloc (.cells R.toArray 52)) ⟨w4.heap.size, 0, none⟩ C := by rw [← htk]; exact hr5.cells.take 16
  have hb5 : Blk (w4.alloc (.cells R.toArray 52)) (w.heap.size + 1) 64 Z := hb1.keep ((Ext.refl w4).alloc _) (by simp)
  have hat := at_any (P := Try.prog) 64 5 16 (some ⟨w4.heap.size, 0, none⟩) 16 32 Try.underlying64 (Nat.le_refl 16)
  have HSL := Lib.hid hsl
  have HCL := Lib.hid hcl
  have HC := Lib.hid hC
  have HX5 := Lib.hid (hx5.alloc (.cells R.toArray 52))
  have HB5 := Lib.hid hb5
  clear hsl hv hx5 hb1 hcl hR hC htk hr5 hb5
  go_wp2_with (first
    | (refine wpList_alloc _ rfl 52 rfl _ hzd ?_)
    | (refine wpList_store_new _ rfl 52 (.tmp 3) (.tmp 6) rfl rfl D R _ rfl (digest_size HSL.out) (by rw [HSL.out, HDL.out]) hso ?_)
    | (refine wpList_load_agg _ rfl 64 (.tmp 8) rfl _ rfl C _ Try.underlying64 rfl (piece_size HCL.out) hc5 ?_)
    | (refine wpList_store_row _ rfl 64 (.tmp 2) (.tmp 9) rfl (w.heap.size + 1) rfl Z C _ rfl HB5.out (piece_size HCL.out) (by rw [HCL.out, HZL.out]) hco ?_)
    | fail)
  have hc : Cells ((w4.alloc (.cells R.toArray 52)).setRow (w.heap.size + 1) C.toArray) ⟨w.heap.size + 1, 0, none⟩ C := Blk.cells (t := 64) (setRow_at HB5.out)
  (try simp only [Exit.inBlock, Exit.then])
  refine bodyPost_ret (results_agg rfl _ _ _ _ _ rfl Try.underlying64 rfl (piece_size HCL.out) hc) rfl ?_
  exact ⟨by rw [HC.out], setRow_grown HX5.out _ _ (by omega)⟩
/-- A key's cells. -/
def keyC (seed : List UInt8) (n : Nat) : List Value := bv seed ++ [.int .u32 (n : Int)]
theorem keyC_len {seed : List UInt8} (h : seed.length = 32) (n : Nat) : (keyC seed n).length = 33 := by simp [keyC, h]
theorem keyC_one (seed : List UInt8) (n : Nat) : ∀ u ∈ keyC seed n, u.oneCell' = true := by
  intro u hu
  rcases List.mem_append.1 hu with h | h
  · exact bv_one seed u h
  · obtain rfl : u = .int .u32 (n : Int) := by simpa using h
    rfl
theorem key_size {n : Nat} (h : n = 33) : (Try.prog.info? 109).map (·.size) = some n := by subst h; kernel_rfl
theorem key_zero : (Try.prog.info? 109).bind (fun i => i.zero.map (·.cells)) = some (keyC (List.replicate 32 0) 0).toArray := by kernel_rfl
theorem bits_one : ∀ n : Fin 256, bits .and .u8 (n.val : Int) 1 = ((n.val % 2 : Nat) : Int) := by decide +kernel
theorem bit_one (x j : Nat) (h : x < 256) : bits .and .u8 ((x : Int) / 2 ^ j) 1 = ((x / 2 ^ j % 2 : Nat) : Int) := by
  have e : (x : Int) / 2 ^ j = ((x / 2 ^ j : Nat) : Int) := by rw [Int.natCast_ediv, Int.natCast_pow]; rfl
  rw [e]
  exact bits_one ⟨x / 2 ^ j, Nat.lt_of_le_of_lt (Nat.div_le_self _ _) h⟩
set_option maxHeartbeats 400000 in
theorem Bit (d : List UInt8) (hd : d.length = 32) (k : Nat) (hk : k < 32) (w : World) :
    Calls Try.prog 67 #[.agg (bv d).toArray, .int .i64 (k : Int)] w fun e w' => e = .returned (.int .u8 ((bitM d k : Nat) : Int)) ∧ Ext w w' := by
  have hb0 : Blk (w.alloc (.cells (bv d).toArray 52)) w.heap.size 52 (bv d) := Blk.new _ _ _
  have hx0 : Ext w (w.alloc (.cells (bv d).toArray 52)) := (Ext.refl w).alloc _
  have hq : k / 8 < d.length := by omega
  have hc : (w.alloc (.cells (bv d).toArray 52)).cell? ⟨w.heap.size, k / 8, none⟩ = some (.int .u8 ((d.getD (k / 8) 0).toNat : Int)) := (hb0.cell (k / 8)).trans (by simp [bv, List.getD, hq])
  have hbm : bitM d k = (d.getD (k / 8) 0).toNat / 2 ^ (7 - k % 8) % 2 := rfl
  generalize bitM d k = R at *
  have hX : (d.getD (k / 8) 0).toNat < 256 := UInt8.toNat_lt _
  generalize (d.getD (k / 8) 0).toNat = X at *
  have HXL := Lib.hid hX
  generalize bv d = B at *
  have HX := Lib.hid hx0
  have HR := Lib.hid hbm
  clear hb0 hx0 hq hbm hX
  go_enter Try.func67, Try.ntmps67
  go_wp2_with fail
  go_ret
  refine ⟨?_, HX.out⟩
  rw [HR.out]
  simp only [List.getD_eq_getElem?_getD, Array.getD_eq_getD_getElem?, List.size_toArray]
  have := bit_one X (7 - k % 8) HXL.out
  simpa using this
set_option maxRecDepth 100000 in
set_option maxHeartbeats 400000 in
theorem NewKey (seed : List UInt8) (hs : seed.length = 32) (n : Nat) (w : World) :
    Calls Try.prog 36 #[.agg (bv seed).toArray, .int .u32 (n : Int)] w fun e w' => e = .returned (.agg (keyC seed n).toArray) ∧ Ext w w' := by
  have hz := key_zero
  have hzl := keyC_len (seed := List.replicate 32 0) (by simp) 0
  have hkl := keyC_len hs n
  have hko := keyC_one seed n
  have hsl : (bv seed).length = 32 := by simp [hs]
  have hb0 : Blk (w.alloc (.cells (bv seed).toArray 28)) w.heap.size 28 (bv seed) := Blk.new _ _ _
  generalize keyC (List.replicate 32 0) 0 = Z at hz hzl
  have hcs : Cells ((w.alloc (.cells (bv seed).toArray 28)).alloc (.cells Z.toArray 109)) ⟨w.heap.size, 0, none⟩ (bv seed) := (hb0.keep ((Ext.refl _).alloc _) (by simp)).cells
  have hb1 : Blk ((w.alloc (.cells (bv seed).toArray 28)).alloc (.cells Z.toArray 109)) (w.heap.size + 1) 109 Z := blk_new_at (by simp) _ _
  have hx : Ext w ((w.alloc (.cells (bv seed).toArray 28)).alloc (.cells Z.toArray 109)) := ((Ext.refl w).alloc _).alloc _
  obtain ⟨fields, hfu, hfp⟩ : ∃ fields, Try.prog.underlying 109 = some (.struct fields) ∧ fields.toList.mapM (fun f => (Try.prog.info? f.type).map fun i => (f.offset, i.size)) = some [(0, 32), (32, 1)] := ⟨_, Try.underlying109, by kernel_rfl⟩
  have hfl : fillL ([(0, 32), (32, 1)].toArray[·]?) Z [(0, bv seed), (1, [.int .u32 (n : Int)])] = some (keyC seed n) := by
    simp [fillL, keyC, hs, hzl]
  generalize hK : keyC seed n = K at *
  generalize hB : bv seed = B at *
  have HKL := Lib.hid hkl
  have HSL := Lib.hid hsl
  have HZL := Lib.hid hzl
  have HB1 := Lib.hid hb1
  have HX := Lib.hid hx
  have HK := Lib.hid hK
  have HFL := Lib.hid hfl
  clear hkl hsl hzl hb0 hb1 hx hK hfl
  go_enter Try.func36, Try.ntmps36
  go_wp2_with (first
    | (refine wpList_alloc _ rfl 109 rfl _ hz ?_)
    | (refine wpList_load_agg _ rfl 28 (.tmp 2) rfl _ rfl B _ Try.underlying28 rfl (by rw [HSL.out]; kernel_rfl) hcs ?_)
    | (refine wpList_build_st (.inl rfl) 109 #[(0, .tmp 5), (1, .tmp 6)] rfl fields Z K _ _ hfu hz hfp (by simp [Value.cells, Act.eval]) HFL.out ?_)
    | (refine wpList_store_row _ rfl 109 (.tmp 4) (.tmp 7) rfl (w.heap.size + 1) rfl Z K _ rfl HB1.out (key_size HKL.out) (by rw [HKL.out, HZL.out]) hko ?_)
    | fail)
  have hc : Cells (((w.alloc (.cells B.toArray 28)).alloc (.cells Z.toArray 109)).setRow (w.heap.size + 1) K.toArray) ⟨w.heap.size + 1, 0, none⟩ K := Blk.cells (t := 109) (setRow_at HB1.out)
  (try simp only [Exit.inBlock, Exit.then])
  refine bodyPost_ret (results_agg rfl _ _ _ _ _ rfl Try.underlying109 rfl (key_size HKL.out) hc) rfl ?_
  exact ⟨rfl, setRow_grown HX.out _ _ (by omega)⟩
end
section
open Go.RowKit

theorem u8_size1 : (Try.prog.info? 5).map (·.size) = some 1 := by kernel_rfl
theorem u8_zero1 : ((Try.prog.info? 5).bind (·.zero)).isSome = true := by kernel_rfl
theorem wp_bs0 {P : Program} {w : World} {o : Oper} {a : Act} {K : Act → World → Prop} {Q : Exit → Act → World → Prop} (t : TypeId) (ho : o.op = .buildSlice t 0 #[])
    (e : TypeId) (ht : P.underlying t = some (.slice e)) (hi : (P.info? e).map (·.size) = some 1) (hz : ((P.info? e).bind (·.zero)).isSome = true)
    (h : K (a.put o.dst (.slice (some ⟨w.heap.size, 0, none⟩) 0 0)) (w.alloc (.cells #[] e))) : o.wp P a w K Q := by
    obtain ⟨i, hi', hs⟩ := Option.map_eq_some_iff.1 hi
    rw [hi', Option.bind_some] at hz
    obtain ⟨z, hz⟩ := Option.isSome_iff_exists.1 hz
    unfold Oper.wp execOp
    have hrun : (Instr.buildSlice t 0 #[]).run P w = .ok (.slice (some ⟨w.heap.size, 0, none⟩) 0 0) (w.alloc (.cells #[] e)) := by
      unfold Instr.buildSlice
      simp [Sem.run_bind, run_underlying ht, Result.andThen_ok, sizeOf, typeInfo, run_program, hi', Sem.run_pure, hs, zeroValue, hz, newRow, Instr.fill]
      have e : ∀ f : Nat → Value, Array.map f (Array.range 0) = #[] := fun f => Array.eq_empty_of_size_eq_zero (by simp)
      rw [e]
    simp only [ho, List.map_toArray, List.map_nil, Sem.run_bind, hrun, Result.andThen_ok, Sem.run_pure]
    exact h
theorem byteN_val {k : Nat} (h : k < 256) : (((byteN k).toNat : Nat) : Int) = (k : Int) := by
  have : (byteN k).toNat = k := by unfold byteN; simp; omega
  rw [this]
theorem two_bytes {k b : Nat} (hk : k < 32) (hb : b < 2) : [Value.int .u8 (k : Int), Value.int .u8 (b : Int)] = bv [byteN k, byteN b] := by
  simp [bv, byteN_val (show k < 256 by omega), byteN_val (show b < 256 by omega)]
theorem sl_form {w : World} {F : Fp} {v : Value} {l : List UInt8} (h : (Ty.sl .u8).holds w F [v] l) : ∃ A c, v = .slice A l.length c := by
  obtain ⟨A, c, xs, hv, _⟩ := h
  exact ⟨A, c, by simpa using hv⟩
theorem three_parts {w : World} {a b c : Value} {p q r : List UInt8} {F : Fp} {T : TypeId} (ha : (Ty.sl .u8).holds w F [a] p) (hF : ∀ x, F x → x < w.heap.size) (hb : (Ty.sl .u8).holds w (fun x => b.ownBlock = some x) [b] q) (hG : ∀ x, b.ownBlock = some x → x < w.heap.size)
    (hc : (Ty.sl .u8).holds w (fun x => c.ownBlock = some x) [c] r) (hH : ∀ x, c.ownBlock = some x → x < w.heap.size) :
    ∃ F', (Ty.sl (.sl .u8)).holds (w.alloc (.cells #[a, b, c] T)) F' [.slice (some ⟨w.heap.size, 0, none⟩) 3 3] [p, q, r] ∧ ∀ x, F' x → x < (w.alloc (.cells #[a, b, c] T)).heap.size := by
  refine ⟨_, parts_new (w := w) (vs := [a, b, c]) (F := fun x => F x ∨ b.ownBlock = some x ∨ c.ownBlock = some x) rfl rfl (by simp [maxLen]) ?_ ?_, ?_⟩
  · exact ⟨[a], [b, c], rfl, Ty.keep (fun _ _ => rfl) (fun _ h => .inl h) _ ha, [b], [c], rfl, Ty.keep (fun _ _ => rfl) (fun _ h => .inr (.inl h)) _ hb, [c], [], rfl, Ty.keep (fun _ _ => rfl) (fun _ h => .inr (.inr h)) _ hc, rfl⟩
  · rintro x (h | h | h)
    · exact hF x h
    · exact hG x h
    · exact hH x h
  · rintro x ((h | h | h) | rfl)
    · have := hF x h; simp; omega
    · have := hG x h; simp; omega
    · have := hH x h; simp; omega
    · simp
set_option maxRecDepth 100000 in
set_option maxHeartbeats 4000000 in
theorem Secret (seed : List UInt8) (hs : seed.length = 32) (n : Nat) (hn : (Lit.int .u32 (n : Int)).wf = true) (k : Nat) (hk : k < 32) (bt : Nat) (hbt : bt < 2) (w : World) :
    Calls Try.prog 57 #[.agg (keyC seed n).toArray, .int .i64 (k : Int), .int .u8 (bt : Int)] w fun e w' => e = .returned (.agg (bv (secretM seed n k bt)).toArray) ∧ Ext w w' := by
  have hz := piece_zero
  have hzd := digest_zero
  have hzl : (bv (List.replicate 16 0)).length = 16 := by simp
  have hdl : (bv (List.replicate 32 0)).length = 32 := by simp
  generalize bv (List.replicate 16 0) = Z at hz hzl
  generalize bv (List.replicate 32 0) = D at hzd hdl
  have hx0 : Ext w ((w.alloc (.cells (keyC seed n).toArray 109)).alloc (.cells Z.toArray 64)).drew := ((((Ext.refl w).alloc _).alloc _)).trans (Ext.refl _).drew
  have hb0 : Blk ((w.alloc (.cells (keyC seed n).toArray 109)).alloc (.cells Z.toArray 64)).drew w.heap.size 109 (keyC seed n) := ((Blk.new _ _ _).keep ((Ext.refl _).alloc _) (by simp)).keep (Ext.refl _).drew (by simp)
  have hb1 : Blk ((w.alloc (.cells (keyC seed n).toArray 109)).alloc (.cells Z.toArray 64)).drew (w.heap.size + 1) 64 Z := (blk_new_at (w := w.alloc (.cells (keyC seed n).toArray 109)) (by simp) _ _).keep (Ext.refl _).drew (by simp)
  have hseed : ∀ W, Ext ((w.alloc (.cells (keyC seed n).toArray 109)).alloc (.cells Z.toArray 64)).drew W → (Ty.sl .u8).holds W (fun b => b = w.heap.size) [.slice (some ⟨w.heap.size, 0, none⟩) 32 32] seed ∧ ∀ b, b = w.heap.size → b < W.heap.size := by
    intro W hX
    have hb := hb0.keep hX (by simp)
    refine ⟨⟨_, _, bv seed, by rw [hs], by rw [hs]; exact Nat.le_refl _, by simp [maxLen], by simp, fun _ => ⟨_, rfl, rfl, ?_⟩, AllH.bytes.2 rfl⟩, ?_⟩
    · have h := hb.cells.take 32
      have e : (keyC seed n).take 32 = bv seed := by simp [keyC, hs]
      rw [e] at h
      exact h
    · rintro b rfl; exact hb.lt
  have hkn : (keyC seed n)[32]? = some (.int .u32 (n : Int)) := by simp [keyC, hs]
  have hrl : (bv (sha (textM 1 [seed, be 4 n, [byteN k, byteN bt]]))).length = 32 := by rw [bv_length, sha_length]
  have hro := bv_one (sha (textM 1 [seed, be 4 n, [byteN k, byteN bt]]))
  have hcl : (bv (secretM seed n k bt)).length = 16 := by rw [bv_length, secretM_length]
  have hco := bv_one (secretM seed n k bt)
  have htk : (bv (sha (textM 1 [seed, be 4 n, [byteN k, byteN bt]]))).take 16 = bv (secretM seed n k bt) := by simp [secretM, bv, List.map_take]
  generalize hR : bv (sha (textM 1 [seed, be 4 n, [byteN k, byteN bt]])) = R at hrl hro htk
  generalize hC : bv (secretM seed n k bt) = C at hcl hco htk ⊢
  generalize hKC : keyC seed n = KC at hx0 hb0 hb1 hseed hkn ⊢
  have HKEY := Lib.hid hb0
  have HKN := Lib.hid hkn
  have HN := Lib.hid hn
  have HK := Lib.hid hk
  have HWK : Hid (IntKind.u8.wrap (k : Int) = (k : Int)) := Lib.hid (by simp [IntKind.wrap, IntKind.bits, IntKind.signed]; omega)
  have HBT := Lib.hid hbt
  have HSEED := Lib.hid hseed
  have HSL := Lib.hid hs
  have HR := Lib.hid hR
  have HRL := Lib.hid hrl
  have HDL := Lib.hid hdl
  have HZL := Lib.hid hzl
  have HCL := Lib.hid hcl
  have HTK := Lib.hid htk
  have HB1 := Lib.hid hb1
  have HX0 := Lib.hid hx0
  clear hb0 hkn hn hk hbt hseed hs hR hrl hdl hzl hcl htk hb1 hx0 hC hKC
  go_enter Try.func57, Try.ntmps57
  go_wp2_with (first
    | (refine wpList_alloc _ rfl 64 rfl _ hz ?_)
    | fail)
  simp only [World.size_alloc]
  refine stab_store Ext ext_refl ext_trans [[0], [0, 1], [2], [3], [3, 4], [3, 4, 5], [2, 3, 4, 5, 6], [7], [7, 8], [9], [7, 8, 9, 10], [0, 1, 2, 3, 4, 5, 6, 7, 8, 9, 10, 11], [0, 1, 2, 3, 4, 5, 6, 7, 8, 9, 10, 11, 12], [13], [0, 1, 2, 3, 4, 5, 6, 7, 8, 9, 10, 11, 12, 13, 14]] (fun i v wv => match i with | 0 => v = .pointer (some ⟨w.heap.size, 0, none⟩) | 1 => v = .slice (some ⟨w.heap.size, 0, none⟩) 32 32 | 2 => OwnB wv v [] ∧ ∃ b, v = .slice (some b) 0 0 | 3 => v = .pointer (some ⟨w.heap.size, 32, none⟩) | 4 => v = .int .u32 (n : Int) | 5 => (Ty.sl (.nat .u32)).holds wv (fun b => v.ownBlock = some b) [v] [n] ∧ ∀ b, v.ownBlock = some b → b < wv.heap.size | 6 => (Ty.sl .u8).holds wv (fun b => v.ownBlock = some b) [v] (be 4 n) ∧ ∀ b, v.ownBlock = some b → b < wv.heap.size | 7 => v = .int .i64 (k : Int) | 8 => v = .int .u8 (k : Int) | 9 => v = .int .u8 (bt : Int) | 10 => (Ty.sl .u8).holds wv (fun b => v.ownBlock = some b) [v] [byteN k, byteN bt] ∧ ∀ b, v.ownBlock = some b → b < wv.heap.size | 11 => ∃ F, (Ty.sl (.sl .u8)).holds wv F [v] [seed, be 4 n, [byteN k, byteN bt]] ∧ ∀ b, F b → b < wv.heap.size | 12 => v = .agg R.toArray | 13 => ∃ g, v = .pointer (some ⟨g, 0, none⟩) ∧ w.heap.size + 2 ≤ g ∧ Blk wv g 52 D | _ => True) (by kernel_rfl) (by kernel_rfl) (by kernel_rfl) (by kernel_rfl) (by simp) ?_ ?_ ?_
  · intro i v w1 w2 h hx
    match i, h with
    | 0, h => exact h
    | 1, h => exact h
    | 2, h =>
      replace h : OwnB w1 v [] ∧ ∃ b, v = .slice (some b) 0 0 := h
      show OwnB w2 v [] ∧ ∃ b, v = .slice (some b) 0 0
      obtain ⟨h1, h2⟩ := h
      exact ⟨h1.ext hx, h2⟩
    | 3, h => exact h
    | 4, h => exact h
    | 5, h =>
      replace h : (Ty.sl (.nat .u32)).holds w1 (fun b => v.ownBlock = some b) [v] [n] ∧ ∀ b, v.ownBlock = some b → b < w1.heap.size := h
      show (Ty.sl (.nat .u32)).holds w2 (fun b => v.ownBlock = some b) [v] [n] ∧ ∀ b, v.ownBlock = some b → b < w2.heap.size
      obtain ⟨h1, h2⟩ := h
      exact ⟨hx.holds h2 h1, fun b hb => Nat.lt_of_lt_of_le (h2 b hb) hx.size⟩
    | 6, h =>
      replace h : (Ty.sl .u8).holds w1 (fun b => v.ownBlock = some b) [v] (be 4 n) ∧ ∀ b, v.ownBlock = some b → b < w1.heap.size := h
      show (Ty.sl .u8).holds w2 (fun b => v.ownBlock = some b) [v] (be 4 n) ∧ ∀ b, v.ownBlock = some b → b < w2.heap.size
      obtain ⟨h1, h2⟩ := h
      exact ⟨hx.holds h2 h1, fun b hb => Nat.lt_of_lt_of_le (h2 b hb) hx.size⟩
    | 7, h => exact h
    | 8, h => exact h
    | 9, h => exact h
    | 10, h =>
      replace h : (Ty.sl .u8).holds w1 (fun b => v.ownBlock = some b) [v] [byteN k, byteN bt] ∧ ∀ b, v.ownBlock = some b → b < w1.heap.size := h
      show (Ty.sl .u8).holds w2 (fun b => v.ownBlock = some b) [v] [byteN k, byteN bt] ∧ ∀ b, v.ownBlock = some b → b < w2.heap.size
      obtain ⟨h1, h2⟩ := h
      exact ⟨hx.holds h2 h1, fun b hb => Nat.lt_of_lt_of_le (h2 b hb) hx.size⟩
    | 11, h =>
      replace h : ∃ F, (Ty.sl (.sl .u8)).holds w1 F [v] [seed, be 4 n, [byteN k, byteN bt]] ∧ ∀ b, F b → b < w1.heap.size := h
      show ∃ F, (Ty.sl (.sl .u8)).holds w2 F [v] [seed, be 4 n, [byteN k, byteN bt]] ∧ ∀ b, F b → b < w2.heap.size
      obtain ⟨F, h1, h2⟩ := h
      exact ⟨F, hx.holds h2 h1, fun b hb => Nat.lt_of_lt_of_le (h2 b hb) hx.size⟩
    | 12, h => exact h
    | 13, h =>
      replace h : ∃ g, v = .pointer (some ⟨g, 0, none⟩) ∧ w.heap.size + 2 ≤ g ∧ Blk w1 g 52 D := h
      show ∃ g, v = .pointer (some ⟨g, 0, none⟩) ∧ w.heap.size + 2 ≤ g ∧ Blk w2 g 52 D
      obtain ⟨g, h1, h2, h3⟩ := h
      exact ⟨g, h1, h2, h3.keep hx (by simp)⟩
    | i + 14, h => trivial
  · intro i hi o ho
    match i, hi, ho with
    | 0, _, ho =>
      obtain rfl := Option.some.inj ho
      intro s W hX hd K hK
      rw [if_pos (wanted_plain rfl)]
      clear hd
      replace hK : ∀ (v : Value) (W' : World), Ext W W' → (v = .pointer (some ⟨w.heap.size, 0, none⟩)) → _ := hK
      simp only [mkOf, List.map_cons, List.map_nil, Act.put, List.setIfInBounds_toArray, List.set_cons_succ, List.set_cons_zero, Nat.reduceAdd, Nat.zero_add] at hK ⊢
      go_simp
      exact hK _ _ (Ext.refl _) rfl
    | 1, _, ho =>
      obtain rfl := Option.some.inj ho
      intro s W hX hd K hK
      rw [if_pos (wanted_plain rfl)]
      have d8 : (s 0) = .pointer (some ⟨w.heap.size, 0, none⟩) := hd 0 (by decide) (by decide)
      clear hd
      replace hK : ∀ (v : Value) (W' : World), Ext W W' → (v = .slice (some ⟨w.heap.size, 0, none⟩) 32 32) → _ := hK
      simp only [mkOf, List.map_cons, List.map_nil, Act.put, List.setIfInBounds_toArray, List.set_cons_succ, List.set_cons_zero, Nat.reduceAdd, Nat.zero_add] at hK ⊢
      simp only [d8] at hK ⊢
      go_simp
      exact hK _ _ (Ext.refl _) rfl
    | 2, _, ho =>
      obtain rfl := Option.some.inj ho
      intro s W hX hd K hK
      rw [if_pos (wanted_plain rfl)]
      clear hd
      replace hK : ∀ (v : Value) (W' : World), Ext W W' → (OwnB W' v [] ∧ ∃ b, v = .slice (some b) 0 0) → _ := hK
      simp only [mkOf, List.map_cons, List.map_nil, Act.put, List.setIfInBounds_toArray, List.set_cons_succ, List.set_cons_zero, Nat.reduceAdd, Nat.zero_add] at hK ⊢
      refine wp_bs0 36 rfl 5 Try.underlying36 u8_size1 u8_zero1 ?_
      exact hK _ _ ((Ext.refl _).alloc _) ⟨own_empty rfl, ⟨_, rfl⟩⟩
    | 3, _, ho =>
      obtain rfl := Option.some.inj ho
      intro s W hX hd K hK
      rw [if_pos (wanted_plain rfl)]
      clear hd
      replace hK : ∀ (v : Value) (W' : World), Ext W W' → (v = .pointer (some ⟨w.heap.size, 32, none⟩)) → _ := hK
      simp only [mkOf, List.map_cons, List.map_nil, Act.put, List.setIfInBounds_toArray, List.set_cons_succ, List.set_cons_zero, Nat.reduceAdd, Nat.zero_add] at hK ⊢
      go_simp
      exact hK _ _ (Ext.refl _) rfl
    | 4, _, ho =>
      obtain rfl := Option.some.inj ho
      intro s W hX hd K hK
      rw [if_pos (wanted_plain rfl)]
      have d11 : (s 3) = .pointer (some ⟨w.heap.size, 32, none⟩) := hd 3 (by decide) (by decide)
      clear hd
      replace hK : ∀ (v : Value) (W' : World), Ext W W' → (v = .int .u32 (n : Int)) → _ := hK
      simp only [mkOf, List.map_cons, List.map_nil, Act.put, List.setIfInBounds_toArray, List.set_cons_succ, List.set_cons_zero, Nat.reduceAdd, Nat.zero_add] at hK ⊢
      simp only [d11] at hK ⊢
      have c32 := (HKEY.out.keep hX (by simp)).cell 32
      rw [HKN.out] at c32
      go_simp
      exact hK _ _ (Ext.refl _) rfl
    | 5, _, ho =>
      obtain rfl := Option.some.inj ho
      intro s W hX hd K hK
      rw [if_pos (wanted_plain rfl)]
      have d12 : (s 4) = .int .u32 (n : Int) := hd 4 (by decide) (by decide)
      clear hd
      replace hK : ∀ (v : Value) (W' : World), Ext W W' → ((Ty.sl (.nat .u32)).holds W' (fun b => v.ownBlock = some b) [v] [n] ∧ ∀ b, v.ownBlock = some b → b < W'.heap.size) → _ := hK
      simp only [mkOf, List.map_cons, List.map_nil, Act.put, List.setIfInBounds_toArray, List.set_cons_succ, List.set_cons_zero, Nat.reduceAdd, Nat.zero_add] at hK ⊢
      simp only [d12] at hK ⊢
      go_simp
      exact hK _ _ ((Ext.refl _).alloc _) ⟨sl_made (t := .nat .u32) rfl rfl rfl (by simp [maxLen]) (one_nat HN.out), by rintro b ⟨⟩; simp⟩
    | 6, _, ho =>
      obtain rfl := Option.some.inj ho
      intro s W hX hd K hK
      rw [if_pos (wanted_plain rfl)]
      have d10 : OwnB W (s 2) [] ∧ ∃ b, (s 2) = .slice (some b) 0 0 := hd 2 (by decide) (by decide)
      have d13 : (Ty.sl (.nat .u32)).holds W (fun b => (s 5).ownBlock = some b) [(s 5)] [n] ∧ ∀ b, (s 5).ownBlock = some b → b < W.heap.size := hd 5 (by decide) (by decide)
      clear hd
      replace hK : ∀ (v : Value) (W' : World), Ext W W' → ((Ty.sl .u8).holds W' (fun b => v.ownBlock = some b) [v] (be 4 n) ∧ ∀ b, v.ownBlock = some b → b < W'.heap.size) → _ := hK
      simp only [mkOf, List.map_cons, List.map_nil, Act.put, List.setIfInBounds_toArray, List.set_cons_succ, List.set_cons_zero, Nat.reduceAdd, Nat.zero_add] at hK ⊢
      obtain ⟨ho, b, hb⟩ := d10
      rw [hb] at ho
      simp only [hb] at hK ⊢
      go_simp
      refine (four0 b _ n W _ ho d13.1 d13.2).mono ?_
      rintro e w' ⟨v, rfl, hov, hx, _⟩
      exact hK _ _ hx ⟨hov.holds, hov.lt⟩
    | 7, _, ho =>
      obtain rfl := Option.some.inj ho
      intro s W hX hd K hK
      rw [if_pos (wanted_plain rfl)]
      clear hd
      replace hK : ∀ (v : Value) (W' : World), Ext W W' → (v = .int .i64 (k : Int)) → _ := hK
      simp only [mkOf, List.map_cons, List.map_nil, Act.put, List.setIfInBounds_toArray, List.set_cons_succ, List.set_cons_zero, Nat.reduceAdd, Nat.zero_add] at hK ⊢
      go_simp
      exact hK _ _ (Ext.refl _) rfl
    | 8, _, ho =>
      obtain rfl := Option.some.inj ho
      intro s W hX hd K hK
      rw [if_pos (wanted_plain rfl)]
      have d15 : (s 7) = .int .i64 (k : Int) := hd 7 (by decide) (by decide)
      clear hd
      replace hK : ∀ (v : Value) (W' : World), Ext W W' → (v = .int .u8 (k : Int)) → _ := hK
      simp only [mkOf, List.map_cons, List.map_nil, Act.put, List.setIfInBounds_toArray, List.set_cons_succ, List.set_cons_zero, Nat.reduceAdd, Nat.zero_add] at hK ⊢
      simp only [d15] at hK ⊢
      go_simp
      exact hK _ _ (Ext.refl _) (by rw [HWK.out])
    | 9, _, ho =>
      obtain rfl := Option.some.inj ho
      intro s W hX hd K hK
      rw [if_pos (wanted_plain rfl)]
      clear hd
      replace hK : ∀ (v : Value) (W' : World), Ext W W' → (v = .int .u8 (bt : Int)) → _ := hK
      simp only [mkOf, List.map_cons, List.map_nil, Act.put, List.setIfInBounds_toArray, List.set_cons_succ, List.set_cons_zero, Nat.reduceAdd, Nat.zero_add] at hK ⊢
      go_simp
      exact hK _ _ (Ext.refl _) rfl
    | 10, _, ho =>
      obtain rfl := Option.some.inj ho
      intro s W hX hd K hK
      rw [if_pos (wanted_plain rfl)]
      have d16 : (s 8) = .int .u8 (k : Int) := hd 8 (by decide) (by decide)
      have d17 : (s 9) = .int .u8 (bt : Int) := hd 9 (by decide) (by decide)
      clear hd
      replace hK : ∀ (v : Value) (W' : World), Ext W W' → ((Ty.sl .u8).holds W' (fun b => v.ownBlock = some b) [v] [byteN k, byteN bt] ∧ ∀ b, v.ownBlock = some b → b < W'.heap.size) → _ := hK
      simp only [mkOf, List.map_cons, List.map_nil, Act.put, List.setIfInBounds_toArray, List.set_cons_succ, List.set_cons_zero, Nat.reduceAdd, Nat.zero_add] at hK ⊢
      simp only [d16, d17] at hK ⊢
      go_simp
      exact hK _ _ ((Ext.refl _).alloc _) ⟨sl_made (t := .u8) rfl rfl rfl (by simp [maxLen]) (AllH.bytes.2 (two_bytes HK.out HBT.out)), by rintro b ⟨⟩; simp⟩
    | 11, _, ho =>
      obtain rfl := Option.some.inj ho
      intro s W hX hd K hK
      rw [if_pos (wanted_plain rfl)]
      have d9 : (s 1) = .slice (some ⟨w.heap.size, 0, none⟩) 32 32 := hd 1 (by decide) (by decide)
      have d14 : (Ty.sl .u8).holds W (fun b => (s 6).ownBlock = some b) [(s 6)] (be 4 n) ∧ ∀ b, (s 6).ownBlock = some b → b < W.heap.size := hd 6 (by decide) (by decide)
      have d18 : (Ty.sl .u8).holds W (fun b => (s 10).ownBlock = some b) [(s 10)] [byteN k, byteN bt] ∧ ∀ b, (s 10).ownBlock = some b → b < W.heap.size := hd 10 (by decide) (by decide)
      clear hd
      replace hK : ∀ (v : Value) (W' : World), Ext W W' → (∃ F, (Ty.sl (.sl .u8)).holds W' F [v] [seed, be 4 n, [byteN k, byteN bt]] ∧ ∀ b, F b → b < W'.heap.size) → _ := hK
      simp only [mkOf, List.map_cons, List.map_nil, Act.put, List.setIfInBounds_toArray, List.set_cons_succ, List.set_cons_zero, Nat.reduceAdd, Nat.zero_add] at hK ⊢
      simp only [d9] at hK ⊢
      have hsd := HSEED.out W hX
      obtain ⟨A1, c1, e1⟩ := sl_form d14.1
      obtain ⟨A2, c2, e2⟩ := sl_form d18.1
      rw [e1] at d14
      rw [e2] at d18
      simp only [e1, e2] at hK ⊢
      go_simp
      exact hK _ _ ((Ext.refl _).alloc _) (three_parts hsd.1 hsd.2 d14.1 d14.2 d18.1 d18.2)
    | 12, _, ho =>
      obtain rfl := Option.some.inj ho
      intro s W hX hd K hK
      rw [if_pos (wanted_plain rfl)]
      have d19 : ∃ F, (Ty.sl (.sl .u8)).holds W F [(s 11)] [seed, be 4 n, [byteN k, byteN bt]] ∧ ∀ b, F b → b < W.heap.size := hd 11 (by decide) (by decide)
      clear hd
      replace hK : ∀ (v : Value) (W' : World), Ext W W' → (v = .agg R.toArray) → _ := hK
      simp only [mkOf, List.map_cons, List.map_nil, Act.put, List.setIfInBounds_toArray, List.set_cons_succ, List.set_cons_zero, Nat.reduceAdd, Nat.zero_add] at hK ⊢
      obtain ⟨F, h1, h2⟩ := d19
      go_simp
      refine (For_i 1 1 rfl _ _ W F h1 h2 (by simp [blob, be_length, HSL.out])).mono ?_
      rintro e w' ⟨rfl, hx⟩
      exact hK _ _ hx (by rw [HR.out])
    | 13, _, ho =>
      obtain rfl := Option.some.inj ho
      intro s W hX hd K hK
      rw [if_pos (wanted_plain rfl)]
      clear hd
      replace hK : ∀ (v : Value) (W' : World), Ext W W' → (∃ g, v = .pointer (some ⟨g, 0, none⟩) ∧ w.heap.size + 2 ≤ g ∧ Blk W' g 52 D) → _ := hK
      simp only [mkOf, List.map_cons, List.map_nil, Act.put, List.setIfInBounds_toArray, List.set_cons_succ, List.set_cons_zero, Nat.reduceAdd, Nat.zero_add] at hK ⊢
      refine wp_alloc_agg 52 rfl D hzd ?_
      exact hK _ _ ((Ext.refl _).alloc _) ⟨_, rfl, by have := hX.size; simp at this; omega, Blk.new _ _ _⟩
    | i + 14, hi, _ => exact absurd hi (by simp)
  · intro o ho
    obtain rfl := Option.some.inj ho
    intro s W hX hd K hK
    rw [if_pos (wanted_plain rfl)]
    have d8 : (s 0) = .pointer (some ⟨w.heap.size, 0, none⟩) := hd 0 (by decide)
    have d9 : (s 1) = .slice (some ⟨w.heap.size, 0, none⟩) 32 32 := hd 1 (by decide)
    have d10 : OwnB W (s 2) [] ∧ ∃ b, (s 2) = .slice (some b) 0 0 := hd 2 (by decide)
    have d11 : (s 3) = .pointer (some ⟨w.heap.size, 32, none⟩) := hd 3 (by decide)
    have d12 : (s 4) = .int .u32 (n : Int) := hd 4 (by decide)
    have d13 : (Ty.sl (.nat .u32)).holds W (fun b => (s 5).ownBlock = some b) [(s 5)] [n] ∧ ∀ b, (s 5).ownBlock = some b → b < W.heap.size := hd 5 (by decide)
    have d14 : (Ty.sl .u8).holds W (fun b => (s 6).ownBlock = some b) [(s 6)] (be 4 n) ∧ ∀ b, (s 6).ownBlock = some b → b < W.heap.size := hd 6 (by decide)
    have d15 : (s 7) = .int .i64 (k : Int) := hd 7 (by decide)
    have d16 : (s 8) = .int .u8 (k : Int) := hd 8 (by decide)
    have d17 : (s 9) = .int .u8 (bt : Int) := hd 9 (by decide)
    have d18 : (Ty.sl .u8).holds W (fun b => (s 10).ownBlock = some b) [(s 10)] [byteN k, byteN bt] ∧ ∀ b, (s 10).ownBlock = some b → b < W.heap.size := hd 10 (by decide)
    have d19 : ∃ F, (Ty.sl (.sl .u8)).holds W F [(s 11)] [seed, be 4 n, [byteN k, byteN bt]] ∧ ∀ b, F b → b < W.heap.size := hd 11 (by decide)
    have d20 : (s 12) = .agg R.toArray := hd 12 (by decide)
    have d7 : ∃ g, (s 13) = .pointer (some ⟨g, 0, none⟩) ∧ w.heap.size + 2 ≤ g ∧ Blk W g 52 D := hd 13 (by decide)
    clear hd
    simp only [mkOf, List.map_cons, List.map_nil, Act.put, List.setIfInBounds_toArray, List.set_cons_succ, List.set_cons_zero, Nat.reduceAdd, Nat.zero_add]
    obtain ⟨g, hg, hgb, hB⟩ := d7
    refine wp_store_row 52 (.tmp 7) (.tmp 20) rfl g (by simpa [Act.eval] using hg) D R _ (by simpa [Act.eval] using d20) hB (digest_size HRL.out) (by rw [HRL.out, HDL.out]) hro ?_
    refine hK _ _ ?_
    have hcs : Cells (W.setRow g R.toArray) ⟨g, 0, none⟩ C := by rw [← HTK.out]; exact (Blk.cells (t := 52) (setRow_at hB)).take 16
    have hb1 : Blk (W.setRow g R.toArray) (w.heap.size + 1) 64 Z := (HB1.out.keep hX (by simp)).keep (setRow_only _) (by simp; omega)
    have hxw : Ext w (W.setRow g R.toArray) := setRow_grown (HX0.out.trans hX) _ _ (by omega)
    have hat := at_any (P := Try.prog) 64 5 16 (some ⟨g, 0, none⟩) 16 32 Try.underlying64 (Nat.le_refl 16)
    have HB2 := Lib.hid hb1
    have HXW := Lib.hid hxw
    clear hb1 hxw hK hX hB
    generalize W.setRow g R.toArray = V at *
    (try simp only [Exit.then])
    go_wp2_with (first
      | (refine wpList_load_agg _ rfl 64 (.tmp 22) rfl _ rfl C _ Try.underlying64 rfl (piece_size HCL.out) hcs ?_)
      | (refine wpList_store_row _ rfl 64 (.tmp 6) (.tmp 23) rfl (w.heap.size + 1) rfl Z C _ rfl HB2.out (piece_size HCL.out) (by rw [HCL.out, HZL.out]) hco ?_)
      | fail)
    have hc : Cells (V.setRow (w.heap.size + 1) C.toArray) ⟨w.heap.size + 1, 0, none⟩ C := Blk.cells (t := 64) (setRow_at HB2.out)
    (try simp only [Exit.inBlock, Exit.then])
    refine bodyPost_ret (results_agg rfl _ _ _ _ _ rfl Try.underlying64 rfl (piece_size HCL.out) hc) rfl ?_
    exact ⟨rfl, setRow_grown HXW.out _ _ (by omega)⟩
end
section
open Go.RowKit

theorem szPieceTo04 {n : Nat} (h : n = 16) : (Try.prog.info? 81).map (·.size) = some n := by subst h; kernel_rfl
theorem szPieceBTo04 {n : Nat} (h : n = 16) : (Try.prog.info? 64).map (·.size) = some n := by subst h; kernel_rfl
theorem szSigTo04 {n : Nat} (h : n = 1024) : (Try.prog.info? 67).map (·.size) = some n := by subst h; kernel_rfl
theorem zSigTo04 : (Try.prog.info? 67).bind (fun i => i.zero.map (·.cells)) = some (List.replicate 1024 (Value.int .u8 0)).toArray := by kernel_rfl
end
section
open Go.RowKit

def signM (seed : List UInt8) (n : Nat) (d : List UInt8) : List UInt8 := piecesM (openM seed n d) 32 ++ piecesM (otherM seed n d) 32
theorem signM_length (seed : List UInt8) (n : Nat) (d : List UInt8) : (signM seed n d).length = 1024 := by
  unfold signM
  rw [List.length_append, piecesM_length (f := openM seed n d) (fun _ => secretM_length _ _ _ _), piecesM_length (f := otherM seed n d) (fun _ => coverM_length _)]
theorem sign_open (seed : List UInt8) (n : Nat) (d : List UInt8) {k : Nat} (h : k < 32) : ((bv (signM seed n d)).drop (k * 16)).take 16 = bv (openM seed n d k) := by
  have e := pieceAt_pieces (f := openM seed n d) (fun _ => secretM_length _ _ _ _) h
  have hl : (piecesM (openM seed n d) 32).length = 512 := piecesM_length (f := openM seed n d) (fun _ => secretM_length _ _ _ _) 32
  unfold pieceAt at e
  rw [← e, bv, ← List.map_drop, ← List.map_take, signM, List.drop_append_of_le_length (by rw [hl]; omega), List.take_append_of_le_length (by rw [List.length_drop, hl]; omega), Nat.mul_comm 16 k]
  rfl
theorem sign_other (seed : List UInt8) (n : Nat) (d : List UInt8) {k : Nat} (h : k < 32) : ((bv (signM seed n d)).drop (512 + k * 16)).take 16 = bv (otherM seed n d k) := by
  have e := pieceAt_pieces (f := otherM seed n d) (fun _ => coverM_length _) h
  have hl : (piecesM (openM seed n d) 32).length = 512 := piecesM_length (f := openM seed n d) (fun _ => secretM_length _ _ _ _) 32
  unfold pieceAt at e
  rw [← e, bv, ← List.map_drop, ← List.map_take, signM, ← List.drop_drop, List.drop_left' hl, Nat.mul_comm 16 k]
  rfl
theorem Secret_i (seed : List UInt8) (hs : seed.length = 32) (n : Nat) (hn : (Lit.int .u32 (n : Int)).wf = true) (k : Nat) (hk : k < 32) (bt : Nat) (hbt : bt < 2) (x : Int) (hx : x = (bt : Int)) (w : World) :
    Calls Try.prog 57 #[.agg (keyC seed n).toArray, .int .i64 (k : Int), .int .u8 x] w fun e w' => e = .returned (.agg (bv (secretM seed n k bt)).toArray) ∧ Ext w w' := by
  subst hx; exact Secret seed hs n hn k hk bt hbt w
theorem sig_size {n : Nat} (h : n = 1024) : (Try.prog.info? 67).map (·.size) = some n := by subst h; kernel_rfl
set_option maxRecDepth 100000 in
set_option maxHeartbeats 4000000 in
theorem Sign (seed : List UInt8) (hs : seed.length = 32) (n : Nat) (hn : (Lit.int .u32 (n : Int)).wf = true) (d : List UInt8) (hd : d.length = 32) (w : World) :
    Calls Try.prog 66 #[.agg (keyC seed n).toArray, .agg (bv d).toArray] w fun e w' => e = .returned (.agg (bv (signM seed n d)).toArray) ∧ Ext w w' := by
  obtain ⟨Z, hz, hzl, hzo⟩ : ∃ Z : List Value, (Try.prog.info? 67).bind (fun i => i.zero.map (·.cells)) = some Z.toArray ∧ Z.length = 1024 ∧ ∀ u ∈ Z, u.oneCell' = true := ⟨_, zSigTo04, List.length_replicate, fun u hu => by rw [List.eq_of_mem_replicate hu]; rfl⟩
  have hC : (bv (signM seed n d)).length = 1024 := by rw [bv_length, signM_length]
  have hone := bv_one (signM seed n d)
  have hop := fun k (h : k < 32) => sign_open seed n d h
  have hot := fun k (h : k < 32) => sign_other seed n d h
  have hkl := keyC_len hs n
  have hdl : (bv d).length = 32 := by rw [bv_length]; exact hd
  have hsec := fun (k : Nat) (hk : k < 32) (bt : Nat) (hbt : bt < 2) (x : Int) (hx : x = (bt : Int)) W => Secret_i seed hs n hn k hk bt hbt x hx W
  have hbit := fun (k : Nat) (hk : k < 32) W => Bit d hd k hk W
  generalize bv (signM seed n d) = C at *
  generalize keyC seed n = KC at *
  generalize bv d = DC at *
  have hb0 : Blk ((((w.alloc (.cells KC.toArray 109)).alloc (.cells DC.toArray 52)).alloc (.cells Z.toArray 67)).alloc (.cells Z.toArray 67)) w.heap.size 109 KC := (((Blk.new _ _ _).keep ((Ext.refl _).alloc _) (by simp)).keep ((Ext.refl _).alloc _) (by simp)).keep ((Ext.refl _).alloc _) (by simp)
  have hb1 : Blk ((((w.alloc (.cells KC.toArray 109)).alloc (.cells DC.toArray 52)).alloc (.cells Z.toArray 67)).alloc (.cells Z.toArray 67)) (w.heap.size + 1) 52 DC := ((Blk.fresh (by simp) _ _).keep ((Ext.refl _).alloc _) (by simp)).keep ((Ext.refl _).alloc _) (by simp)
  have hb2 : Blk ((((w.alloc (.cells KC.toArray 109)).alloc (.cells DC.toArray 52)).alloc (.cells Z.toArray 67)).alloc (.cells Z.toArray 67)) (w.heap.size + 1 + 1) 67 Z := (Blk.fresh (by simp) _ _).keep ((Ext.refl _).alloc _) (by simp)
  have hb3 : Blk ((((w.alloc (.cells KC.toArray 109)).alloc (.cells DC.toArray 52)).alloc (.cells Z.toArray 67)).alloc (.cells Z.toArray 67)) (w.heap.size + 1 + 1 + 1) 67 Z := Blk.fresh (by simp) _ _
  have hx0 : Ext w ((((w.alloc (.cells KC.toArray 109)).alloc (.cells DC.toArray 52)).alloc (.cells Z.toArray 67)).alloc (.cells Z.toArray 67)) := ((((Ext.refl w).alloc _).alloc _).alloc _).alloc _
  have HB0 := Lib.hid hb0
  have HB1 := Lib.hid hb1
  have HB2 := Lib.hid hb2
  have HB3 := Lib.hid hb3
  have HX0 := Lib.hid hx0
  have HCL := Lib.hid hC
  have HZL := Lib.hid hzl
  have HKL := Lib.hid hkl
  have HDL := Lib.hid hdl
  have HOP := Lib.hid hop
  have HOT := Lib.hid hot
  have HSEC := Lib.hid hsec
  have HBIT := Lib.hid hbit
  clear hb0 hb1 hb2 hb3 hx0 hC hzl hkl hdl hop hot hsec hbit
  go_enter Try.func66, Try.ntmps66
  go_wp2_with (first
    | (refine wpList_alloc _ rfl 67 rfl _ hz ?_)
    | fail)
  go_loopw [6, 7, 8] (fun p q i wr => ∃ k : Nat, k ≤ 32 ∧ i = .int .i64 k ∧ Ext w wr ∧ Blk wr w.heap.size 109 KC ∧ Blk wr (w.heap.size + 1) 52 DC ∧ Blk wr (w.heap.size + 1 + 1) 67 Z ∧ Blk wr (w.heap.size + 1 + 1 + 1) 67 (mixAt C Z k)) (fun _ _ i _ => 32 - (intOf i).toNat)
  case atStart => exact ⟨0, by omega, rfl, HX0.out, HB0.out, HB1.out, HB2.out, by rw [mixAt_zero C Z HCL.out HZL.out]; exact HB3.out⟩
  case round =>
    clear HX0 HB0 HB1 HB2 HB3
    obtain ⟨k, hk, rfl, hx, hb0, hb1, hb2, hb3⟩ := hrel
    by_cases hlt : k < 32
    · have hcd := hb1.cells
      have hbl := bitM_lt d k
      have hp1 : (bv (openM seed n d k)).length = 16 := by rw [bv_length]; exact secretM_length _ _ _ _
      have hp2 : (bv (otherM seed n d k)).length = 16 := by rw [bv_length]; exact coverM_length _
      have ho1 := bv_one (openM seed n d k)
      have ho2 := bv_one (otherM seed n d k)
      have hst := mixAt_step C Z HCL.out HZL.out k hlt
      rw [HOP.out k hlt, HOT.out k hlt] at hst
      have hsc := fun W => HSEC.out k hlt (bitM d k) hbl _ rfl W
      have hsc2 := fun (x : Int) hx W => HSEC.out k hlt (1 - bitM d k) (by omega) x hx W
      have hcv := fun W => Cover (secretM seed n k (1 - bitM d k)) (secretM_length _ _ _ _) W
      have e1 : secretM seed n k (bitM d k) = openM seed n d k := rfl
      have e2 : coverM (secretM seed n k (1 - bitM d k)) = otherM seed n d k := rfl
      rw [e1] at hsc
      rw [e2] at hcv
      have hbt := fun W => HBIT.out k hlt W
      generalize bitM d k = b at *
      generalize hS2 : bv (secretM seed n k (1 - b)) = S2 at *
      generalize bv (openM seed n d k) = P1 at *
      generalize bv (otherM seed n d k) = P2 at *
      have hc3 : (w.heap.size + 1 + 1 + 1) ≠ w.heap.size := by omega
      have HX := Lib.hid hx
      have HB0 := Lib.hid hb0
      have HB1 := Lib.hid hb1
      have HB2 := Lib.hid hb2
      have HB3 := Lib.hid hb3
      have HP1 := Lib.hid hp1
      have HP2 := Lib.hid hp2
      have HST := Lib.hid hst
      have HSC := Lib.hid hsc
      have HSC2 := Lib.hid hsc2
      have HCV := Lib.hid hcv
      have HBT := Lib.hid hbt
      have HBL := Lib.hid hbl
      clear hx hb0 hb1 hb2 hb3 hp1 hp2 hst hsc hsc2 hcv hbt hbl hS2 e1 e2
      go_wp2_with (first
        | (refine wpList_load_agg _ rfl 52 (.tmp 3) rfl _ rfl DC _ Try.underlying52 rfl (digest_size HDL.out) hcd ?_)
        | (go_at_call 67; refine (HBT.out _).mono ?_; rintro e w1 ⟨rfl, hx1⟩; have hk1 := (HB0.out.keep hx1 (by simp)).cells)
        | (refine wpList_load_agg _ rfl 109 (.tmp 2) rfl _ rfl KC _ Try.underlying109 rfl (key_size HKL.out) hk1 ?_)
        | fail)
      refine (HSC.out _).mono ?_
      rintro e w2 ⟨rfl, hx2⟩
      have hx12 := hx1.trans hx2
      have hm2 : w2.heap[w.heap.size + 1 + 1 + 1]? = some (.cells (mixAt C Z k).toArray 67 (0, 0)) := HB3.out.keep hx12 (by simp)
      have hk2 : Blk (w2.setRow (w.heap.size + 1 + 1 + 1) (putAt (mixAt C Z k) (k * 16) P1).toArray) w.heap.size 109 KC := (HB0.out.keep hx12 (by simp)).keep (setRow_only _) (by simp; omega)
      have hk3 := hk2.cells
      have HX12 := Lib.hid hx12
      have HK2 := Lib.hid hk2
      clear hx1 hx2 hx12 hk2 hcd hk1
      go_wp2_with (first
        | (refine wpList_store_part _ rfl 64 (.tmp 20) (.tmp 18) rfl (w.heap.size + 1 + 1 + 1) (k * 16) rfl (mixAt C Z k) P1 _ rfl hm2 (piece_size HP1.out) (by rw [mixAt_len, HP1.out]; omega) ho1 ?_)
        | (refine wpList_load_agg _ rfl 109 (.tmp 2) rfl _ rfl KC _ Try.underlying109 rfl (key_size HKL.out) hk3 ?_)
        | fail)
      refine (HSC2.out _ (by have := HBL.out; omega) _).mono ?_
      rintro e w3 ⟨rfl, hx3⟩
      clear hk3
      go_wp2_with (first
        | fail)
      refine (HCV.out _).mono ?_
      rintro e w4 ⟨rfl, hx4⟩
      have hx34 := hx3.trans hx4
      have hm4 : w4.heap[w.heap.size + 1 + 1 + 1]? = some (.cells (putAt (mixAt C Z k) (k * 16) P1).toArray 67 (0, 0)) := Blk.keep (t := 67) (setRow_at hm2) hx34 (by simp)
      have hg2 : w.grownBy w2 none := HX.out.trans HX12.out
      have hx2g : Ext w (w2.setRow (w.heap.size + 1 + 1 + 1) (putAt (mixAt C Z k) (k * 16) P1).toArray) := grown_then hg2 (setRow_only _) (.inr (by rintro b ⟨⟩; omega))
      have hx9 : Ext w (w4.setRow (w.heap.size + 1 + 1 + 1) (putAt (putAt (mixAt C Z k) (k * 16) P1) (512 + k * 16) P2).toArray) := grown_then (hx2g.trans hx34) (setRow_only _) (.inr (by rintro b ⟨⟩; omega))
      have hb0 := (HK2.out.keep hx34 (by simp)).keep (setRow_only (putAt (putAt (mixAt C Z k) (k * 16) P1) (512 + k * 16) P2).toArray) (show some w.heap.size ≠ some (w.heap.size + 1 + 1 + 1) by simp; omega)
      have hb1 := (((HB1.out.keep HX12.out (by simp)).keep (setRow_only (putAt (mixAt C Z k) (k * 16) P1).toArray) (show some (w.heap.size + 1) ≠ some (w.heap.size + 1 + 1 + 1) by simp)).keep hx34 (by simp)).keep (setRow_only (putAt (putAt (mixAt C Z k) (k * 16) P1) (512 + k * 16) P2).toArray) (show some (w.heap.size + 1) ≠ some (w.heap.size + 1 + 1 + 1) by simp)
      have hb2 := (((HB2.out.keep HX12.out (by simp)).keep (setRow_only (putAt (mixAt C Z k) (k * 16) P1).toArray) (show some (w.heap.size + 1 + 1) ≠ some (w.heap.size + 1 + 1 + 1) by simp)).keep hx34 (by simp)).keep (setRow_only (putAt (putAt (mixAt C Z k) (k * 16) P1) (512 + k * 16) P2).toArray) (show some (w.heap.size + 1 + 1) ≠ some (w.heap.size + 1 + 1 + 1) by simp)
      have hb3 : Blk (w4.setRow (w.heap.size + 1 + 1 + 1) (putAt (putAt (mixAt C Z k) (k * 16) P1) (512 + k * 16) P2).toArray) (w.heap.size + 1 + 1 + 1) 67 (mixAt C Z (k + 1)) := by rw [← HST.out]; exact setRow_at hm4
      have HX9 := Lib.hid hx9
      have HB90 := Lib.hid hb0
      have HB91 := Lib.hid hb1
      have HB92 := Lib.hid hb2
      have HB93 := Lib.hid hb3
      clear hx9 hb0 hb1 hb2 hb3 hx3 hx4 hx34 hg2 hx2g hm2
      go_wp2_with (first
        | (refine wpList_store_part _ rfl 64 (.tmp 29) (.tmp 27) rfl (w.heap.size + 1 + 1 + 1) (512 + k * 16) rfl (putAt (mixAt C Z k) (k * 16) P1) P2 _ rfl hm4 (piece_size HP2.out) (by rw [putAt_len (by rw [mixAt_len, HP1.out]; omega), mixAt_len, HP2.out]; omega) ho2 ?_)
        | fail)
      go_roundw
      case rel => exact ⟨k + 1, by omega, by go_num, HX9.out, HB90.out, HB91.out, HB92.out, HB93.out⟩
      case measure => simp [intOf]; omega
    · obtain rfl : k = 32 := by omega
      rw [mixAt_all C Z HCL.out HZL.out] at hb3
      have hcm := hb3.cells
      have hr2 : wr.heap[w.heap.size + 1 + 1]? = some (.cells Z.toArray 67 (0, 0)) := hb2
      have HX := Lib.hid hx
      clear hx hb0 hb1 hb2 hb3
      go_wp2_with (first
        | (refine wpList_load_agg _ rfl 67 (.tmp 5) rfl _ rfl C _ Try.underlying67 rfl (sig_size HCL.out) hcm ?_)
        | (refine wpList_store_row _ rfl 67 (.tmp 4) (.tmp 31) rfl (w.heap.size + 1 + 1) rfl Z C _ rfl hr2 (sig_size HCL.out) (by rw [HCL.out, HZL.out]) hone ?_)
        | fail)
      have hc9 := Blk.cells (t := 67) (setRow_at (cs' := C.toArray) hr2)
      (try simp only [Exit.inBlock, Exit.then])
      refine bodyPost_ret (results_agg rfl _ _ _ _ _ rfl Try.underlying67 rfl (sig_size HCL.out) hc9) rfl ?_
      exact ⟨rfl, grown_then HX.out (setRow_only _) (.inr (by rintro b ⟨⟩; omega))⟩
end
section
open Go.RowKit

theorem wpList_indexAgg {P : Program} {w : World} {ops : Array Oper} {rest : List Oper} {o : Oper} {a : Act} {Q : Exit → Act → World → Prop} (hgd : o.guard = none ∨ Region.wanted o (yielded ops a.tmps) = true) (t : TypeId) (x y : Operand) (ho : o.op = .index t x y)
    (cs piece : List Value) (k n m : Nat) (q : IntKind) (e : TypeId) (d : TypeDesc) (hx : a.eval x = .agg cs.toArray) (hy : a.eval y = .int q (k : Int)) (hu : P.underlying t = some (.array n e)) (hk : k < n)
    (he : P.underlying e = some d) (hd : isAggD d = true) (hs : (P.info? e).map (·.size) = some m) (hc : (cs.drop (k * m)).take m = piece) (h : wpList P ops Q rest (a.put o.dst (.agg piece.toArray)) w) : wpList P ops Q (o :: rest) a w :=
  wpList_want hgd fun K hK => by
    have hagg : (isAgg e).run P w = .ok true w := by
      unfold isAgg
      rw [Sem.run_bind, run_underlying he w]
      cases d <;> simp_all [isAggD]
    have hr : (Instr.index t (.agg cs.toArray) (.int q (k : Int))).run P w = .ok (.agg piece.toArray) w := by
      have hk2 : (0 : Int) ≤ (k : Int) ∧ (k : Int) < (n : Int) := by omega
      obtain ⟨i, hi2, rfl⟩ := Option.map_eq_some_iff.1 hs
      rw [← hc]
      simp [Instr.index, asIntOf, run_underlying hu, Nat.not_le_of_lt hk, hk, sizeOf, typeInfo, hi2, part, hagg]
    unfold Oper.wp execOp
    simp only [ho, hx, hy, Sem.run_bind, hr, Result.andThen_ok, Sem.run_pure]
    exact hK _ _ h
theorem two_size {n : Nat} (h : n = 32) : (Try.prog.info? 131).map (·.size) = some n := by subst h; kernel_rfl
theorem two_zero : (Try.prog.info? 131).bind (fun i => i.zero.map (·.cells)) = some (bv (List.replicate 32 0)).toArray := by kernel_rfl
theorem all_size {n : Nat} (h : n = 1024) : (Try.prog.info? 132).map (·.size) = some n := by subst h; kernel_rfl
theorem take_step32 (L : List UInt8) (hL : L.length = 1024) {k : Nat} (h : k < 32) : L.take (32 * (k + 1)) = L.take (32 * k) ++ (((L.drop (k * 32)).take 32).take 16 ++ ((L.drop (k * 32)).take 32).drop 16) := by
  rw [List.take_append_drop, Nat.mul_succ, List.take_add, Nat.mul_comm k 32]
theorem bv_drop_take (L : List UInt8) (a b : Nat) : ((bv L).drop a).take b = bv ((L.drop a).take b) := by simp [bv, List.map_drop, List.map_take]
set_option maxRecDepth 100000 in
set_option maxHeartbeats 4000000 in
theorem LeafW (L : List UInt8) (hL : L.length = 1024) (w : World) :
    Calls Try.prog 58 #[.agg (bv L).toArray] w fun e w' => e = .returned (.agg (bv (leafOf L)).toArray) ∧ Ext w w' := by
  obtain ⟨i0, hi, hz0, hz1, hz2⟩ := info_parts u8_info
  have hzd := digest_zero
  have hzt := two_zero
  have hdl : (bv (List.replicate 32 0)).length = 32 := by simp
  generalize bv (List.replicate 32 0) = D at hzd hzt hdl
  have hll : (bv L).length = 1024 := by rw [bv_length]; exact hL
  have hpc := fun k => bv_drop_take L (k * 32) 32
  have hb0 : Blk ((w.alloc (.cells (bv L).toArray 132)).alloc (.cells D.toArray 52)) w.heap.size 132 (bv L) := (Blk.new _ _ _).keep ((Ext.refl _).alloc _) (by simp)
  have hb1 : Blk ((w.alloc (.cells (bv L).toArray 132)).alloc (.cells D.toArray 52)) (w.heap.size + 1) 52 D := Blk.fresh (by simp) _ _
  have hx0 : Ext w ((w.alloc (.cells (bv L).toArray 132)).alloc (.cells D.toArray 52)) := ((Ext.refl w).alloc _).alloc _
  have hcl := hb0.cells
  generalize bv L = B at *
  have HB1 := Lib.hid hb1
  have HX0 := Lib.hid hx0
  have HDL := Lib.hid hdl
  have HLL := Lib.hid hll
  have HL := Lib.hid hL
  have HPC := Lib.hid hpc
  clear hb0 hb1 hx0 hdl hll hL hpc
  go_enter Try.func58, Try.ntmps58
  go_wp2_with (first
    | (refine wpList_alloc _ rfl 52 rfl _ hzd ?_)
    | (refine wpList_load_agg _ rfl 132 (.tmp 1) rfl _ rfl B _ Try.underlying132 rfl (all_size HLL.out) hcl ?_)
    | fail)
  go_loopw [3, 5, 7] (fun u p i wr => ∃ k : Nat, k ≤ 32 ∧ i = .int .i64 k ∧ OwnB wr u (L.take (32 * k)) ∧ Ext w wr ∧ Blk wr (w.heap.size + 1) 52 D ∧ (∀ b, u.ownBlock = some b → w.heap.size + 2 ≤ b) ∧ ∃ q, p = q) (fun _ _ i _ => 32 - (intOf i).toNat)
  case atStart => exact ⟨0, by omega, rfl, Own.nil _ _ _, HX0.out, HB1.out, fun b hb => (by simp [Value.ownBlock] at hb), _, rfl⟩
  case round =>
    clear HX0 HB1 hcl
    obtain ⟨k, hk, rfl, hou, hx, hb1, hne, q, rfl⟩ := hrel
    by_cases hlt : k < 32
    · have hpp := HPC.out k
      have hst := take_step32 L HL.out hlt
      have hpl : ((L.drop (k * 32)).take 32).length = 32 := by rw [List.length_take, List.length_drop, HL.out]; omega
      have htl : (L.take (32 * k)).length = 32 * k := by rw [List.length_take, HL.out]; omega
      have hpo := bv_one ((L.drop (k * 32)).take 32)
      have hbl : (bv ((L.drop (k * 32)).take 32)).length = 32 := by rw [bv_length]; exact hpl
      have hp1 : (((L.drop (k * 32)).take 32).take 16).length = 16 := by rw [List.length_take, hpl]; rfl
      have hp2 : (((L.drop (k * 32)).take 32).drop 16).length = 16 := by rw [List.length_drop, hpl]
      have hcb : Blk ((wr.alloc (.cells (bv ((L.drop (k * 32)).take 32)).toArray 131)).drew) wr.heap.size 131 (bv ((L.drop (k * 32)).take 32)) := (Blk.new _ _ _).keep (Ext.refl _).drew (by simp)
      have hk1 : Cells ((wr.alloc (.cells (bv ((L.drop (k * 32)).take 32)).toArray 131)).drew) ⟨wr.heap.size, 0, none⟩ (bv (((L.drop (k * 32)).take 32).take 16)) := by
        have h := hcb.cells.take 16
        have e : (bv ((L.drop (k * 32)).take 32)).take 16 = bv (((L.drop (k * 32)).take 32).take 16) := by simp [bv, List.map_take, List.map_drop]
        rw [e] at h; exact h
      have hk2 : Cells ((wr.alloc (.cells (bv ((L.drop (k * 32)).take 32)).toArray 131)).drew) ⟨wr.heap.size, 16, none⟩ (bv (((L.drop (k * 32)).take 32).drop 16)) := by
        have h := hcb.cells.drop 16
        have e : (bv ((L.drop (k * 32)).take 32)).drop 16 = bv (((L.drop (k * 32)).take 32).drop 16) := by simp [bv, List.map_take, List.map_drop]
        rw [addr_at, e] at h; exact h
      have hxw : Ext wr ((wr.alloc (.cells (bv ((L.drop (k * 32)).take 32)).toArray 131)).drew) := ((Ext.refl wr).alloc _).trans (Ext.refl _).drew
      have hou2 := hou.ext hxw
      have hx2 := hx.trans hxw
      have hb2 := hb1.keep hxw (by simp)
      have hlt0 := OwnB.lt hou
      generalize ((L.drop (k * 32)).take 32).take 16 = P1 at *
      generalize ((L.drop (k * 32)).take 32).drop 16 = P2 at *
      generalize bv ((L.drop (k * 32)).take 32) = PP at *
      have HX := Lib.hid hx2
      have HB := Lib.hid hb2
      have HO := Lib.hid hou2
      have HNE := Lib.hid hne
      have HLT := Lib.hid hlt0
      have HST := Lib.hid hst
      have HTL := Lib.hid htl
      have HBL := Lib.hid hbl
      have HP1 := Lib.hid hp1
      have HP2 := Lib.hid hp2
      have HK1 := Lib.hid hk1
      have HK2 := Lib.hid hk2
      have HCB := Lib.hid hcb
      have HPP := Lib.hid hpp
      clear hou hx hb1 hne hpl htl hbl hp1 hp2 hk1 hk2 hcb hxw hou2 hx2 hb2 hlt0 hst hpp
      go_wp2_with (first
        | (refine wpList_indexAgg (.inl rfl) 132 (.tmp 6) (.tmp 7) rfl B PP k 32 32 _ 131 _ rfl rfl Try.underlying132 hlt Try.underlying131 rfl (two_size rfl) HPP.out ?_)
        | (refine wpList_alloc _ rfl 131 rfl _ hzt ?_)
        | (refine wpList_store_new _ rfl 131 (.tmp 5) (.tmp 9) rfl rfl D PP _ rfl (two_size HBL.out) (by rw [HBL.out, HDL.out]) hpo ?_)
        | fail)
      refine startM (KeepB fun b => b = wr.heap.size) (by kernel_rfl) ?_
      (try simp only [Act.put, List.setIfInBounds_toArray, List.set_cons_succ, List.set_cons_zero])
      have hbg : wr.heap.size < (wr.alloc (.cells PP.toArray 131)).drew.heap.size := HCB.out.lt
      generalize (wr.alloc (.cells PP.toArray 131)).drew = w0 at *
      have HBG := Lib.hid hbg
      clear hbg
      have HNU : Hid (∀ b, u3.ownBlock = some b → b ≠ wr.heap.size) := Lib.hid fun b hb e => by have := HLT.out b hb; omega
      generalize wr.heap.size = gp at *
      refine takeK 0 rfl (by kernel_rfl) (by kernel_rfl) (by kernel_rfl) rfl (fun _ _ _ _ h => h) rfl (fun K hK => ?_)
      go_big_quiet_op
      first | refine hK _ ?_ | refine ⟨_, fun _ _ => rfl, hK _ ?_⟩
      clear hK K
      refine takeK 1 rfl (by kernel_rfl) (by kernel_rfl) (by kernel_rfl) rfl (fun _ _ _ _ h => h) rfl (fun K hK => ?_)
      go_big_quiet_op
      first | refine hK _ ?_ | refine ⟨_, fun _ _ => rfl, hK _ ?_⟩
      clear hK K
      refine takeK 2 rfl (by kernel_rfl) (by kernel_rfl) (by kernel_rfl) rfl (fun _ _ _ _ h => h) rfl (fun K hK => ?_)
      go_big_quiet_op
      first | refine hK _ ?_ | refine ⟨_, fun _ _ => rfl, hK _ ?_⟩
      clear hK K
      refine takeK 4 rfl (by kernel_rfl) (by kernel_rfl) (by kernel_rfl) rfl (fun _ _ _ _ h => h) rfl (fun K hK => ?_)
      go_big_quiet_op
      first | refine hK _ ?_ | refine ⟨_, fun _ _ => rfl, hK _ ?_⟩
      clear hK K
      refine takeK 5 rfl (by kernel_rfl) (by kernel_rfl) (by kernel_rfl) rfl (fun _ _ _ _ h => h) rfl (fun K hK => ?_)
      go_big_quiet_op
      first | refine hK _ ?_ | refine ⟨_, fun _ _ => rfl, hK _ ?_⟩
      clear hK K
      refine stepM 3 rfl (by kernel_rfl) rfl (fun K hK => ?_)
      refine wp_app _ (.tmp 10) (.tmp 12) _ _ rfl 5 5 i0 _ 1 1 Try.underlying35 Try.underlying35 hi hz0 hz1 hz2 rfl (by decide) u3 _ _ rfl HO.out _ 16 16 (bv P1) rfl (by simp [HP1.out]) (fun _ => ⟨_, rfl, HK1.out⟩) (bv_one _) (by rw [HTL.out]; unfold maxLen; omega) (by rw [HTL.out]; omega) ?_
      intro v8 w8 ho8 hm8
      have ho8' : OwnB w8 v8 (L.take (32 * k) ++ P1) := OwnB.app (by rw [HP1.out]; exact ho8)
      have HK28 := Lib.hid (HK2.out.keep (hm8.grown.block _ HBG.out (fun e => HNU.out _ e.symm rfl)))
      have HNE8 : Hid (∀ b, v8.ownBlock = some b → b ≠ gp) := Lib.hid (fun b hb e => by rcases hm8.at_ with h | h <;> first | exact HNU.out b (h.symm.trans hb) e | (have := h b hb; have := HBG.out; omega))
      refine hK _ _ (fun b hb => by subst hb; exact hm8.grown.block _ HBG.out (fun e => HNU.out _ e.symm rfl)) ?_
      clear hK K
      (try simp only [Act.put, List.setIfInBounds_toArray, List.set_cons_succ, List.set_cons_zero])
      refine stepM 6 rfl (by kernel_rfl) rfl (fun K hK => ?_)
      refine wp_app _ (.tmp 13) (.tmp 15) _ _ rfl 5 5 i0 _ 1 1 Try.underlying35 Try.underlying35 hi hz0 hz1 hz2 rfl (by decide) v8 _ _ rfl ho8' _ 16 16 (bv P2) rfl (by simp [HP2.out]) (fun _ => ⟨_, rfl, HK28.out⟩) (bv_one _) (by rw [List.length_append, HTL.out, HP1.out]; unfold maxLen; omega) (by rw [List.length_append, HTL.out, HP1.out]; omega) ?_
      intro v9 w9 ho9 hm9
      replace ho9 : OwnB w9 v9 (L.take (32 * k) ++ P1 ++ P2) := OwnB.app (by rw [HP2.out]; exact ho9)
      refine hK _ _ (fun b hb => by subst hb; exact hm9.grown.block _ (Nat.lt_of_lt_of_le HBG.out hm8.grown.size) (fun e => HNE8.out _ e.symm rfl)) ?_
      clear hK K
      (try simp only [Act.put, List.setIfInBounds_toArray, List.set_cons_succ, List.set_cons_zero])
      refine takeK 7 rfl (by kernel_rfl) (by kernel_rfl) (by kernel_rfl) rfl (fun _ _ _ _ h => h) rfl (fun K hK => ?_)
      go_big_quiet_op
      first | refine hK _ ?_ | refine ⟨_, fun _ _ => rfl, hK _ ?_⟩
      clear hK K
      refine doneM (by kernel_rfl) ?_ _
      have hm2 := hm8.trans hm9
      have hfr : ∀ b, u3.ownBlock = some b → w.heap.size ≤ b := fun b hb => by have := HNE.out b hb; omega
      have hx9 : Ext w w9 := grown_then HX.out hm2.grown (.inr hfr)
      have hb9 : Blk w9 (w.heap.size + 1) 52 D := HB.out.keep hm2.grown (fun e => by have := HNE.out _ e.symm; omega)
      have hne9 : ∀ b, v9.ownBlock = some b → w.heap.size + 2 ≤ b := fun b hb => by
        rcases hm2.at_ with e | hn
        · exact HNE.out b (e.symm.trans hb)
        · have h1 := hn b hb
          have h2 := HX.out.size
          have h3 := HB.out.lt
          omega
      have ho2 : OwnB w9 v9 (L.take (32 * (k + 1))) := by rw [HST.out, ← List.append_assoc]; exact ho9
      have HX9 := Lib.hid hx9
      have HB9 := Lib.hid hb9
      have HN9 := Lib.hid hne9
      have HO9 := Lib.hid ho2
      clear hm2 hb9 hne9 ho2 ho9 hm9 hx9
      go_wp2
      go_roundw
      case rel => exact ⟨k + 1, by omega, by go_num, HO9.out, HX9.out, HB9.out, HN9.out, _, rfl⟩
      case measure => simp [intOf]; omega
    · obtain rfl : k = 32 := by omega
      have ho := hou
      rw [show L.take (32 * 32) = L from List.take_of_length_le (by rw [HL.out]; decide)] at ho
      obtain ⟨A, c, hv⟩ := OwnB.form ho
      subst hv
      have h1 := ho.holds
      have hlt1 := OwnB.lt ho
      have hv := parts_new (w := wr) (T := 35) (n := 1) rfl rfl (by simp [maxLen]) (AllH.one (R := (Ty.sl .u8).holds _ _) h1) hlt1
      have hF : ∀ b, ((Value.slice A L.length c).ownBlock = some b ∨ b = wr.heap.size) → b < (wr.alloc (.cells #[Value.slice A L.length c] 35)).heap.size := by
        rintro b (hb | rfl)
        · have := hlt1 b hb; simp; omega
        · simp
      have hrl : (bv (sha (textM 2 [L]))).length = 32 := by rw [bv_length, sha_length]
      have hro := bv_one (sha (textM 2 [L]))
      have hfor := For_i 2 2 rfl _ [L] _ _ hv hF (by simp [blob, be_length, HL.out])
      have e2 : leafOf L = sha (textM 2 [L]) := rfl
      rw [← e2] at hrl hro hfor
      obtain ⟨R, hR⟩ : ∃ R, R = bv (leafOf L) := ⟨_, rfl⟩
      rw [← hR] at hrl hro hfor
      have HR := Lib.hid hR
      clear hR
      have HFOR := Lib.hid hfor
      have HRL := Lib.hid hrl
      have HX := Lib.hid (hx.alloc (.cells #[Value.slice A L.length c] 35))
      have HB := Lib.hid (hb1.keep ((Ext.refl wr).alloc (.cells #[Value.slice A L.length c] 35)) (by simp))
      clear hx hb1 hou ho h1 hlt1 hv hF hrl hfor hne e2
      generalize L.length = n at *
      clear HL HPC
      go_wp2_with fail
      refine (HFOR.out).mono ?_
      rintro e w4 ⟨rfl, hx4⟩
      have hr4 : w4.heap[w.heap.size + 1]? = some (.cells D.toArray 52 (0, 0)) := HB.out.keep hx4 (by simp)
      have hx5 := HX.out.trans hx4
      go_wp2_with (first
        | (refine wpList_store_row _ rfl 52 (.tmp 2) (.tmp 20) rfl (w.heap.size + 1) rfl D R _ rfl hr4 (digest_size HRL.out) (by rw [HRL.out, HDL.out]) hro ?_)
        | fail)
      have hc9 := Blk.cells (t := 52) (setRow_at (cs' := R.toArray) hr4)
      (try simp only [Exit.inBlock, Exit.then])
      refine bodyPost_ret (results_agg rfl _ _ _ _ _ rfl Try.underlying52 rfl (digest_size HRL.out) hc9) rfl ?_
      exact ⟨by rw [HR.out], setRow_grown hx5 _ _ (by omega)⟩
end
section
open Go.RowKit

section
variable {P : Program} {w : World}
theorem wp_load_agg {o : Oper} {a : Act} {K : Act → World → Prop} {Q : Exit → Act → World → Prop} (ty : TypeId) (x : Operand) (ho : o.op = .load ty x)
    (ad : Addr) (hx : a.eval x = .pointer (some ad)) (cs : List Value) (d : TypeDesc) (hu : P.underlying ty = some d) (hd : isAggD d = true) (hi : (P.info? ty).map (·.size) = some cs.length) (hc : Cells w ad cs)
    (h : K (a.put o.dst (.agg cs.toArray)) w) : o.wp P a w K Q := by
  unfold Oper.wp execOp
  simp only [ho, hx, Instr.loadAt, Instr.sureAddr, Sem.run_bind, Sem.run_pure, Result.andThen_ok, run_load_agg w ty ad cs d hu hd hi hc]
  exact h
theorem run_build_arr (w : World) (t : TypeId) (parts : Array (Nat × Value)) (n : Nat) (e : TypeId) (size : Nat) (z r : List Value) (segs : List (Nat × List Value)) (hu : P.underlying t = some (.array n e))
    (hz : (P.info? t).bind (fun i => i.zero.map (·.cells)) = some z.toArray) (hsz : (P.info? e).map (·.size) = some size)
    (hs : parts.toList.map (fun p => (p.1, p.2.cells)) = segs.map (fun p => (p.1, p.2.toArray))) (hf : fillL (fun i => some (i * size, size)) z segs = some r) : (Instr.build t parts).run P w = .ok (.agg r.toArray) w := by
  obtain ⟨i, hi, hzz⟩ := Option.bind_eq_some_iff.1 hz
  obtain ⟨zv, hzv, hzc⟩ := Option.map_eq_some_iff.1 hzz
  obtain ⟨j, hj, rfl⟩ := Option.map_eq_some_iff.1 hsz
  have hfs := fill_segs (fun i => some (i * j.size, j.size)) parts.toList segs z r hs hf
  unfold Instr.build
  rw [Sem.run_bind]
  simp [zeroValue, typeInfo, hi, hzv, run_underlying hu, sizeOf, hj, hzc, hfs]
theorem wp_build_arr {o : Oper} {a : Act} {K : Act → World → Prop} {Q : Exit → Act → World → Prop} (t : TypeId) (parts : Array (Nat × Operand)) (ho : o.op = .build t parts) (n : Nat) (e : TypeId) (size : Nat) (z r : List Value) (segs : List (Nat × List Value)) (hu : P.underlying t = some (.array n e))
    (hz : (P.info? t).bind (fun i => i.zero.map (·.cells)) = some z.toArray) (hsz : (P.info? e).map (·.size) = some size)
    (hs : (parts.map fun p => (p.1, a.eval p.2)).toList.map (fun p => (p.1, p.2.cells)) = segs.map (fun p => (p.1, p.2.toArray))) (hf : fillL (fun i => some (i * size, size)) z segs = some r)
    (h : K (a.put o.dst (.agg r.toArray)) w) : o.wp P a w K Q := by
  unfold Oper.wp execOp
  simp only [ho, Sem.run_bind, run_build_arr w t _ n e size z r segs hu hz hsz hs hf, Result.andThen_ok, Sem.run_pure]
  exact h
end
theorem all_zero : (Try.prog.info? 132).bind (fun i => i.zero.map (·.cells)) = some (List.replicate 1024 (Value.int .u8 0)).toArray := by kernel_rfl
/-- The first k rows, then zeros. -/
def rowsC (f : Nat → List UInt8) (Z : List Value) (k : Nat) : List Value := bv (piecesM f k) ++ Z.drop (k * 32)
theorem rowsC_len {f : Nat → List UInt8} (hf : ∀ k, (f k).length = 32) {Z : List Value} (hz : Z.length = 1024) {k : Nat} (hk : k ≤ 32) : (rowsC f Z k).length = 1024 := by
  unfold rowsC; rw [List.length_append, bv_length, piecesM_length hf, List.length_drop, hz]; omega
theorem rowsC_step {f : Nat → List UInt8} (hf : ∀ k, (f k).length = 32) {Z : List Value} (hz : Z.length = 1024) {k : Nat} (hk : k < 32) : putAt (rowsC f Z k) (k * 32) (bv (f k)) = rowsC f Z (k + 1) := by
  have h1 : (bv (piecesM f k)).length = k * 32 := by rw [bv_length, piecesM_length hf, Nat.mul_comm]
  have h2 : (bv (f k)).length = 32 := by rw [bv_length, hf]
  unfold putAt rowsC
  rw [h2, List.take_left' h1, ← List.drop_drop, List.drop_left' h1, List.drop_drop, piecesM_succ, bv_append, Nat.succ_mul]
set_option maxRecDepth 100000 in
set_option maxHeartbeats 4000000 in
theorem KLeaf (seed : List UInt8) (hs : seed.length = 32) (n : Nat) (hn : (Lit.int .u32 (n : Int)).wf = true) (w : World) :
    Calls Try.prog 37 #[.agg (keyC seed n).toArray] w fun e w' => e = .returned (.agg (bv (leafM seed n)).toArray) ∧ Ext w w' := by
  have hzd := digest_zero
  have hzt := two_zero
  have hdl : (bv (List.replicate 32 0)).length = 32 := by simp
  generalize bv (List.replicate 32 0) = D at hzd hzt hdl
  obtain ⟨Z, hz, hzl⟩ : ∃ Z : List Value, (Try.prog.info? 132).bind (fun i => i.zero.map (·.cells)) = some Z.toArray ∧ Z.length = 1024 := ⟨_, all_zero, List.length_replicate⟩
  have hlf := fun W => LeafW (allM seed n) (piecesM_length (f := rowM seed n) (fun k => rowM_length _ _ _) 32) W
  have hll := fun k (h : k ≤ 32) => rowsC_len (f := rowM seed n) (fun k => rowM_length _ _ _) hzl h
  have hst := fun k (h : k < 32) => rowsC_step (f := rowM seed n) (fun k => rowM_length _ _ _) hzl h
  have hl0 : rowsC (rowM seed n) Z 0 = Z := by simp [rowsC, piecesM, bv]
  have hl32 : rowsC (rowM seed n) Z 32 = bv (allM seed n) := by
    have : Z.drop (32 * 32) = [] := List.drop_of_length_le (by rw [hzl]; decide)
    unfold rowsC allM
    rw [this, List.append_nil]
    rfl
  have hkl := keyC_len hs n
  have hsec := fun (k : Nat) (hk : k < 32) (bt : Nat) (hbt : bt < 2) (x : Int) (hx : x = (bt : Int)) W => Secret_i seed hs n hn k hk bt hbt x hx W
  have hrl : (bv (leafM seed n)).length = 32 := by rw [bv_length]; exact leafOf_length _
  have hro := bv_one (leafM seed n)
  have hlm : leafOf (allM seed n) = leafM seed n := rfl
  rw [hlm] at hlf
  generalize bv (leafM seed n) = R at *
  have hal : (bv (allM seed n)).length = 1024 := by rw [bv_length]; exact piecesM_length (f := rowM seed n) (fun k => rowM_length _ _ _) 32
  generalize bv (allM seed n) = AL at *
  have hb0 : Blk (((w.alloc (.cells (keyC seed n).toArray 109)).alloc (.cells D.toArray 52)).alloc (.cells Z.toArray 132)) w.heap.size 109 (keyC seed n) := ((Blk.new _ _ _).keep ((Ext.refl _).alloc _) (by simp)).keep ((Ext.refl _).alloc _) (by simp)
  have hb1 : Blk (((w.alloc (.cells (keyC seed n).toArray 109)).alloc (.cells D.toArray 52)).alloc (.cells Z.toArray 132)) (w.heap.size + 1) 52 D := (Blk.fresh (by simp) _ _).keep ((Ext.refl _).alloc _) (by simp)
  have hb2 : Blk (((w.alloc (.cells (keyC seed n).toArray 109)).alloc (.cells D.toArray 52)).alloc (.cells Z.toArray 132)) (w.heap.size + 1 + 1) 132 Z := Blk.fresh (by simp) _ _
  have hx0 : Ext w (((w.alloc (.cells (keyC seed n).toArray 109)).alloc (.cells D.toArray 52)).alloc (.cells Z.toArray 132)) := (((Ext.refl w).alloc _).alloc _).alloc _
  obtain ⟨LL, hLL⟩ : ∃ LL, LL = rowsC (rowM seed n) Z := ⟨_, rfl⟩
  rw [← hLL] at hl0 hl32 hll hst
  generalize keyC seed n = KC at *
  have HB0 := Lib.hid hb0
  have HB1 := Lib.hid hb1
  have HB2 := Lib.hid hb2
  have HX0 := Lib.hid hx0
  have HL0 := Lib.hid hl0
  have HL32 := Lib.hid hl32
  have HLLN := Lib.hid hll
  have HST := Lib.hid hst
  have HKL := Lib.hid hkl
  have HSEC := Lib.hid hsec
  have HLF := Lib.hid hlf
  have HRL := Lib.hid hrl
  have HAL := Lib.hid hal
  have HDL := Lib.hid hdl
  clear hb0 hb1 hb2 hx0 hl0 hl32 hll hst hkl hsec hlf hrl hdl hLL hlm hal hzl
  go_enter Try.func37, Try.ntmps37
  go_wp2_with (first
    | (refine wpList_alloc _ rfl 52 rfl _ hzd ?_)
    | (refine wpList_alloc _ rfl 132 rfl _ hz ?_)
    | fail)
  go_loopw [4, 5] (fun p i wr => ∃ k : Nat, k ≤ 32 ∧ i = .int .i64 k ∧ Ext w wr ∧ Blk wr w.heap.size 109 KC ∧ Blk wr (w.heap.size + 1) 52 D ∧ Blk wr (w.heap.size + 1 + 1) 132 (LL k)) (fun _ i _ => 32 - (intOf i).toNat)
  case atStart => exact ⟨0, by omega, rfl, HX0.out, HB0.out, HB1.out, by rw [HL0.out]; exact HB2.out⟩
  case round =>
    clear HX0 HB0 HB1 HB2
    obtain ⟨k, hk, rfl, hx, hb0, hb1, hb2⟩ := hrel
    by_cases hlt : k < 32
    · have hs0 := fun W => HSEC.out k hlt 0 (by decide) 0 rfl W
      have hs1 := fun W => HSEC.out k hlt 1 (by decide) 1 rfl W
      have hc0 := fun W => Cover (secretM seed n k 0) (secretM_length _ _ _ _) W
      have hc1 := fun W => Cover (secretM seed n k 1) (secretM_length _ _ _ _) W
      have hl0 : (bv (coverM (secretM seed n k 0))).length = 16 := by rw [bv_length, coverM_length]
      have hl1 : (bv (coverM (secretM seed n k 1))).length = 16 := by rw [bv_length, coverM_length]
      have hpl : (bv (rowM seed n k)).length = 32 := by rw [bv_length, rowM_length]
      have hpo := bv_one (rowM seed n k)
      have hpe : bv (rowM seed n k) = bv (coverM (secretM seed n k 0)) ++ bv (coverM (secretM seed n k 1)) := by unfold rowM; rw [bv_append]
      have hstk := HST.out k hlt
      generalize bv (secretM seed n k 0) = S0 at *
      generalize bv (secretM seed n k 1) = S1 at *
      generalize bv (coverM (secretM seed n k 0)) = P0 at *
      generalize bv (coverM (secretM seed n k 1)) = P1 at *
      generalize bv (rowM seed n k) = PP at *
      have hfl : fillL (fun i => some (i * 16, 16)) D [(0, P0), (1, P1)] = some PP := by
        have hd := HDL.out
        rw [hpe]
        simp [fillL, hl0, hl1, hd]
      have HS0 := Lib.hid hs0
      have HS1 := Lib.hid hs1
      have HC0 := Lib.hid hc0
      have HC1 := Lib.hid hc1
      have HFL := Lib.hid hfl
      have HPL := Lib.hid hpl
      have HSTK := Lib.hid hstk
      have HLL : Hid ((LL k).length = 1024) := Lib.hid (HLLN.out k (by omega))
      have HX := Lib.hid hx
      have HB0 : Hid (Blk wr.drew w.heap.size 109 KC) := Lib.hid hb0
      have HB1 := Lib.hid hb1
      have HB2 : Hid (Blk wr.drew (w.heap.size + 1 + 1) 132 (LL k)) := Lib.hid hb2
      clear hs0 hs1 hc0 hc1 hfl hpl hpe hstk hx hb0 hb1 hb2 hl0 hl1
      go_wp2_with fail
      generalize hg : w.heap.size + 1 + 1 = g at *
      have HG := Lib.hid hg
      have hdk : decide ((k : Int) < 32) = true := by rw [decide_eq_true_iff]; omega
      simp only [hdk]
      clear hg hdk
      refine stab_store Ext ext_refl ext_trans [[0], [1], [2], [1, 2, 3], [1, 2, 3, 4], [5], [6], [1, 2, 3, 4, 5, 6, 7], [1, 2, 3, 4, 5, 6, 7, 8], [1, 2, 3, 4, 5, 6, 7, 8, 9], [0, 1, 2, 3, 4, 5, 6, 7, 8, 9, 10], [0, 1, 2, 3, 4, 5, 6, 7, 8, 9, 10, 11]] (fun i v wv => match i with | 0 => v = .int .i64 (k : Int) | 1 => v = .agg KC.toArray | 2 => v = .int .i64 (k : Int) | 3 => v = .agg S0.toArray | 4 => v = .agg P0.toArray | 5 => v = .agg KC.toArray | 6 => v = .int .i64 (k : Int) | 7 => v = .agg S1.toArray | 8 => v = .agg P1.toArray | 9 => v = .agg PP.toArray | 10 => v = .pointer (some ⟨g, k * 32, none⟩) | _ => True) (by kernel_rfl) (by kernel_rfl) (by kernel_rfl) (by kernel_rfl) (by simp) ?_ ?_ ?_
      · intro i v w1 w2 h hx
        match i, h with
        | 0, h => exact h
        | 1, h => exact h
        | 2, h => exact h
        | 3, h => exact h
        | 4, h => exact h
        | 5, h => exact h
        | 6, h => exact h
        | 7, h => exact h
        | 8, h => exact h
        | 9, h => exact h
        | 10, h => exact h
        | i + 11, h => trivial
      · intro i hi o ho
        match i, hi, ho with
        | 0, _, ho =>
          obtain rfl := Option.some.inj ho
          intro s W hX hd K hK
          rw [if_pos (wanted_plain rfl)]
          clear hd
          replace hK : ∀ (v : Value) (W' : World), Ext W W' → (v = .int .i64 (k : Int)) → _ := hK
          simp only [mkOf, List.map_cons, List.map_nil, Act.put, List.setIfInBounds_toArray, List.set_cons_succ, List.set_cons_zero, Nat.reduceAdd, Nat.zero_add] at hK ⊢
          go_simp
          exact hK _ _ (Ext.refl _) rfl
        | 1, _, ho =>
          obtain rfl := Option.some.inj ho
          intro s W hX hd K hK
          rw [if_pos (wanted_plain rfl)]
          clear hd
          replace hK : ∀ (v : Value) (W' : World), Ext W W' → (v = .agg KC.toArray) → _ := hK
          simp only [mkOf, List.map_cons, List.map_nil, Act.put, List.setIfInBounds_toArray, List.set_cons_succ, List.set_cons_zero, Nat.reduceAdd, Nat.zero_add] at hK ⊢
          refine wp_load_agg 109 (.tmp 1) rfl _ rfl KC _ Try.underlying109 rfl (key_size HKL.out) (HB0.out.keep hX (by simp)).cells ?_
          exact hK _ _ (Ext.refl _) rfl
        | 2, _, ho =>
          obtain rfl := Option.some.inj ho
          intro s W hX hd K hK
          rw [if_pos (wanted_plain rfl)]
          clear hd
          replace hK : ∀ (v : Value) (W' : World), Ext W W' → (v = .int .i64 (k : Int)) → _ := hK
          simp only [mkOf, List.map_cons, List.map_nil, Act.put, List.setIfInBounds_toArray, List.set_cons_succ, List.set_cons_zero, Nat.reduceAdd, Nat.zero_add] at hK ⊢
          go_simp
          exact hK _ _ (Ext.refl _) rfl
        | 3, _, ho =>
          obtain rfl := Option.some.inj ho
          intro s W hX hd K hK
          rw [if_pos (wanted_plain rfl)]
          have d9 : (s 1) = .agg KC.toArray := hd 1 (by decide) (by decide)
          have d10 : (s 2) = .int .i64 (k : Int) := hd 2 (by decide) (by decide)
          clear hd
          replace hK : ∀ (v : Value) (W' : World), Ext W W' → (v = .agg S0.toArray) → _ := hK
          simp only [mkOf, List.map_cons, List.map_nil, Act.put, List.setIfInBounds_toArray, List.set_cons_succ, List.set_cons_zero, Nat.reduceAdd, Nat.zero_add] at hK ⊢
          simp only [d9, d10] at hK ⊢
          go_simp
          refine (HS0.out _).mono ?_
          rintro e w' ⟨rfl, hx⟩
          exact hK _ _ hx rfl
        | 4, _, ho =>
          obtain rfl := Option.some.inj ho
          intro s W hX hd K hK
          rw [if_pos (wanted_plain rfl)]
          have d11 : (s 3) = .agg S0.toArray := hd 3 (by decide) (by decide)
          clear hd
          replace hK : ∀ (v : Value) (W' : World), Ext W W' → (v = .agg P0.toArray) → _ := hK
          simp only [mkOf, List.map_cons, List.map_nil, Act.put, List.setIfInBounds_toArray, List.set_cons_succ, List.set_cons_zero, Nat.reduceAdd, Nat.zero_add] at hK ⊢
          simp only [d11] at hK ⊢
          go_simp
          refine (HC0.out _).mono ?_
          rintro e w' ⟨rfl, hx⟩
          exact hK _ _ hx rfl
        | 5, _, ho =>
          obtain rfl := Option.some.inj ho
          intro s W hX hd K hK
          rw [if_pos (wanted_plain rfl)]
          clear hd
          replace hK : ∀ (v : Value) (W' : World), Ext W W' → (v = .agg KC.toArray) → _ := hK
          simp only [mkOf, List.map_cons, List.map_nil, Act.put, List.setIfInBounds_toArray, List.set_cons_succ, List.set_cons_zero, Nat.reduceAdd, Nat.zero_add] at hK ⊢
          refine wp_load_agg 109 (.tmp 1) rfl _ rfl KC _ Try.underlying109 rfl (key_size HKL.out) (HB0.out.keep hX (by simp)).cells ?_
          exact hK _ _ (Ext.refl _) rfl
        | 6, _, ho =>
          obtain rfl := Option.some.inj ho
          intro s W hX hd K hK
          rw [if_pos (wanted_plain rfl)]
          clear hd
          replace hK : ∀ (v : Value) (W' : World), Ext W W' → (v = .int .i64 (k : Int)) → _ := hK
          simp only [mkOf, List.map_cons, List.map_nil, Act.put, List.setIfInBounds_toArray, List.set_cons_succ, List.set_cons_zero, Nat.reduceAdd, Nat.zero_add] at hK ⊢
          go_simp
          exact hK _ _ (Ext.refl _) rfl
        | 7, _, ho =>
          obtain rfl := Option.some.inj ho
          intro s W hX hd K hK
          rw [if_pos (wanted_plain rfl)]
          have d13 : (s 5) = .agg KC.toArray := hd 5 (by decide) (by decide)
          have d14 : (s 6) = .int .i64 (k : Int) := hd 6 (by decide) (by decide)
          clear hd
          replace hK : ∀ (v : Value) (W' : World), Ext W W' → (v = .agg S1.toArray) → _ := hK
          simp only [mkOf, List.map_cons, List.map_nil, Act.put, List.setIfInBounds_toArray, List.set_cons_succ, List.set_cons_zero, Nat.reduceAdd, Nat.zero_add] at hK ⊢
          simp only [d13, d14] at hK ⊢
          go_simp
          refine (HS1.out _).mono ?_
          rintro e w' ⟨rfl, hx⟩
          exact hK _ _ hx rfl
        | 8, _, ho =>
          obtain rfl := Option.some.inj ho
          intro s W hX hd K hK
          rw [if_pos (wanted_plain rfl)]
          have d15 : (s 7) = .agg S1.toArray := hd 7 (by decide) (by decide)
          clear hd
          replace hK : ∀ (v : Value) (W' : World), Ext W W' → (v = .agg P1.toArray) → _ := hK
          simp only [mkOf, List.map_cons, List.map_nil, Act.put, List.setIfInBounds_toArray, List.set_cons_succ, List.set_cons_zero, Nat.reduceAdd, Nat.zero_add] at hK ⊢
          simp only [d15] at hK ⊢
          go_simp
          refine (HC1.out _).mono ?_
          rintro e w' ⟨rfl, hx⟩
          exact hK _ _ hx rfl
        | 9, _, ho =>
          obtain rfl := Option.some.inj ho
          intro s W hX hd K hK
          rw [if_pos (wanted_plain rfl)]
          have d12 : (s 4) = .agg P0.toArray := hd 4 (by decide) (by decide)
          have d16 : (s 8) = .agg P1.toArray := hd 8 (by decide) (by decide)
          clear hd
          replace hK : ∀ (v : Value) (W' : World), Ext W W' → (v = .agg PP.toArray) → _ := hK
          simp only [mkOf, List.map_cons, List.map_nil, Act.put, List.setIfInBounds_toArray, List.set_cons_succ, List.set_cons_zero, Nat.reduceAdd, Nat.zero_add] at hK ⊢
          simp only [d12, d16] at hK ⊢
          refine wp_build_arr 131 #[(0, .tmp 12), (1, .tmp 16)] rfl 2 64 16 D PP [(0, P0), (1, P1)] Try.underlying131 hzt (piece_size rfl) (by simp [Value.cells, Act.eval]) HFL.out ?_
          exact hK _ _ (Ext.refl _) rfl
        | 10, _, ho =>
          obtain rfl := Option.some.inj ho
          intro s W hX hd K hK
          rw [if_pos (wanted_plain rfl)]
          have d8 : (s 0) = .int .i64 (k : Int) := hd 0 (by decide) (by decide)
          clear hd
          replace hK : ∀ (v : Value) (W' : World), Ext W W' → (v = .pointer (some ⟨g, k * 32, none⟩)) → _ := hK
          simp only [mkOf, List.map_cons, List.map_nil, Act.put, List.setIfInBounds_toArray, List.set_cons_succ, List.set_cons_zero, Nat.reduceAdd, Nat.zero_add] at hK ⊢
          simp only [d8] at hK ⊢
          go_simp
          exact hK _ _ (Ext.refl _) rfl
        | i + 11, hi, _ => exact absurd hi (by simp)
      · intro o ho
        obtain rfl := Option.some.inj ho
        intro s W hX hd K hK
        rw [if_pos (wanted_plain rfl)]
        have d8 : (s 0) = .int .i64 (k : Int) := hd 0 (by decide)
        have d9 : (s 1) = .agg KC.toArray := hd 1 (by decide)
        have d10 : (s 2) = .int .i64 (k : Int) := hd 2 (by decide)
        have d11 : (s 3) = .agg S0.toArray := hd 3 (by decide)
        have d12 : (s 4) = .agg P0.toArray := hd 4 (by decide)
        have d13 : (s 5) = .agg KC.toArray := hd 5 (by decide)
        have d14 : (s 6) = .int .i64 (k : Int) := hd 6 (by decide)
        have d15 : (s 7) = .agg S1.toArray := hd 7 (by decide)
        have d16 : (s 8) = .agg P1.toArray := hd 8 (by decide)
        have d17 : (s 9) = .agg PP.toArray := hd 9 (by decide)
        have d18 : (s 10) = .pointer (some ⟨g, k * 32, none⟩) := hd 10 (by decide)
        clear hd
        simp only [mkOf, List.map_cons, List.map_nil, Act.put, List.setIfInBounds_toArray, List.set_cons_succ, List.set_cons_zero, Nat.reduceAdd, Nat.zero_add]
        refine wp_store_part W 131 (.tmp 18) (.tmp 17) rfl g (k * 32) (by simpa [Act.eval] using d18) (LL k) PP _ (by simpa [Act.eval] using d17) (HB2.out.keep hX (by simp)) (two_size HPL.out) (by rw [HLL.out, HPL.out]; omega) hpo ?_
        refine hK _ _ ?_
        have hx2 : Ext w W := HX.out.trans ((Ext.refl wr).drew.trans hX)
        have hx9 : Ext w (W.setRow g (putAt (LL k) (k * 32) PP).toArray) := setRow_grown hx2 _ _ (by have := HG.out; omega)
        have hb0 : Blk (W.setRow g (putAt (LL k) (k * 32) PP).toArray) w.heap.size 109 KC := (HB0.out.keep hX (by simp)).keep (setRow_only _) (by have := HG.out; simp; omega)
        have hb1 : Blk (W.setRow g (putAt (LL k) (k * 32) PP).toArray) (w.heap.size + 1) 52 D := ((HB1.out.keep (Ext.refl wr).drew (by simp)).keep hX (by simp)).keep (setRow_only _) (by have := HG.out; simp; omega)
        have hb2 : Blk (W.setRow g (putAt (LL k) (k * 32) PP).toArray) g 132 (LL (k + 1)) := by rw [← HSTK.out]; exact setRow_at (HB2.out.keep hX (by simp))
        generalize W.setRow g (putAt (LL k) (k * 32) PP).toArray = V at *
        have hge := HG.out
        subst hge
        have HX9 := Lib.hid hx9
        have HB90 := Lib.hid hb0
        have HB91 := Lib.hid hb1
        have HB92 := Lib.hid hb2
        clear hx9 hb0 hb1 hb2 hX hK hx2
        (try simp only [Exit.then])
        go_wp2_with fail
        go_roundw
        case rel => exact ⟨k + 1, by omega, by go_num, HX9.out, HB90.out, HB91.out, HB92.out⟩
        case measure => simp [intOf]; omega
    · obtain rfl : k = 32 := by omega
      rw [HL32.out] at hb2
      have hcm := hb2.cells
      have HX := Lib.hid hx
      have HB1 := Lib.hid hb1
      clear hx hb0 hb1 hb2
      go_wp2_with (first
        | (refine wpList_load_agg _ rfl 132 (.tmp 3) rfl _ rfl AL _ Try.underlying132 rfl (all_size HAL.out) hcm ?_)
        | fail)
      refine (HLF.out _).mono ?_
      rintro e w4 ⟨rfl, hx4⟩
      have hr4 : w4.heap[w.heap.size + 1]? = some (.cells D.toArray 52 (0, 0)) := HB1.out.keep hx4 (by simp)
      have hx5 := HX.out.trans hx4
      go_wp2_with (first
        | (refine wpList_store_row _ rfl 52 (.tmp 2) (.tmp 21) rfl (w.heap.size + 1) rfl D R _ rfl hr4 (digest_size HRL.out) (by rw [HRL.out, HDL.out]) hro ?_)
        | fail)
      have hc9 := Blk.cells (t := 52) (setRow_at (cs' := R.toArray) hr4)
      (try simp only [Exit.inBlock, Exit.then])
      refine bodyPost_ret (results_agg rfl _ _ _ _ _ rfl Try.underlying52 rfl (digest_size HRL.out) hc9) rfl ?_
      exact ⟨rfl, setRow_grown hx5 _ _ (by omega)⟩
end
end Go.Proofs.Ytmicjaiiinaipaa

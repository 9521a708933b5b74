/- Walks and plain laws, put together in build order. Conditions: what each of them names. -/
import Derived.Test.YtfoomnibfibfnaaW5e818cbb41
set_option linter.unusedVariables false
set_option linter.unusedSimpArgs false
set_option linter.unnecessarySimpa false
namespace Go.Proofs.Ytfoomnibfibfnaa
section
open Go.RowKit

section
variable {P : Program} {w : World}
theorem wp_load_agg {o : Oper} {a : Act} {K : Act → World → Prop} {Q : Exit → Act → World → Prop} (ty : TypeId) (x : Operand) (ho : o.op = .load ty x)
    (ad : Addr) (hx : a.eval x = .pointer (some ad)) (cs : List Value) (d : TypeDesc) (hu : P.underlying ty = some d) (hd : isAggD d = true) (hi : (P.info? ty).map (·.size) = some cs.length) (hc : Cells w ad cs)
    (h : K (a.put o.dst (.agg cs.toArray)) w) : o.wp P a w K Q := by
  unfold Oper.wp execOp
  simp only [ho, hx, Instr.loadAt, Instr.sureAddr, Sem.run_bind, Sem.run_pure, Result.andThen_ok, run_load_agg w ty ad cs d hu hd hi hc]
  exact h
theorem run_build_arr (w : World) (t : TypeId) (parts : Array (Nat × Value)) (n : Nat) (e : TypeId) (size : Nat) (z r : List Value) (segs : List (Nat × List Value)) (hu : P.underlying t = some (.array n e))
    (hz : (P.info? t).bind (fun i => i.zero.map (·.cells)) = some z.toArray) (hsz : (P.info? e).map (·.size) = some size)
    (hs : parts.toList.map (fun p => (p.1, p.2.cells)) = segs.map (fun p => (p.1, p.2.toArray))) (hf : fillL (fun i => some (i * size, size)) z segs = some r) : (Instr.build t parts).run P w = .ok (.agg r.toArray) w := by
  obtain ⟨i, hi, hzz⟩ := Option.bind_eq_some_iff.1 hz
  obtain ⟨zv, hzv, hzc⟩ := Option.map_eq_some_iff.1 hzz
  obtain ⟨j, hj, rfl⟩ := Option.map_eq_some_iff.1 hsz
  have hfs := fill_segs (fun i => some (i * j.size, j.size)) parts.toList segs z r hs hf
  unfold Instr.build
  rw [Sem.run_bind]
  simp [zeroValue, typeInfo, hi, hzv, run_underlying hu, sizeOf, hj, hzc, hfs]
theorem wp_build_arr {o : Oper} {a : Act} {K : Act → World → Prop} {Q : Exit → Act → World → Prop} (t : TypeId) (parts : Array (Nat × Operand)) (ho : o.op = .build t parts) (n : Nat) (e : TypeId) (size : Nat) (z r : List Value) (segs : List (Nat × List Value)) (hu : P.underlying t = some (.array n e))
    (hz : (P.info? t).bind (fun i => i.zero.map (·.cells)) = some z.toArray) (hsz : (P.info? e).map (·.size) = some size)
    (hs : (parts.map fun p => (p.1, a.eval p.2)).toList.map (fun p => (p.1, p.2.cells)) = segs.map (fun p => (p.1, p.2.toArray))) (hf : fillL (fun i => some (i * size, size)) z segs = some r)
    (h : K (a.put o.dst (.agg r.toArray)) w) : o.wp P a w K Q := by
  unfold Oper.wp execOp
  simp only [ho, Sem.run_bind, run_build_arr w t _ n e size z r segs hu hz hsz hs hf, Result.andThen_ok, Sem.run_pure]
  exact h
end
theorem all_zero : (Try.prog.info? 72).bind (fun i => i.zero.map (·.cells)) = some (List.replicate 1024 (Value.int .u8 0)).toArray := by kernel_rfl
/-- The first k rows, then zeros. -/
def rowsC (f : Nat → List UInt8) (Z : List Value) (k : Nat) : List Value := bv (piecesM f k) ++ Z.drop (k * 32)
theorem rowsC_len {f : Nat → List UInt8} (hf : ∀ k, (f k).length = 32) {Z : List Value} (hz : Z.length = 1024) {k : Nat} (hk : k ≤ 32) : (rowsC f Z k).length = 1024 := by
  unfold rowsC; rw [List.length_append, bv_length, piecesM_length hf, List.length_drop, hz]; omega
theorem rowsC_step {f : Nat → List UInt8} (hf : ∀ k, (f k).length = 32) {Z : List Value} (hz : Z.length = 1024) {k : Nat} (hk : k < 32) : putAt (rowsC f Z k) (k * 32) (bv (f k)) = rowsC f Z (k + 1) := by
  have h1 : (bv (piecesM f k)).length = k * 32 := by rw [bv_length, piecesM_length hf, Nat.mul_comm]
  have h2 : (bv (f k)).length = 32 := by rw [bv_length, hf]
  unfold putAt rowsC
  rw [h2, List.take_left' h1, ← List.drop_drop, List.drop_left' h1, List.drop_drop, piecesM_succ, bv_append, Nat.succ_mul]
set_option maxRecDepth 100000 in
set_option maxHeartbeats 4000000 in
theorem KLeaf (seed : List UInt8) (hs : seed.length = 32) (n : Nat) (hn : (Lit.int .u32 (n : Int)).wf = true) (w : World) :
    Calls Try.prog 11 #[.agg (keyC seed n).toArray] w fun e w' => e = .returned (.agg (bv (leafM seed n)).toArray) ∧ Ext w w' := by
  have hzd := digest_zero
  have hzt := two_zero
  have hdl : (bv (List.replicate 32 0)).length = 32 := by simp
  generalize bv (List.replicate 32 0) = D at hzd hzt hdl
  obtain ⟨Z, hz, hzl⟩ : ∃ Z : List Value, (Try.prog.info? 72).bind (fun i => i.zero.map (·.cells)) = some Z.toArray ∧ Z.length = 1024 := ⟨_, all_zero, List.length_replicate⟩
  have hlf := fun W => LeafW (allM seed n) (piecesM_length (f := rowM seed n) (fun k => rowM_length _ _ _) 32) W
  have hll := fun k (h : k ≤ 32) => rowsC_len (f := rowM seed n) (fun k => rowM_length _ _ _) hzl h
  have hst := fun k (h : k < 32) => rowsC_step (f := rowM seed n) (fun k => rowM_length _ _ _) hzl h
  have hl0 : rowsC (rowM seed n) Z 0 = Z := by simp [rowsC, piecesM, bv]
  have hl32 : rowsC (rowM seed n) Z 32 = bv (allM seed n) := by
    have : Z.drop (32 * 32) = [] := List.drop_of_length_le (by rw [hzl]; decide)
    unfold rowsC allM
    rw [this, List.append_nil]
    rfl
  have hkl := keyC_len hs n
  have hsec := fun (k : Nat) (hk : k < 32) (bt : Nat) (hbt : bt < 2) (x : Int) (hx : x = (bt : Int)) W => Secret_i seed hs n hn k hk bt hbt x hx W
  have hrl : (bv (leafM seed n)).length = 32 := by rw [bv_length]; exact leafOf_length _
  have hro := bv_one (leafM seed n)
  have hlm : leafOf (allM seed n) = leafM seed n := rfl
  rw [hlm] at hlf
  generalize bv (leafM seed n) = R at *
  have hal : (bv (allM seed n)).length = 1024 := by rw [bv_length]; exact piecesM_length (f := rowM seed n) (fun k => rowM_length _ _ _) 32
  generalize bv (allM seed n) = AL at *
  have hb0 : Blk (((w.alloc (.cells (keyC seed n).toArray 28)).alloc (.cells D.toArray 31)).alloc (.cells Z.toArray 72)) w.heap.size 28 (keyC seed n) := ((Blk.new _ _ _).keep ((Ext.refl _).alloc _) (by simp)).keep ((Ext.refl _).alloc _) (by simp)
  have hb1 : Blk (((w.alloc (.cells (keyC seed n).toArray 28)).alloc (.cells D.toArray 31)).alloc (.cells Z.toArray 72)) (w.heap.size + 1) 31 D := (Blk.fresh (by simp) _ _).keep ((Ext.refl _).alloc _) (by simp)
  have hb2 : Blk (((w.alloc (.cells (keyC seed n).toArray 28)).alloc (.cells D.toArray 31)).alloc (.cells Z.toArray 72)) (w.heap.size + 1 + 1) 72 Z := Blk.fresh (by simp) _ _
  have hx0 : Ext w (((w.alloc (.cells (keyC seed n).toArray 28)).alloc (.cells D.toArray 31)).alloc (.cells Z.toArray 72)) := (((Ext.refl w).alloc _).alloc _).alloc _
  obtain ⟨LL, hLL⟩ : ∃ LL, LL = rowsC (rowM seed n) Z := ⟨_, rfl⟩
  rw [← hLL] at hl0 hl32 hll hst
  generalize keyC seed n = KC at *
  have HB0 := Lib.hid hb0
  have HB1 := Lib.hid hb1
  have HB2 := Lib.hid hb2
  have HX0 := Lib.hid hx0
  have HL0 := Lib.hid hl0
  have HL32 := Lib.hid hl32
  have HLLN := Lib.hid hll
  have HST := Lib.hid hst
  have HKL := Lib.hid hkl
  have HSEC := Lib.hid hsec
  have HLF := Lib.hid hlf
  have HRL := Lib.hid hrl
  have HAL := Lib.hid hal
  have HDL := Lib.hid hdl
  clear hb0 hb1 hb2 hx0 hl0 hl32 hll hst hkl hsec hlf hrl hdl hLL hlm hal hzl
  go_enter Try.func11, Try.ntmps11
  go_wp2_with (first
    | (refine wpList_alloc _ rfl 31 rfl _ hzd ?_)
    | (refine wpList_alloc _ rfl 72 rfl _ hz ?_)
    | fail)
  go_loopw [4, 5] (fun p i wr => ∃ k : Nat, k ≤ 32 ∧ i = .int .i64 k ∧ Ext w wr ∧ Blk wr w.heap.size 28 KC ∧ Blk wr (w.heap.size + 1) 31 D ∧ Blk wr (w.heap.size + 1 + 1) 72 (LL k)) (fun _ i _ => 32 - (intOf i).toNat)
  case atStart => exact ⟨0, by omega, rfl, HX0.out, HB0.out, HB1.out, by rw [HL0.out]; exact HB2.out⟩
  case round =>
    clear HX0 HB0 HB1 HB2
    obtain ⟨k, hk, rfl, hx, hb0, hb1, hb2⟩ := hrel
    by_cases hlt : k < 32
    · have hs0 := fun W => HSEC.out k hlt 0 (by decide) 0 rfl W
      have hs1 := fun W => HSEC.out k hlt 1 (by decide) 1 rfl W
      have hc0 := fun W => Cover (secretM seed n k 0) (secretM_length _ _ _ _) W
      have hc1 := fun W => Cover (secretM seed n k 1) (secretM_length _ _ _ _) W
      have hl0 : (bv (coverM (secretM seed n k 0))).length = 16 := by rw [bv_length, coverM_length]
      have hl1 : (bv (coverM (secretM seed n k 1))).length = 16 := by rw [bv_length, coverM_length]
      have hpl : (bv (rowM seed n k)).length = 32 := by rw [bv_length, rowM_length]
      have hpo := bv_one (rowM seed n k)
      have hpe : bv (rowM seed n k) = bv (coverM (secretM seed n k 0)) ++ bv (coverM (secretM seed n k 1)) := by unfold rowM; rw [bv_append]
      have hstk := HST.out k hlt
      generalize bv (secretM seed n k 0) = S0 at *
      generalize bv (secretM seed n k 1) = S1 at *
      generalize bv (coverM (secretM seed n k 0)) = P0 at *
      generalize bv (coverM (secretM seed n k 1)) = P1 at *
      generalize bv (rowM seed n k) = PP at *
      have hfl : fillL (fun i => some (i * 16, 16)) D [(0, P0), (1, P1)] = some PP := by
        have hd := HDL.out
        rw [hpe]
        simp [fillL, hl0, hl1, hd]
      have HS0 := Lib.hid hs0
      have HS1 := Lib.hid hs1
      have HC0 := Lib.hid hc0
      have HC1 := Lib.hid hc1
      have HFL := Lib.hid hfl
      have HPL := Lib.hid hpl
      have HSTK := Lib.hid hstk
      have HLL : Hid ((LL k).length = 1024) := Lib.hid (HLLN.out k (by omega))
      have HX := Lib.hid hx
      have HB0 : Hid (Blk wr.drew w.heap.size 28 KC) := Lib.hid hb0
      have HB1 := Lib.hid hb1
      have HB2 : Hid (Blk wr.drew (w.heap.size + 1 + 1) 72 (LL k)) := Lib.hid hb2
      clear hs0 hs1 hc0 hc1 hfl hpl hpe hstk hx hb0 hb1 hb2 hl0 hl1
      go_wp2_with fail
      generalize hg : w.heap.size + 1 + 1 = g at *
      have HG := Lib.hid hg
      have hdk : decide ((k : Int) < 32) = true := by rw [decide_eq_true_iff]; omega
      simp only [hdk]
      clear hg hdk
      refine stab_store Ext ext_refl ext_trans [[0], [1], [2], [1, 2, 3], [1, 2, 3, 4], [5], [6], [1, 2, 3, 4, 5, 6, 7], [1, 2, 3, 4, 5, 6, 7, 8], [1, 2, 3, 4, 5, 6, 7, 8, 9], [0, 1, 2, 3, 4, 5, 6, 7, 8, 9, 10], [0, 1, 2, 3, 4, 5, 6, 7, 8, 9, 10, 11]] (fun i v wv => match i with | 0 => v = .int .i64 (k : Int) | 1 => v = .agg KC.toArray | 2 => v = .int .i64 (k : Int) | 3 => v = .agg S0.toArray | 4 => v = .agg P0.toArray | 5 => v = .agg KC.toArray | 6 => v = .int .i64 (k : Int) | 7 => v = .agg S1.toArray | 8 => v = .agg P1.toArray | 9 => v = .agg PP.toArray | 10 => v = .pointer (some ⟨g, k * 32, none⟩) | _ => True) (by kernel_rfl) (by kernel_rfl) (by kernel_rfl) (by kernel_rfl) (by simp) ?_ ?_ ?_
      · intro i v w1 w2 h hx
        match i, h with
        | 0, h => exact h
        | 1, h => exact h
        | 2, h => exact h
        | 3, h => exact h
        | 4, h => exact h
        | 5, h => exact h
        | 6, h => exact h
        | 7, h => exact h
        | 8, h => exact h
        | 9, h => exact h
        | 10, h => exact h
        | i + 11, h => trivial
      · intro i hi o ho
        match i, hi, ho with
        | 0, _, ho =>
          obtain rfl := Option.some.inj ho
          intro s W hX hd K hK
          rw [if_pos (wanted_plain rfl)]
          clear hd
          replace hK : ∀ (v : Value) (W' : World), Ext W W' → (v = .int .i64 (k : Int)) → _ := hK
          simp only [mkOf, List.map_cons, List.map_nil, Act.put, List.setIfInBounds_toArray, List.set_cons_succ, List.set_cons_zero, Nat.reduceAdd, Nat.zero_add] at hK ⊢
          go_simp
          exact hK _ _ (Ext.refl _) rfl
        | 1, _, ho =>
          obtain rfl := Option.some.inj ho
          intro s W hX hd K hK
          rw [if_pos (wanted_plain rfl)]
          clear hd
          replace hK : ∀ (v : Value) (W' : World), Ext W W' → (v = .agg KC.toArray) → _ := hK
          simp only [mkOf, List.map_cons, List.map_nil, Act.put, List.setIfInBounds_toArray, List.set_cons_succ, List.set_cons_zero, Nat.reduceAdd, Nat.zero_add] at hK ⊢
          refine wp_load_agg 28 (.tmp 1) rfl _ rfl KC _ Try.underlying28 rfl (key_size HKL.out) (HB0.out.keep hX (by simp)).cells ?_
          exact hK _ _ (Ext.refl _) rfl
        | 2, _, ho =>
          obtain rfl := Option.some.inj ho
          intro s W hX hd K hK
          rw [if_pos (wanted_plain rfl)]
          clear hd
          replace hK : ∀ (v : Value) (W' : World), Ext W W' → (v = .int .i64 (k : Int)) → _ := hK
          simp only [mkOf, List.map_cons, List.map_nil, Act.put, List.setIfInBounds_toArray, List.set_cons_succ, List.set_cons_zero, Nat.reduceAdd, Nat.zero_add] at hK ⊢
          go_simp
          exact hK _ _ (Ext.refl _) rfl
        | 3, _, ho =>
          obtain rfl := Option.some.inj ho
          intro s W hX hd K hK
          rw [if_pos (wanted_plain rfl)]
          have d9 : (s 1) = .agg KC.toArray := hd 1 (by decide) (by decide)
          have d10 : (s 2) = .int .i64 (k : Int) := hd 2 (by decide) (by decide)
          clear hd
          replace hK : ∀ (v : Value) (W' : World), Ext W W' → (v = .agg S0.toArray) → _ := hK
          simp only [mkOf, List.map_cons, List.map_nil, Act.put, List.setIfInBounds_toArray, List.set_cons_succ, List.set_cons_zero, Nat.reduceAdd, Nat.zero_add] at hK ⊢
          simp only [d9, d10] at hK ⊢
          go_simp
          refine (HS0.out _).mono ?_
          rintro e w' ⟨rfl, hx⟩
          exact hK _ _ hx rfl
        | 4, _, ho =>
          obtain rfl := Option.some.inj ho
          intro s W hX hd K hK
          rw [if_pos (wanted_plain rfl)]
          have d11 : (s 3) = .agg S0.toArray := hd 3 (by decide) (by decide)
          clear hd
          replace hK : ∀ (v : Value) (W' : World), Ext W W' → (v = .agg P0.toArray) → _ := hK
          simp only [mkOf, List.map_cons, List.map_nil, Act.put, List.setIfInBounds_toArray, List.set_cons_succ, List.set_cons_zero, Nat.reduceAdd, Nat.zero_add] at hK ⊢
          simp only [d11] at hK ⊢
          go_simp
          refine (HC0.out _).mono ?_
          rintro e w' ⟨rfl, hx⟩
          exact hK _ _ hx rfl
        | 5, _, ho =>
          obtain rfl := Option.some.inj ho
          intro s W hX hd K hK
          rw [if_pos (wanted_plain rfl)]
          clear hd
          replace hK : ∀ (v : Value) (W' : World), Ext W W' → (v = .agg KC.toArray) → _ := hK
          simp only [mkOf, List.map_cons, List.map_nil, Act.put, List.setIfInBounds_toArray, List.set_cons_succ, List.set_cons_zero, Nat.reduceAdd, Nat.zero_add] at hK ⊢
          refine wp_load_agg 28 (.tmp 1) rfl _ rfl KC _ Try.underlying28 rfl (key_size HKL.out) (HB0.out.keep hX (by simp)).cells ?_
          exact hK _ _ (Ext.refl _) rfl
        | 6, _, ho =>
          obtain rfl := Option.some.inj ho
          intro s W hX hd K hK
          rw [if_pos (wanted_plain rfl)]
          clear hd
          replace hK : ∀ (v : Value) (W' : World), Ext W W' → (v = .int .i64 (k : Int)) → _ := hK
          simp only [mkOf, List.map_cons, List.map_nil, Act.put, List.setIfInBounds_toArray, List.set_cons_succ, List.set_cons_zero, Nat.reduceAdd, Nat.zero_add] at hK ⊢
          go_simp
          exact hK _ _ (Ext.refl _) rfl
        | 7, _, ho =>
          obtain rfl := Option.some.inj ho
          intro s W hX hd K hK
          rw [if_pos (wanted_plain rfl)]
          have d13 : (s 5) = .agg KC.toArray := hd 5 (by decide) (by decide)
          have d14 : (s 6) = .int .i64 (k : Int) := hd 6 (by decide) (by decide)
          clear hd
          replace hK : ∀ (v : Value) (W' : World), Ext W W' → (v = .agg S1.toArray) → _ := hK
          simp only [mkOf, List.map_cons, List.map_nil, Act.put, List.setIfInBounds_toArray, List.set_cons_succ, List.set_cons_zero, Nat.reduceAdd, Nat.zero_add] at hK ⊢
          simp only [d13, d14] at hK ⊢
          go_simp
          refine (HS1.out _).mono ?_
          rintro e w' ⟨rfl, hx⟩
          exact hK _ _ hx rfl
        | 8, _, ho =>
          obtain rfl := Option.some.inj ho
          intro s W hX hd K hK
          rw [if_pos (wanted_plain rfl)]
          have d15 : (s 7) = .agg S1.toArray := hd 7 (by decide) (by decide)
          clear hd
          replace hK : ∀ (v : Value) (W' : World), Ext W W' → (v = .agg P1.toArray) → _ := hK
          simp only [mkOf, List.map_cons, List.map_nil, Act.put, List.setIfInBounds_toArray, List.set_cons_succ, List.set_cons_zero, Nat.reduceAdd, Nat.zero_add] at hK ⊢
          simp only [d15] at hK ⊢
          go_simp
          refine (HC1.out _).mono ?_
          rintro e w' ⟨rfl, hx⟩
          exact hK _ _ hx rfl
        | 9, _, ho =>
          obtain rfl := Option.some.inj ho
          intro s W hX hd K hK
          rw [if_pos (wanted_plain rfl)]
          have d12 : (s 4) = .agg P0.toArray := hd 4 (by decide) (by decide)
          have d16 : (s 8) = .agg P1.toArray := hd 8 (by decide) (by decide)
          clear hd
          replace hK : ∀ (v : Value) (W' : World), Ext W W' → (v = .agg PP.toArray) → _ := hK
          simp only [mkOf, List.map_cons, List.map_nil, Act.put, List.setIfInBounds_toArray, List.set_cons_succ, List.set_cons_zero, Nat.reduceAdd, Nat.zero_add] at hK ⊢
          simp only [d12, d16] at hK ⊢
          refine wp_build_arr 71 #[(0, .tmp 12), (1, .tmp 16)] rfl 2 40 16 D PP [(0, P0), (1, P1)] Try.underlying71 hzt (piece_size rfl) (by simp [Value.cells, Act.eval]) HFL.out ?_
          exact hK _ _ (Ext.refl _) rfl
        | 10, _, ho =>
          obtain rfl := Option.some.inj ho
          intro s W hX hd K hK
          rw [if_pos (wanted_plain rfl)]
          have d8 : (s 0) = .int .i64 (k : Int) := hd 0 (by decide) (by decide)
          clear hd
          replace hK : ∀ (v : Value) (W' : World), Ext W W' → (v = .pointer (some ⟨g, k * 32, none⟩)) → _ := hK
          simp only [mkOf, List.map_cons, List.map_nil, Act.put, List.setIfInBounds_toArray, List.set_cons_succ, List.set_cons_zero, Nat.reduceAdd, Nat.zero_add] at hK ⊢
          simp only [d8] at hK ⊢
          go_simp
          exact hK _ _ (Ext.refl _) rfl
        | i + 11, hi, _ => exact absurd hi (by simp)
      · intro o ho
        obtain rfl := Option.some.inj ho
        intro s W hX hd K hK
        rw [if_pos (wanted_plain rfl)]
        have d8 : (s 0) = .int .i64 (k : Int) := hd 0 (by decide)
        have d9 : (s 1) = .agg KC.toArray := hd 1 (by decide)
        have d10 : (s 2) = .int .i64 (k : Int) := hd 2 (by decide)
        have d11 : (s 3) = .agg S0.toArray := hd 3 (by decide)
        have d12 : (s 4) = .agg P0.toArray := hd 4 (by decide)
        have d13 : (s 5) = .agg KC.toArray := hd 5 (by decide)
        have d14 : (s 6) = .int .i64 (k : Int) := hd 6 (by decide)
        have d15 : (s 7) = .agg S1.toArray := hd 7 (by decide)
        have d16 : (s 8) = .agg P1.toArray := hd 8 (by decide)
        have d17 : (s 9) = .agg PP.toArray := hd 9 (by decide)
        have d18 : (s 10) = .pointer (some ⟨g, k * 32, none⟩) := hd 10 (by decide)
        clear hd
        simp only [mkOf, List.map_cons, List.map_nil, Act.put, List.setIfInBounds_toArray, List.set_cons_succ, List.set_cons_zero, Nat.reduceAdd, Nat.zero_add]
        refine wp_store_part W 71 (.tmp 18) (.tmp 17) rfl g (k * 32) (by simpa [Act.eval] using d18) (LL k) PP _ (by simpa [Act.eval] using d17) (HB2.out.keep hX (by simp)) (two_size HPL.out) (by rw [HLL.out, HPL.out]; omega) hpo ?_
        refine hK _ _ ?_
        have hx2 : Ext w W := HX.out.trans ((Ext.refl wr).drew.trans hX)
        have hx9 : Ext w (W.setRow g (putAt (LL k) (k * 32) PP).toArray) := setRow_grown hx2 _ _ (by have := HG.out; omega)
        have hb0 : Blk (W.setRow g (putAt (LL k) (k * 32) PP).toArray) w.heap.size 28 KC := (HB0.out.keep hX (by simp)).keep (setRow_only _) (by have := HG.out; simp; omega)
        have hb1 : Blk (W.setRow g (putAt (LL k) (k * 32) PP).toArray) (w.heap.size + 1) 31 D := ((HB1.out.keep (Ext.refl wr).drew (by simp)).keep hX (by simp)).keep (setRow_only _) (by have := HG.out; simp; omega)
        have hb2 : Blk (W.setRow g (putAt (LL k) (k * 32) PP).toArray) g 72 (LL (k + 1)) := by rw [← HSTK.out]; exact setRow_at (HB2.out.keep hX (by simp))
        generalize W.setRow g (putAt (LL k) (k * 32) PP).toArray = V at *
        have hge := HG.out
        subst hge
        have HX9 := Lib.hid hx9
        have HB90 := Lib.hid hb0
        have HB91 := Lib.hid hb1
        have HB92 := Lib.hid hb2
        clear hx9 hb0 hb1 hb2 hX hK hx2
        (try simp only [Exit.then])
        go_wp2_with fail
        go_roundw
        case rel => exact ⟨k + 1, by omega, by go_num, HX9.out, HB90.out, HB91.out, HB92.out⟩
        case measure => simp [intOf]; omega
    · obtain rfl : k = 32 := by omega
      rw [HL32.out] at hb2
      have hcm := hb2.cells
      have HX := Lib.hid hx
      have HB1 := Lib.hid hb1
      clear hx hb0 hb1 hb2
      go_wp2_with (first
        | (refine wpList_load_agg _ rfl 72 (.tmp 3) rfl _ rfl AL _ Try.underlying72 rfl (all_size HAL.out) hcm ?_)
        | fail)
      refine (HLF.out _).mono ?_
      rintro e w4 ⟨rfl, hx4⟩
      have hr4 : w4.heap[w.heap.size + 1]? = some (.cells D.toArray 31 (0, 0)) := HB1.out.keep hx4 (by simp)
      have hx5 := HX.out.trans hx4
      go_wp2_with (first
        | (refine wpList_store_row _ rfl 31 (.tmp 2) (.tmp 21) rfl (w.heap.size + 1) rfl D R _ rfl hr4 (digest_size HRL.out) (by rw [HRL.out, HDL.out]) hro ?_)
        | fail)
      have hc9 := Blk.cells (t := 31) (setRow_at (cs' := R.toArray) hr4)
      (try simp only [Exit.inBlock, Exit.then])
      refine bodyPost_ret (results_agg rfl _ _ _ _ _ rfl Try.underlying31 rfl (digest_size HRL.out) hc9) rfl ?_
      exact ⟨rfl, setRow_grown hx5 _ _ (by omega)⟩
end
section
open Go.RowKit

/-- What a signature's k-th pieces come to. -/
def rowS (S d : List UInt8) (k : Nat) : List UInt8 := rowFrom (bitM d k) ((S.drop (k * 16)).take 16) ((S.drop (512 + k * 16)).take 16)
def fromS (S d : List UInt8) : List UInt8 := leafOf (piecesM (rowS S d) 32)
theorem rowFrom_length {b : Nat} {op ot : List UInt8} (h : ot.length = 16) : (rowFrom b op ot).length = 32 := by
  unfold rowFrom
  split <;> rw [List.length_append, coverM_length, h]
theorem putAt_mid (pre T X : List Value) {n m : Nat} (hn : pre.length = n) (hm : X.length = m) : putAt (pre ++ T) n X = pre ++ X ++ T.drop m := by
  subst hn; subst hm
  unfold putAt
  rw [List.take_left' rfl, ← List.drop_drop, List.drop_left' rfl]
theorem rows_two (f : Nat → List UInt8) {Z X Y : List Value} {k b c : Nat} (hpl : (bv (piecesM f k)).length = k * 32) (hz : Z.length = 1024) (hk : k < 32) (hX : X.length = 16) (hY : Y.length = 16) (hbc : b + c = 1) (hf : bv (f k) = if b = 0 then X ++ Y else Y ++ X) :
    putAt (putAt (rowsC f Z k) (k * 32 + b * 16) X) (k * 32 + c * 16) Y = rowsC f Z (k + 1) := by
  have hT : (Z.drop (k * 32)).drop 32 = Z.drop ((k + 1) * 32) := by rw [List.drop_drop, Nat.succ_mul]
  have hTl : 32 ≤ (Z.drop (k * 32)).length := by rw [List.length_drop, hz]; omega
  unfold rowsC
  rw [piecesM_succ, bv_append, ← hT, hf]
  generalize bv (piecesM f k) = pre at *
  generalize Z.drop (k * 32) = T at *
  rcases (show b = 0 ∧ c = 1 ∨ b = 1 ∧ c = 0 by omega) with ⟨rfl, rfl⟩ | ⟨rfl, rfl⟩
  · rw [show k * 32 + 0 * 16 = k * 32 by omega, putAt_mid pre T X hpl hX, show k * 32 + 1 * 16 = k * 32 + 16 by omega, putAt_mid (pre ++ X) _ Y (by rw [List.length_append, hpl, hX]) hY, List.drop_drop, if_pos rfl]
    simp [List.append_assoc]
  · have e : pre ++ T = (pre ++ T.take 16) ++ T.drop 16 := by rw [List.append_assoc, List.take_append_drop]
    rw [show k * 32 + 1 * 16 = k * 32 + 16 by omega, e, putAt_mid (pre ++ T.take 16) _ X (by rw [List.length_append, hpl, List.length_take]; omega) hX, show k * 32 + 0 * 16 = k * 32 by omega, List.drop_drop, List.append_assoc, List.append_assoc, putAt_mid pre _ Y hpl hY, if_neg (by decide)]
    rw [List.drop_left' (by rw [List.length_take]; omega)]
    simp [List.append_assoc]
set_option maxRecDepth 100000 in
set_option maxHeartbeats 4000000 in
theorem From (S : List UInt8) (hS : S.length = 1024) (d : List UInt8) (hd : d.length = 32) (w : World) :
    Calls Try.prog 17 #[.agg (bv S).toArray, .agg (bv d).toArray] w fun e w' => e = .returned (.agg (bv (fromS S d)).toArray) ∧ Ext w w' := by
  have hzd := digest_zero
  have hdl0 : (bv (List.replicate 32 0)).length = 32 := by simp
  generalize bv (List.replicate 32 0) = D at hzd hdl0
  obtain ⟨Z, hz, hzl⟩ : ∃ Z : List Value, (Try.prog.info? 72).bind (fun i => i.zero.map (·.cells)) = some Z.toArray ∧ Z.length = 1024 := ⟨_, all_zero, List.length_replicate⟩
  have hp1l : ∀ k, k < 32 → ((S.drop (k * 16)).take 16).length = 16 := fun k h => by rw [List.length_take, List.length_drop, hS]; omega
  have hp2l : ∀ k, k < 32 → ((S.drop (512 + k * 16)).take 16).length = 16 := fun k h => by rw [List.length_take, List.length_drop, hS]; omega
  have hpl : ∀ k, k ≤ 32 → (piecesM (rowS S d) k).length = k * 32 := by
    intro k
    induction k with
    | zero => intro _; simp [piecesM]
    | succ k ih => intro h; rw [piecesM_succ, List.length_append, ih (by omega), rowS, rowFrom_length (hp2l k (by omega)), Nat.succ_mul]
  have hlf := fun W => LeafW (piecesM (rowS S d) 32) (hpl 32 (Nat.le_refl _)) W
  have hal : (bv (piecesM (rowS S d) 32)).length = 1024 := by rw [bv_length]; exact hpl 32 (Nat.le_refl _)
  have hll : ∀ k, k ≤ 32 → (rowsC (rowS S d) Z k).length = 1024 := fun k h => by unfold rowsC; rw [List.length_append, bv_length, hpl k h, List.length_drop, hzl]; omega
  have hst := fun k (h : k < 32) X Y b c hX hY hbc hf => rows_two (rowS S d) (Z := Z) (X := X) (Y := Y) (k := k) (b := b) (c := c) (by rw [bv_length]; exact hpl k (by omega)) hzl h hX hY hbc hf
  have hl0 : rowsC (rowS S d) Z 0 = Z := by simp [rowsC, piecesM, bv]
  have hl32 : rowsC (rowS S d) Z 32 = bv (piecesM (rowS S d) 32) := by
    have : Z.drop (32 * 32) = [] := List.drop_of_length_le (by rw [hzl]; decide)
    unfold rowsC
    rw [this, List.append_nil]
  have hbit := fun (k : Nat) (hk : k < 32) W => Bit d hd k hk W
  have hrl : (bv (fromS S d)).length = 32 := by rw [bv_length]; exact leafOf_length _
  have hro := bv_one (fromS S d)
  have hlm : leafOf (piecesM (rowS S d) 32) = fromS S d := rfl
  rw [hlm] at hlf
  have hdl : (bv d).length = 32 := by rw [bv_length]; exact hd
  have hsl : (bv S).length = 1024 := by rw [bv_length]; exact hS
  have hq := bv_drop_take S
  have hb0 : Blk ((((w.alloc (.cells (bv S).toArray 43)).alloc (.cells (bv d).toArray 31)).alloc (.cells D.toArray 31)).alloc (.cells Z.toArray 72)) w.heap.size 43 (bv S) := (((Blk.new _ _ _).keep ((Ext.refl _).alloc _) (by simp)).keep ((Ext.refl _).alloc _) (by simp)).keep ((Ext.refl _).alloc _) (by simp)
  have hb1 : Blk ((((w.alloc (.cells (bv S).toArray 43)).alloc (.cells (bv d).toArray 31)).alloc (.cells D.toArray 31)).alloc (.cells Z.toArray 72)) (w.heap.size + 1) 31 (bv d) := ((Blk.fresh (by simp) _ _).keep ((Ext.refl _).alloc _) (by simp)).keep ((Ext.refl _).alloc _) (by simp)
  have hb2 : Blk ((((w.alloc (.cells (bv S).toArray 43)).alloc (.cells (bv d).toArray 31)).alloc (.cells D.toArray 31)).alloc (.cells Z.toArray 72)) (w.heap.size + 1 + 1) 31 D := (Blk.fresh (by simp) _ _).keep ((Ext.refl _).alloc _) (by simp)
  have hb3 : Blk ((((w.alloc (.cells (bv S).toArray 43)).alloc (.cells (bv d).toArray 31)).alloc (.cells D.toArray 31)).alloc (.cells Z.toArray 72)) (w.heap.size + 1 + 1 + 1) 72 Z := Blk.fresh (by simp) _ _
  have hx0 : Ext w ((((w.alloc (.cells (bv S).toArray 43)).alloc (.cells (bv d).toArray 31)).alloc (.cells D.toArray 31)).alloc (.cells Z.toArray 72)) := ((((Ext.refl w).alloc _).alloc _).alloc _).alloc _
  obtain ⟨LL, hLL⟩ : ∃ LL, LL = rowsC (rowS S d) Z := ⟨_, rfl⟩
  rw [← hLL] at hl0 hl32 hll hst
  generalize bv (fromS S d) = R at *
  generalize bv (piecesM (rowS S d) 32) = AL at *
  generalize bv S = C at *
  generalize bv d = DC at *
  have HB0 := Lib.hid hb0
  have HB1 := Lib.hid hb1
  have HB2 := Lib.hid hb2
  have HB3 := Lib.hid hb3
  have HX0 := Lib.hid hx0
  have HL0 := Lib.hid hl0
  have HL32 := Lib.hid hl32
  have HLLN := Lib.hid hll
  have HST := Lib.hid hst
  have HBIT := Lib.hid hbit
  have HLF := Lib.hid hlf
  have HRL := Lib.hid hrl
  have HAL := Lib.hid hal
  have HDL0 := Lib.hid hdl0
  have HDL := Lib.hid hdl
  have HQ := Lib.hid hq
  have HPA := Lib.hid hp1l
  have HPB := Lib.hid hp2l
  clear hb0 hb1 hb2 hb3 hx0 hl0 hl32 hll hst hbit hlf hrl hdl hdl0 hLL hlm hal hzl hq hp1l hp2l hsl hpl
  go_enter Try.func17, Try.ntmps17
  go_wp2_with (first
    | (refine wpList_alloc _ rfl 31 rfl _ hzd ?_)
    | (refine wpList_alloc _ rfl 72 rfl _ hz ?_)
    | fail)
  go_loopw [6, 7, 8] (fun p q i wr => ∃ k : Nat, k ≤ 32 ∧ i = .int .i64 k ∧ Ext w wr ∧ Blk wr w.heap.size 43 C ∧ Blk wr (w.heap.size + 1) 31 DC ∧ Blk wr (w.heap.size + 1 + 1) 31 D ∧ Blk wr (w.heap.size + 1 + 1 + 1) 72 (LL k)) (fun _ _ i _ => 32 - (intOf i).toNat)
  case atStart => exact ⟨0, by omega, rfl, HX0.out, HB0.out, HB1.out, HB2.out, by rw [HL0.out]; exact HB3.out⟩
  case round =>
    clear HX0 HB0 HB1 HB2 HB3
    obtain ⟨k, hk, rfl, hx, hb0, hb1, hb2, hb3⟩ := hrel
    by_cases hlt : k < 32
    · have hcd := hb1.cells
      have hbt := fun W => HBIT.out k hlt W
      have hbl := bitM_lt d k
      have hq1 := HQ.out (k * 16) 16
      have hq2 := HQ.out (512 + k * 16) 16
      have hl1 : (bv ((S.drop (k * 16)).take 16)).length = 16 := by rw [bv_length]; exact HPA.out k hlt
      have hl2 : (bv ((S.drop (512 + k * 16)).take 16)).length = 16 := by rw [bv_length]; exact HPB.out k hlt
      have hpo2 := bv_one ((S.drop (512 + k * 16)).take 16)
      have hcv := fun W => Cover ((S.drop (k * 16)).take 16) (HPA.out k hlt) W
      have hcl : (bv (coverM ((S.drop (k * 16)).take 16))).length = 16 := by rw [bv_length, coverM_length]
      have hco := bv_one (coverM ((S.drop (k * 16)).take 16))
      have hrow : bv (rowS S d k) = if bitM d k = 0 then bv (coverM ((S.drop (k * 16)).take 16)) ++ bv ((S.drop (512 + k * 16)).take 16) else bv ((S.drop (512 + k * 16)).take 16) ++ bv (coverM ((S.drop (k * 16)).take 16)) := by
        unfold rowS rowFrom
        split <;> rw [bv_append]
      have hstk := HST.out k hlt _ _ (bitM d k) (1 - bitM d k) hcl hl2 (by omega) hrow
      have hll := HLLN.out k (by omega)
      have hbc : bitM d k + (1 - bitM d k) = 1 := by omega
      generalize 1 - bitM d k = c at *
      generalize bitM d k = b at *
      generalize bv (coverM ((S.drop (k * 16)).take 16)) = CV at *
      generalize bv ((S.drop (k * 16)).take 16) = P1 at *
      generalize bv ((S.drop (512 + k * 16)).take 16) = P2 at *
      have hpll : (putAt (LL k) (k * 32 + b * 16) CV).length = 1024 := by rw [putAt_len (by rw [hll, hcl]; omega), hll]
      have HX := Lib.hid hx
      have HB0 := Lib.hid hb0
      have HB1 := Lib.hid hb1
      have HB2 := Lib.hid hb2
      have HB3r := Lib.hid hb3
      have HBT := Lib.hid hbt
      have HBL := Lib.hid hbl
      have HBC := Lib.hid hbc
      have HWR : Hid (IntKind.u8.wrap (1 - (b : Int)) = (c : Int)) := Lib.hid (by simp [IntKind.wrap, IntKind.bits, IntKind.signed]; omega)
      have HQ1 := Lib.hid hq1
      have HQ2 := Lib.hid hq2
      have HP1 := Lib.hid hl1
      have HP2 := Lib.hid hl2
      have HCV := Lib.hid hcv
      have HCL := Lib.hid hcl
      have HSTK := Lib.hid hstk
      have HLL := Lib.hid hll
      have HPLL := Lib.hid hpll
      clear hx hb0 hb1 hb2 hb3 hbt hbl hbc hq1 hq2 hl1 hl2 hcv hcl hstk hll hpll hrow
      go_wp2_with (first
        | (refine wpList_load_agg _ rfl 31 (.tmp 3) rfl _ rfl DC _ Try.underlying31 rfl (digest_size HDL.out) hcd ?_)
        | (go_at_call 36; refine (HBT.out _).mono ?_; rintro e w1 ⟨rfl, hx1⟩)
        | fail)
      have hbk0 := HB0.out.keep (hx1.trans (Ext.refl w1).drew) (by simp)
      have HK1 : Hid (∀ W, Ext w1.drew W → Cells W ⟨w.heap.size, k * 16, none⟩ P1) := Lib.hid fun W h => by have h2 := ((hbk0.keep h (by simp)).cells.drop (k * 16)).take 16; rw [addr_at, HQ1.out] at h2; exact h2
      have HB3 := Lib.hid (HB3r.out.keep (hx1.trans (Ext.refl w1).drew) (by simp))
      have HX1 := Lib.hid (hx1.trans (Ext.refl w1).drew)
      generalize hg : w.heap.size + 1 + 1 + 1 = g at *
      have HG := Lib.hid hg
      have hdk : decide ((k : Int) < 32) = true := by rw [decide_eq_true_iff]; omega
      (try simp only [hdk])
      clear hg hdk hcd hx1 hbk0
      refine stab_store Ext ext_refl ext_trans [[0], [1], [2], [3], [2, 3, 4], [2, 3, 4, 5], [2, 3, 4, 5, 6], [0, 7], [0, 1, 2, 3, 4, 5, 6, 7, 8], [0, 1, 2, 3, 4, 5, 6, 7, 8, 9]] (fun i v wv => match i with | 0 => v = .int .i64 (k : Int) | 1 => v = .int .u8 (b : Int) | 2 => v = .int .i64 (k : Int) | 3 => v = .pointer (some ⟨w.heap.size, 0, none⟩) | 4 => v = .pointer (some ⟨w.heap.size, k * 16, none⟩) | 5 => v = .agg P1.toArray | 6 => v = .agg CV.toArray | 7 => v = .pointer (some ⟨g, k * 32, none⟩) | 8 => v = .pointer (some ⟨g, k * 32 + b * 16, none⟩) | _ => True) (by kernel_rfl) (by kernel_rfl) (by kernel_rfl) (by kernel_rfl) (by simp) ?_ ?_ ?_
      · intro i v w1 w2 h hx
        match i, h with
        | 0, h => exact h
        | 1, h => exact h
        | 2, h => exact h
        | 3, h => exact h
        | 4, h => exact h
        | 5, h => exact h
        | 6, h => exact h
        | 7, h => exact h
        | 8, h => exact h
        | i + 9, h => trivial
      · intro i hi o ho
        match i, hi, ho with
        | 0, _, ho =>
          obtain rfl := Option.some.inj ho
          intro s W hX hd K hK
          rw [if_pos (wanted_plain rfl)]
          clear hd
          replace hK : ∀ (v : Value) (W' : World), Ext W W' → (v = .int .i64 (k : Int)) → _ := hK
          simp only [mkOf, List.map_cons, List.map_nil, Act.put, List.setIfInBounds_toArray, List.set_cons_succ, List.set_cons_zero, Nat.reduceAdd, Nat.zero_add] at hK ⊢
          go_simp
          exact hK _ _ (Ext.refl _) rfl
        | 1, _, ho =>
          obtain rfl := Option.some.inj ho
          intro s W hX hd K hK
          rw [if_pos (wanted_plain rfl)]
          clear hd
          replace hK : ∀ (v : Value) (W' : World), Ext W W' → (v = .int .u8 (b : Int)) → _ := hK
          simp only [mkOf, List.map_cons, List.map_nil, Act.put, List.setIfInBounds_toArray, List.set_cons_succ, List.set_cons_zero, Nat.reduceAdd, Nat.zero_add] at hK ⊢
          go_simp
          exact hK _ _ (Ext.refl _) rfl
        | 2, _, ho =>
          obtain rfl := Option.some.inj ho
          intro s W hX hd K hK
          rw [if_pos (wanted_plain rfl)]
          clear hd
          replace hK : ∀ (v : Value) (W' : World), Ext W W' → (v = .int .i64 (k : Int)) → _ := hK
          simp only [mkOf, List.map_cons, List.map_nil, Act.put, List.setIfInBounds_toArray, List.set_cons_succ, List.set_cons_zero, Nat.reduceAdd, Nat.zero_add] at hK ⊢
          go_simp
          exact hK _ _ (Ext.refl _) rfl
        | 3, _, ho =>
          obtain rfl := Option.some.inj ho
          intro s W hX hd K hK
          rw [if_pos (wanted_plain rfl)]
          clear hd
          replace hK : ∀ (v : Value) (W' : World), Ext W W' → (v = .pointer (some ⟨w.heap.size, 0, none⟩)) → _ := hK
          simp only [mkOf, List.map_cons, List.map_nil, Act.put, List.setIfInBounds_toArray, List.set_cons_succ, List.set_cons_zero, Nat.reduceAdd, Nat.zero_add] at hK ⊢
          go_simp
          exact hK _ _ (Ext.refl _) rfl
        | 4, _, ho =>
          obtain rfl := Option.some.inj ho
          intro s W hX hd K hK
          rw [if_pos (wanted_plain rfl)]
          have d16 : (s 2) = .int .i64 (k : Int) := hd 2 (by decide) (by decide)
          have d17 : (s 3) = .pointer (some ⟨w.heap.size, 0, none⟩) := hd 3 (by decide) (by decide)
          clear hd
          replace hK : ∀ (v : Value) (W' : World), Ext W W' → (v = .pointer (some ⟨w.heap.size, k * 16, none⟩)) → _ := hK
          simp only [mkOf, List.map_cons, List.map_nil, Act.put, List.setIfInBounds_toArray, List.set_cons_succ, List.set_cons_zero, Nat.reduceAdd, Nat.zero_add] at hK ⊢
          simp only [d16, d17] at hK ⊢
          go_simp
          exact hK _ _ (Ext.refl _) rfl
        | 5, _, ho =>
          obtain rfl := Option.some.inj ho
          intro s W hX hd K hK
          rw [if_pos (wanted_plain rfl)]
          have d18 : (s 4) = .pointer (some ⟨w.heap.size, k * 16, none⟩) := hd 4 (by decide) (by decide)
          clear hd
          replace hK : ∀ (v : Value) (W' : World), Ext W W' → (v = .agg P1.toArray) → _ := hK
          simp only [mkOf, List.map_cons, List.map_nil, Act.put, List.setIfInBounds_toArray, List.set_cons_succ, List.set_cons_zero, Nat.reduceAdd, Nat.zero_add] at hK ⊢
          simp only [d18] at hK ⊢
          refine wp_load_agg 40 (.tmp 18) rfl _ (by simpa [Act.eval] using d18) P1 _ Try.underlying40 rfl (piece_size HP1.out) (HK1.out W hX) ?_
          exact hK _ _ (Ext.refl _) rfl
        | 6, _, ho =>
          obtain rfl := Option.some.inj ho
          intro s W hX hd K hK
          rw [if_pos (wanted_plain rfl)]
          have d19 : (s 5) = .agg P1.toArray := hd 5 (by decide) (by decide)
          clear hd
          replace hK : ∀ (v : Value) (W' : World), Ext W W' → (v = .agg CV.toArray) → _ := hK
          simp only [mkOf, List.map_cons, List.map_nil, Act.put, List.setIfInBounds_toArray, List.set_cons_succ, List.set_cons_zero, Nat.reduceAdd, Nat.zero_add] at hK ⊢
          simp only [d19] at hK ⊢
          go_simp
          refine (HCV.out _).mono ?_
          rintro e w' ⟨rfl, hx⟩
          exact hK _ _ hx rfl
        | 7, _, ho =>
          obtain rfl := Option.some.inj ho
          intro s W hX hd K hK
          rw [if_pos (wanted_plain rfl)]
          have d14 : (s 0) = .int .i64 (k : Int) := hd 0 (by decide) (by decide)
          clear hd
          replace hK : ∀ (v : Value) (W' : World), Ext W W' → (v = .pointer (some ⟨g, k * 32, none⟩)) → _ := hK
          simp only [mkOf, List.map_cons, List.map_nil, Act.put, List.setIfInBounds_toArray, List.set_cons_succ, List.set_cons_zero, Nat.reduceAdd, Nat.zero_add] at hK ⊢
          simp only [d14] at hK ⊢
          go_simp
          exact hK _ _ (Ext.refl _) rfl
        | 8, _, ho =>
          obtain rfl := Option.some.inj ho
          intro s W hX hd K hK
          rw [if_pos (wanted_plain rfl)]
          have d15 : (s 1) = .int .u8 (b : Int) := hd 1 (by decide) (by decide)
          have d21 : (s 7) = .pointer (some ⟨g, k * 32, none⟩) := hd 7 (by decide) (by decide)
          clear hd
          replace hK : ∀ (v : Value) (W' : World), Ext W W' → (v = .pointer (some ⟨g, k * 32 + b * 16, none⟩)) → _ := hK
          simp only [mkOf, List.map_cons, List.map_nil, Act.put, List.setIfInBounds_toArray, List.set_cons_succ, List.set_cons_zero, Nat.reduceAdd, Nat.zero_add] at hK ⊢
          simp only [d15, d21] at hK ⊢
          have hbl : (b : Int) < 2 := by have := HBL.out; omega
          go_simp
          exact hK _ _ (Ext.refl _) rfl
        | i + 9, hi, _ => exact absurd hi (by simp)
      · intro o ho
        obtain rfl := Option.some.inj ho
        intro s W hX hd K hK
        rw [if_pos (wanted_plain rfl)]
        have d14 : (s 0) = .int .i64 (k : Int) := hd 0 (by decide)
        have d15 : (s 1) = .int .u8 (b : Int) := hd 1 (by decide)
        have d16 : (s 2) = .int .i64 (k : Int) := hd 2 (by decide)
        have d17 : (s 3) = .pointer (some ⟨w.heap.size, 0, none⟩) := hd 3 (by decide)
        have d18 : (s 4) = .pointer (some ⟨w.heap.size, k * 16, none⟩) := hd 4 (by decide)
        have d19 : (s 5) = .agg P1.toArray := hd 5 (by decide)
        have d20 : (s 6) = .agg CV.toArray := hd 6 (by decide)
        have d21 : (s 7) = .pointer (some ⟨g, k * 32, none⟩) := hd 7 (by decide)
        have d22 : (s 8) = .pointer (some ⟨g, k * 32 + b * 16, none⟩) := hd 8 (by decide)
        clear hd
        simp only [mkOf, List.map_cons, List.map_nil, Act.put, List.setIfInBounds_toArray, List.set_cons_succ, List.set_cons_zero, Nat.reduceAdd, Nat.zero_add]
        refine wp_store_part W 40 (.tmp 22) (.tmp 20) rfl g (k * 32 + b * 16) (by simpa [Act.eval] using d22) (LL k) CV _ (by simpa [Act.eval] using d20) (HB3.out.keep hX (by simp)) (piece_size HCL.out) (by have := HBL.out; rw [HLL.out, HCL.out]; omega) hco ?_
        refine hK _ _ ?_
        have hx2 : Ext w W := HX.out.trans (HX1.out.trans hX)
        have hb0 : Blk (W.setRow g (putAt (LL k) (k * 32 + b * 16) CV).toArray).drew w.heap.size 43 C := ((HB0.out.keep (HX1.out.trans hX) (by simp)).keep (setRow_only _) (by have := HG.out; simp; omega)).keep (Ext.refl _).drew (by simp)
        have hb1 : Blk (W.setRow g (putAt (LL k) (k * 32 + b * 16) CV).toArray).drew (w.heap.size + 1) 31 DC := ((HB1.out.keep (HX1.out.trans hX) (by simp)).keep (setRow_only _) (by have := HG.out; simp; omega)).keep (Ext.refl _).drew (by simp)
        have hb2 : Blk (W.setRow g (putAt (LL k) (k * 32 + b * 16) CV).toArray).drew (w.heap.size + 1 + 1) 31 D := ((HB2.out.keep (HX1.out.trans hX) (by simp)).keep (setRow_only _) (by have := HG.out; simp; omega)).keep (Ext.refl _).drew (by simp)
        have hb3 : Blk (W.setRow g (putAt (LL k) (k * 32 + b * 16) CV).toArray).drew g 72 (putAt (LL k) (k * 32 + b * 16) CV) := Blk.keep (t := 72) (setRow_at (HB3.out.keep hX (by simp))) (Ext.refl _).drew (by simp)
        have hx3 : Ext w (W.setRow g (putAt (LL k) (k * 32 + b * 16) CV).toArray).drew := (setRow_grown hx2 _ _ (by have := HG.out; omega)).trans (Ext.refl _).drew
        have HK2 : Hid (∀ W3, Ext (W.setRow g (putAt (LL k) (k * 32 + b * 16) CV).toArray).drew W3 → Cells W3 ⟨w.heap.size, 512 + k * 16, none⟩ P2) := Lib.hid fun W3 h => by have h2 := ((hb0.keep h (by simp)).cells.drop (512 + k * 16)).take 16; rw [addr_at, HQ2.out] at h2; exact h2
        clear HX HX1 HK1 HB0 HB1 HB2 HB3 HB3r hX hK hx2 HCV HBT
        have HX := Lib.hid hx3
        have HB0 := Lib.hid hb0
        have HB1 := Lib.hid hb1
        have HB2 := Lib.hid hb2
        have HB3 := Lib.hid hb3
        clear hx3 hb0 hb1 hb2 hb3 d14 d15 d16 d17 d18 d19 d20 d21 d22
        (try simp only [Exit.then])
        go_wp2_with fail
        generalize hV : W.setRow g (putAt (LL k) (k * 32 + b * 16) CV).toArray = V at *
        clear hV W
        refine stab_store Ext ext_refl ext_trans [[0], [1], [1, 2], [3], [4], [3, 4, 5], [3, 4, 5, 6], [0, 7], [0, 1, 2, 3, 4, 5, 6, 7, 8], [0, 1, 2, 3, 4, 5, 6, 7, 8, 9]] (fun i v wv => match i with | 0 => v = .int .i64 (k : Int) | 1 => v = .int .u8 (b : Int) | 2 => v = .int .u8 (c : Int) | 3 => v = .int .i64 (k : Int) | 4 => v = .pointer (some ⟨w.heap.size, 512, none⟩) | 5 => v = .pointer (some ⟨w.heap.size, 512 + k * 16, none⟩) | 6 => v = .agg P2.toArray | 7 => v = .pointer (some ⟨g, k * 32, none⟩) | 8 => v = .pointer (some ⟨g, k * 32 + c * 16, none⟩) | _ => True) (by kernel_rfl) (by kernel_rfl) (by kernel_rfl) (by kernel_rfl) (by simp) ?_ ?_ ?_
        · intro i v w1 w2 h hx
          match i, h with
          | 0, h => exact h
          | 1, h => exact h
          | 2, h => exact h
          | 3, h => exact h
          | 4, h => exact h
          | 5, h => exact h
          | 6, h => exact h
          | 7, h => exact h
          | 8, h => exact h
          | i + 9, h => trivial
        · intro i hi o ho
          match i, hi, ho with
          | 0, _, ho =>
            obtain rfl := Option.some.inj ho
            intro s W2 hX hd K hK
            rw [if_pos (wanted_plain rfl)]
            clear hd
            replace hK : ∀ (v : Value) (W2' : World), Ext W2 W2' → (v = .int .i64 (k : Int)) → _ := hK
            simp only [mkOf, List.map_cons, List.map_nil, Act.put, List.setIfInBounds_toArray, List.set_cons_succ, List.set_cons_zero, Nat.reduceAdd, Nat.zero_add] at hK ⊢
            go_simp
            exact hK _ _ (Ext.refl _) rfl
          | 1, _, ho =>
            obtain rfl := Option.some.inj ho
            intro s W2 hX hd K hK
            rw [if_pos (wanted_plain rfl)]
            clear hd
            replace hK : ∀ (v : Value) (W2' : World), Ext W2 W2' → (v = .int .u8 (b : Int)) → _ := hK
            simp only [mkOf, List.map_cons, List.map_nil, Act.put, List.setIfInBounds_toArray, List.set_cons_succ, List.set_cons_zero, Nat.reduceAdd, Nat.zero_add] at hK ⊢
            go_simp
            exact hK _ _ (Ext.refl _) rfl
          | 2, _, ho =>
            obtain rfl := Option.some.inj ho
            intro s W2 hX hd K hK
            rw [if_pos (wanted_plain rfl)]
            have d24 : (s 1) = .int .u8 (b : Int) := hd 1 (by decide) (by decide)
            clear hd
            replace hK : ∀ (v : Value) (W2' : World), Ext W2 W2' → (v = .int .u8 (c : Int)) → _ := hK
            simp only [mkOf, List.map_cons, List.map_nil, Act.put, List.setIfInBounds_toArray, List.set_cons_succ, List.set_cons_zero, Nat.reduceAdd, Nat.zero_add] at hK ⊢
            simp only [d24] at hK ⊢
            go_simp
            exact hK _ _ (Ext.refl _) (by rw [HWR.out])
          | 3, _, ho =>
            obtain rfl := Option.some.inj ho
            intro s W2 hX hd K hK
            rw [if_pos (wanted_plain rfl)]
            clear hd
            replace hK : ∀ (v : Value) (W2' : World), Ext W2 W2' → (v = .int .i64 (k : Int)) → _ := hK
            simp only [mkOf, List.map_cons, List.map_nil, Act.put, List.setIfInBounds_toArray, List.set_cons_succ, List.set_cons_zero, Nat.reduceAdd, Nat.zero_add] at hK ⊢
            go_simp
            exact hK _ _ (Ext.refl _) rfl
          | 4, _, ho =>
            obtain rfl := Option.some.inj ho
            intro s W2 hX hd K hK
            rw [if_pos (wanted_plain rfl)]
            clear hd
            replace hK : ∀ (v : Value) (W2' : World), Ext W2 W2' → (v = .pointer (some ⟨w.heap.size, 512, none⟩)) → _ := hK
            simp only [mkOf, List.map_cons, List.map_nil, Act.put, List.setIfInBounds_toArray, List.set_cons_succ, List.set_cons_zero, Nat.reduceAdd, Nat.zero_add] at hK ⊢
            go_simp
            exact hK _ _ (Ext.refl _) rfl
          | 5, _, ho =>
            obtain rfl := Option.some.inj ho
            intro s W2 hX hd K hK
            rw [if_pos (wanted_plain rfl)]
            have d26 : (s 3) = .int .i64 (k : Int) := hd 3 (by decide) (by decide)
            have d27 : (s 4) = .pointer (some ⟨w.heap.size, 512, none⟩) := hd 4 (by decide) (by decide)
            clear hd
            replace hK : ∀ (v : Value) (W2' : World), Ext W2 W2' → (v = .pointer (some ⟨w.heap.size, 512 + k * 16, none⟩)) → _ := hK
            simp only [mkOf, List.map_cons, List.map_nil, Act.put, List.setIfInBounds_toArray, List.set_cons_succ, List.set_cons_zero, Nat.reduceAdd, Nat.zero_add] at hK ⊢
            simp only [d26, d27] at hK ⊢
            go_simp
            exact hK _ _ (Ext.refl _) rfl
          | 6, _, ho =>
            obtain rfl := Option.some.inj ho
            intro s W2 hX hd K hK
            rw [if_pos (wanted_plain rfl)]
            have d28 : (s 5) = .pointer (some ⟨w.heap.size, 512 + k * 16, none⟩) := hd 5 (by decide) (by decide)
            clear hd
            replace hK : ∀ (v : Value) (W2' : World), Ext W2 W2' → (v = .agg P2.toArray) → _ := hK
            simp only [mkOf, List.map_cons, List.map_nil, Act.put, List.setIfInBounds_toArray, List.set_cons_succ, List.set_cons_zero, Nat.reduceAdd, Nat.zero_add] at hK ⊢
            simp only [d28] at hK ⊢
            refine wp_load_agg 40 (.tmp 28) rfl _ (by simpa [Act.eval] using d28) P2 _ Try.underlying40 rfl (piece_size HP2.out) (HK2.out W2 hX) ?_
            exact hK _ _ (Ext.refl _) rfl
          | 7, _, ho =>
            obtain rfl := Option.some.inj ho
            intro s W2 hX hd K hK
            rw [if_pos (wanted_plain rfl)]
            have d23 : (s 0) = .int .i64 (k : Int) := hd 0 (by decide) (by decide)
            clear hd
            replace hK : ∀ (v : Value) (W2' : World), Ext W2 W2' → (v = .pointer (some ⟨g, k * 32, none⟩)) → _ := hK
            simp only [mkOf, List.map_cons, List.map_nil, Act.put, List.setIfInBounds_toArray, List.set_cons_succ, List.set_cons_zero, Nat.reduceAdd, Nat.zero_add] at hK ⊢
            simp only [d23] at hK ⊢
            go_simp
            exact hK _ _ (Ext.refl _) rfl
          | 8, _, ho =>
            obtain rfl := Option.some.inj ho
            intro s W2 hX hd K hK
            rw [if_pos (wanted_plain rfl)]
            have d25 : (s 2) = .int .u8 (c : Int) := hd 2 (by decide) (by decide)
            have d30 : (s 7) = .pointer (some ⟨g, k * 32, none⟩) := hd 7 (by decide) (by decide)
            clear hd
            replace hK : ∀ (v : Value) (W2' : World), Ext W2 W2' → (v = .pointer (some ⟨g, k * 32 + c * 16, none⟩)) → _ := hK
            simp only [mkOf, List.map_cons, List.map_nil, Act.put, List.setIfInBounds_toArray, List.set_cons_succ, List.set_cons_zero, Nat.reduceAdd, Nat.zero_add] at hK ⊢
            simp only [d25, d30] at hK ⊢
            have hbl : (c : Int) < 2 := by have := HBC.out; omega
            go_simp
            exact hK _ _ (Ext.refl _) rfl
          | i + 9, hi, _ => exact absurd hi (by simp)
        · intro o ho
          obtain rfl := Option.some.inj ho
          intro s W2 hX hd K hK
          rw [if_pos (wanted_plain rfl)]
          have d23 : (s 0) = .int .i64 (k : Int) := hd 0 (by decide)
          have d24 : (s 1) = .int .u8 (b : Int) := hd 1 (by decide)
          have d25 : (s 2) = .int .u8 (c : Int) := hd 2 (by decide)
          have d26 : (s 3) = .int .i64 (k : Int) := hd 3 (by decide)
          have d27 : (s 4) = .pointer (some ⟨w.heap.size, 512, none⟩) := hd 4 (by decide)
          have d28 : (s 5) = .pointer (some ⟨w.heap.size, 512 + k * 16, none⟩) := hd 5 (by decide)
          have d29 : (s 6) = .agg P2.toArray := hd 6 (by decide)
          have d30 : (s 7) = .pointer (some ⟨g, k * 32, none⟩) := hd 7 (by decide)
          have d31 : (s 8) = .pointer (some ⟨g, k * 32 + c * 16, none⟩) := hd 8 (by decide)
          clear hd
          simp only [mkOf, List.map_cons, List.map_nil, Act.put, List.setIfInBounds_toArray, List.set_cons_succ, List.set_cons_zero, Nat.reduceAdd, Nat.zero_add]
          refine wp_store_part W2 40 (.tmp 31) (.tmp 29) rfl g (k * 32 + c * 16) (by simpa [Act.eval] using d31) (putAt (LL k) (k * 32 + b * 16) CV) P2 _ (by simpa [Act.eval] using d29) (HB3.out.keep hX (by simp)) (piece_size HP2.out) (by have := HBC.out; rw [HPLL.out, HP2.out]; omega) hpo2 ?_
          refine hK _ _ ?_
          have hx4 : Ext w (W2.setRow g (putAt (putAt (LL k) (k * 32 + b * 16) CV) (k * 32 + c * 16) P2).toArray) := setRow_grown (HX.out.trans hX) _ _ (by have := HG.out; omega)
          have hb0 := (HB0.out.keep hX (by simp)).keep (setRow_only (putAt (putAt (LL k) (k * 32 + b * 16) CV) (k * 32 + c * 16) P2).toArray) (show some w.heap.size ≠ some g by have := HG.out; simp; omega)
          have hb1 := (HB1.out.keep hX (by simp)).keep (setRow_only (putAt (putAt (LL k) (k * 32 + b * 16) CV) (k * 32 + c * 16) P2).toArray) (show some (w.heap.size + 1) ≠ some g by have := HG.out; simp; omega)
          have hb2 := (HB2.out.keep hX (by simp)).keep (setRow_only (putAt (putAt (LL k) (k * 32 + b * 16) CV) (k * 32 + c * 16) P2).toArray) (show some (w.heap.size + 1 + 1) ≠ some g by have := HG.out; simp; omega)
          have hb3 : Blk (W2.setRow g (putAt (putAt (LL k) (k * 32 + b * 16) CV) (k * 32 + c * 16) P2).toArray) g 72 (LL (k + 1)) := by rw [← HSTK.out]; exact setRow_at (HB3.out.keep hX (by simp))
          generalize W2.setRow g (putAt (putAt (LL k) (k * 32 + b * 16) CV) (k * 32 + c * 16) P2).toArray = V2 at *
          have hge := HG.out
          subst hge
          have HX9 := Lib.hid hx4
          have HB90 := Lib.hid hb0
          have HB91 := Lib.hid hb1
          have HB92 := Lib.hid hb2
          have HB93 := Lib.hid hb3
          clear hx4 hb0 hb1 hb2 hb3 hX hK
          (try simp only [Exit.then])
          go_wp2_with fail
          go_roundw
          case rel => exact ⟨k + 1, by omega, by go_num, HX9.out, HB90.out, HB91.out, HB92.out, HB93.out⟩
          case measure => simp [intOf]; omega
    · obtain rfl : k = 32 := by omega
      rw [HL32.out] at hb3
      have hcm := hb3.cells
      have HX := Lib.hid hx
      have HB2 := Lib.hid hb2
      clear hx hb0 hb1 hb2 hb3
      go_wp2_with (first
        | (refine wpList_load_agg _ rfl 72 (.tmp 5) rfl _ rfl AL _ Try.underlying72 rfl (all_size HAL.out) hcm ?_)
        | fail)
      refine (HLF.out _).mono ?_
      rintro e w4 ⟨rfl, hx4⟩
      have hr4 : w4.heap[w.heap.size + 1 + 1]? = some (.cells D.toArray 31 (0, 0)) := HB2.out.keep hx4 (by simp)
      have hx5 := HX.out.trans hx4
      go_wp2_with (first
        | (refine wpList_store_row _ rfl 31 (.tmp 4) (.tmp 34) rfl (w.heap.size + 1 + 1) rfl D R _ rfl hr4 (digest_size HRL.out) (by rw [HRL.out, HDL0.out]) hro ?_)
        | fail)
      have hc9 := Blk.cells (t := 31) (setRow_at (cs' := R.toArray) hr4)
      (try simp only [Exit.inBlock, Exit.then])
      refine bodyPost_ret (results_agg rfl _ _ _ _ _ rfl Try.underlying31 rfl (digest_size HRL.out) hc9) rfl ?_
      exact ⟨rfl, setRow_grown hx5 _ _ (by omega)⟩
end
section
set_option maxRecDepth 20000
theorem rowsK0 : (List.range' 0 4).flatMap (rowM (List.replicate 32 0) 0) = [139, 155, 28, 71, 161, 179, 248, 122, 134, 33, 130, 227, 18, 244, 98, 159, 185, 187, 190, 153, 112, 35, 61, 185, 32, 180, 157, 202, 120, 82, 152, 45, 176, 130, 181, 91, 135, 223, 63, 66, 97, 61, 50, 46, 13, 134, 96, 224, 101, 67, 80, 224, 76, 139, 213, 170, 203, 168, 198, 133, 255, 201, 246, 22, 189, 212, 6, 29, 68, 199, 176, 57, 222, 86, 19, 150, 89, 54, 209, 237, 47, 50, 226, 216, 237, 251, 34, 188, 1, 148, 189, 155, 13, 160, 95, 91, 19, 66, 168, 164, 90, 89, 253, 101, 238, 215, 38, 234, 59, 24, 219, 9, 84, 38, 132, 168, 137, 155, 133, 86, 129, 25, 248, 204, 177, 119, 8, 62] := by decide +kernel
theorem rowsK4 : (List.range' 4 4).flatMap (rowM (List.replicate 32 0) 0) = [22, 74, 11, 242, 135, 136, 93, 17, 230, 179, 245, 18, 166, 106, 17, 31, 238, 150, 2, 124, 70, 30, 90, 152, 255, 187, 174, 119, 35, 133, 124, 250, 243, 131, 238, 214, 112, 171, 219, 77, 252, 13, 84, 152, 176, 50, 226, 1, 5, 196, 62, 5, 29, 232, 177, 130, 187, 172, 41, 27, 208, 77, 212, 123, 12, 80, 58, 112, 135, 35, 137, 68, 8, 197, 98, 150, 122, 73, 36, 229, 190, 238, 10, 181, 230, 195, 70, 156, 67, 244, 187, 200, 17, 153, 53, 169, 89, 15, 224, 49, 135, 130, 25, 86, 193, 130, 12, 28, 249, 89, 41, 129, 167, 103, 206, 2, 180, 66, 116, 191, 39, 129, 220, 51, 233, 221, 105, 28] := by decide +kernel
theorem rowsK8 : (List.range' 8 4).flatMap (rowM (List.replicate 32 0) 0) = [41, 88, 163, 66, 104, 244, 114, 157, 207, 199, 32, 49, 196, 193, 67, 32, 33, 191, 230, 78, 242, 151, 15, 95, 193, 83, 117, 215, 155, 195, 162, 180, 172, 170, 193, 190, 35, 198, 39, 25, 196, 196, 18, 241, 233, 53, 235, 249, 206, 148, 188, 99, 238, 67, 234, 224, 19, 2, 145, 44, 254, 134, 153, 192, 241, 93, 194, 2, 9, 173, 202, 149, 11, 35, 86, 20, 5, 219, 88, 47, 157, 74, 189, 210, 168, 224, 160, 121, 22, 181, 218, 108, 141, 203, 75, 31, 103, 180, 31, 190, 44, 197, 175, 209, 94, 222, 95, 39, 224, 30, 35, 238, 155, 136, 19, 123, 204, 16, 23, 44, 209, 180, 161, 65, 186, 123, 132, 159] := by decide +kernel
theorem rowsK12 : (List.range' 12 4).flatMap (rowM (List.replicate 32 0) 0) = [173, 149, 116, 231, 48, 87, 113, 176, 228, 175, 170, 200, 87, 175, 105, 18, 146, 74, 123, 240, 52, 181, 164, 247, 19, 73, 12, 218, 80, 81, 53, 233, 68, 28, 111, 209, 74, 108, 114, 28, 189, 200, 137, 171, 205, 142, 44, 229, 175, 113, 138, 103, 105, 151, 234, 53, 102, 125, 99, 86, 223, 117, 50, 57, 112, 25, 137, 18, 58, 36, 161, 101, 154, 38, 72, 191, 137, 196, 208, 139, 71, 8, 212, 154, 71, 228, 50, 127, 227, 62, 136, 162, 178, 102, 7, 60, 181, 140, 18, 223, 77, 131, 134, 182, 246, 119, 237, 56, 251, 202, 182, 110, 17, 219, 220, 117, 91, 102, 13, 240, 203, 81, 0, 101, 109, 203, 133, 166] := by decide +kernel
theorem rowsK16 : (List.range' 16 4).flatMap (rowM (List.replicate 32 0) 0) = [22, 33, 166, 79, 52, 81, 133, 73, 29, 188, 41, 185, 61, 206, 254, 183, 236, 236, 138, 132, 250, 163, 231, 212, 54, 179, 235, 22, 144, 26, 194, 225, 195, 228, 209, 54, 137, 21, 37, 157, 190, 68, 23, 147, 193, 130, 197, 238, 148, 2, 124, 39, 15, 53, 107, 192, 25, 184, 176, 178, 56, 108, 57, 39, 193, 12, 41, 112, 107, 10, 44, 33, 90, 40, 41, 127, 113, 163, 26, 31, 209, 1, 72, 176, 155, 166, 39, 124, 242, 188, 90, 128, 50, 247, 77, 231, 34, 118, 120, 11, 72, 65, 109, 81, 183, 44, 218, 62, 247, 14, 166, 236, 186, 213, 148, 72, 81, 122, 83, 24, 112, 214, 3, 185, 137, 252, 8, 25] := by decide +kernel
theorem rowsK20 : (List.range' 20 4).flatMap (rowM (List.replicate 32 0) 0) = [118, 243, 27, 187, 47, 116, 49, 38, 159, 240, 88, 134, 85, 164, 28, 189, 68, 3, 82, 212, 212, 14, 175, 229, 108, 211, 170, 78, 147, 133, 67, 124, 129, 181, 61, 59, 34, 128, 126, 32, 140, 112, 30, 129, 190, 186, 81, 244, 72, 250, 13, 75, 121, 169, 100, 253, 76, 207, 86, 216, 22, 196, 150, 127, 187, 41, 226, 219, 15, 254, 93, 102, 79, 75, 18, 198, 20, 43, 158, 203, 23, 133, 82, 146, 117, 182, 39, 82, 12, 238, 154, 5, 29, 92, 27, 239, 204, 112, 196, 255, 64, 235, 174, 32, 204, 154, 240, 108, 22, 224, 69, 28, 241, 153, 119, 65, 169, 135, 96, 87, 160, 128, 225, 173, 141, 105, 17, 53] := by decide +kernel
theorem rowsK24 : (List.range' 24 4).flatMap (rowM (List.replicate 32 0) 0) = [71, 174, 246, 203, 115, 100, 87, 75, 114, 23, 205, 82, 51, 40, 217, 91, 24, 229, 164, 140, 232, 112, 132, 243, 2, 136, 84, 110, 168, 114, 111, 115, 79, 51, 97, 93, 80, 61, 53, 143, 25, 39, 143, 0, 178, 207, 224, 150, 248, 254, 202, 44, 9, 194, 147, 44, 255, 48, 22, 156, 14, 70, 127, 102, 15, 14, 41, 116, 96, 124, 54, 237, 143, 193, 59, 44, 239, 70, 81, 114, 106, 90, 64, 139, 138, 124, 78, 142, 13, 239, 137, 85, 46, 88, 135, 142, 143, 119, 93, 34, 154, 44, 189, 15, 150, 243, 139, 40, 214, 41, 65, 75, 192, 7, 248, 26, 24, 176, 67, 123, 63, 15, 203, 85, 142, 71, 211, 193] := by decide +kernel
theorem rowsK28 : (List.range' 28 4).flatMap (rowM (List.replicate 32 0) 0) = [25, 248, 102, 200, 125, 168, 243, 115, 65, 247, 207, 186, 3, 231, 125, 47, 219, 198, 46, 102, 244, 214, 202, 231, 98, 89, 99, 135, 79, 34, 108, 186, 88, 37, 76, 135, 232, 74, 248, 224, 168, 37, 125, 205, 198, 138, 31, 75, 60, 134, 177, 9, 133, 80, 98, 174, 100, 141, 135, 118, 238, 178, 213, 109, 241, 67, 13, 52, 194, 212, 211, 167, 113, 74, 254, 243, 36, 104, 136, 193, 59, 115, 155, 54, 123, 44, 62, 61, 89, 57, 226, 113, 145, 54, 241, 81, 224, 124, 17, 37, 85, 30, 217, 224, 38, 126, 161, 208, 102, 13, 185, 252, 145, 133, 34, 69, 134, 100, 100, 223, 239, 88, 206, 5, 7, 11, 194, 69] := by decide +kernel
def allK : List UInt8 := [139, 155, 28, 71, 161, 179, 248, 122, 134, 33, 130, 227, 18, 244, 98, 159, 185, 187, 190, 153, 112, 35, 61, 185, 32, 180, 157, 202, 120, 82, 152, 45, 176, 130, 181, 91, 135, 223, 63, 66, 97, 61, 50, 46, 13, 134, 96, 224, 101, 67, 80, 224, 76, 139, 213, 170, 203, 168, 198, 133, 255, 201, 246, 22, 189, 212, 6, 29, 68, 199, 176, 57, 222, 86, 19, 150, 89, 54, 209, 237, 47, 50, 226, 216, 237, 251, 34, 188, 1, 148, 189, 155, 13, 160, 95, 91, 19, 66, 168, 164, 90, 89, 253, 101, 238, 215, 38, 234, 59, 24, 219, 9, 84, 38, 132, 168, 137, 155, 133, 86, 129, 25, 248, 204, 177, 119, 8, 62, 22, 74, 11, 242, 135, 136, 93, 17, 230, 179, 245, 18, 166, 106, 17, 31, 238, 150, 2, 124, 70, 30, 90, 152, 255, 187, 174, 119, 35, 133, 124, 250, 243, 131, 238, 214, 112, 171, 219, 77, 252, 13, 84, 152, 176, 50, 226, 1, 5, 196, 62, 5, 29, 232, 177, 130, 187, 172, 41, 27, 208, 77, 212, 123, 12, 80, 58, 112, 135, 35, 137, 68, 8, 197, 98, 150, 122, 73, 36, 229, 190, 238, 10, 181, 230, 195, 70, 156, 67, 244, 187, 200, 17, 153, 53, 169, 89, 15, 224, 49, 135, 130, 25, 86, 193, 130, 12, 28, 249, 89, 41, 129, 167, 103, 206, 2, 180, 66, 116, 191, 39, 129, 220, 51, 233, 221, 105, 28, 41, 88, 163, 66, 104, 244, 114, 157, 207, 199, 32, 49, 196, 193, 67, 32, 33, 191, 230, 78, 242, 151, 15, 95, 193, 83, 117, 215, 155, 195, 162, 180, 172, 170, 193, 190, 35, 198, 39, 25, 196, 196, 18, 241, 233, 53, 235, 249, 206, 148, 188, 99, 238, 67, 234, 224, 19, 2, 145, 44, 254, 134, 153, 192, 241, 93, 194, 2, 9, 173, 202, 149, 11, 35, 86, 20, 5, 219, 88, 47, 157, 74, 189, 210, 168, 224, 160, 121, 22, 181, 218, 108, 141, 203, 75, 31, 103, 180, 31, 190, 44, 197, 175, 209, 94, 222, 95, 39, 224, 30, 35, 238, 155, 136, 19, 123, 204, 16, 23, 44, 209, 180, 161, 65, 186, 123, 132, 159, 173, 149, 116, 231, 48, 87, 113, 176, 228, 175, 170, 200, 87, 175, 105, 18, 146, 74, 123, 240, 52, 181, 164, 247, 19, 73, 12, 218, 80, 81, 53, 233, 68, 28, 111, 209, 74, 108, 114, 28, 189, 200, 137, 171, 205, 142, 44, 229, 175, 113, 138, 103, 105, 151, 234, 53, 102, 125, 99, 86, 223, 117, 50, 57, 112, 25, 137, 18, 58, 36, 161, 101, 154, 38, 72, 191, 137, 196, 208, 139, 71, 8, 212, 154, 71, 228, 50, 127, 227, 62, 136, 162, 178, 102, 7, 60, 181, 140, 18, 223, 77, 131, 134, 182, 246, 119, 237, 56, 251, 202, 182, 110, 17, 219, 220, 117, 91, 102, 13, 240, 203, 81, 0, 101, 109, 203, 133, 166, 22, 33, 166, 79, 52, 81, 133, 73, 29, 188, 41, 185, 61, 206, 254, 183, 236, 236, 138, 132, 250, 163, 231, 212, 54, 179, 235, 22, 144, 26, 194, 225, 195, 228, 209, 54, 137, 21, 37, 157, 190, 68, 23, 147, 193, 130, 197, 238, 148, 2, 124, 39, 15, 53, 107, 192, 25, 184, 176, 178, 56, 108, 57, 39, 193, 12, 41, 112, 107, 10, 44, 33, 90, 40, 41, 127, 113, 163, 26, 31, 209, 1, 72, 176, 155, 166, 39, 124, 242, 188, 90, 128, 50, 247, 77, 231, 34, 118, 120, 11, 72, 65, 109, 81, 183, 44, 218, 62, 247, 14, 166, 236, 186, 213, 148, 72, 81, 122, 83, 24, 112, 214, 3, 185, 137, 252, 8, 25, 118, 243, 27, 187, 47, 116, 49, 38, 159, 240, 88, 134, 85, 164, 28, 189, 68, 3, 82, 212, 212, 14, 175, 229, 108, 211, 170, 78, 147, 133, 67, 124, 129, 181, 61, 59, 34, 128, 126, 32, 140, 112, 30, 129, 190, 186, 81, 244, 72, 250, 13, 75, 121, 169, 100, 253, 76, 207, 86, 216, 22, 196, 150, 127, 187, 41, 226, 219, 15, 254, 93, 102, 79, 75, 18, 198, 20, 43, 158, 203, 23, 133, 82, 146, 117, 182, 39, 82, 12, 238, 154, 5, 29, 92, 27, 239, 204, 112, 196, 255, 64, 235, 174, 32, 204, 154, 240, 108, 22, 224, 69, 28, 241, 153, 119, 65, 169, 135, 96, 87, 160, 128, 225, 173, 141, 105, 17, 53, 71, 174, 246, 203, 115, 100, 87, 75, 114, 23, 205, 82, 51, 40, 217, 91, 24, 229, 164, 140, 232, 112, 132, 243, 2, 136, 84, 110, 168, 114, 111, 115, 79, 51, 97, 93, 80, 61, 53, 143, 25, 39, 143, 0, 178, 207, 224, 150, 248, 254, 202, 44, 9, 194, 147, 44, 255, 48, 22, 156, 14, 70, 127, 102, 15, 14, 41, 116, 96, 124, 54, 237, 143, 193, 59, 44, 239, 70, 81, 114, 106, 90, 64, 139, 138, 124, 78, 142, 13, 239, 137, 85, 46, 88, 135, 142, 143, 119, 93, 34, 154, 44, 189, 15, 150, 243, 139, 40, 214, 41, 65, 75, 192, 7, 248, 26, 24, 176, 67, 123, 63, 15, 203, 85, 142, 71, 211, 193, 25, 248, 102, 200, 125, 168, 243, 115, 65, 247, 207, 186, 3, 231, 125, 47, 219, 198, 46, 102, 244, 214, 202, 231, 98, 89, 99, 135, 79, 34, 108, 186, 88, 37, 76, 135, 232, 74, 248, 224, 168, 37, 125, 205, 198, 138, 31, 75, 60, 134, 177, 9, 133, 80, 98, 174, 100, 141, 135, 118, 238, 178, 213, 109, 241, 67, 13, 52, 194, 212, 211, 167, 113, 74, 254, 243, 36, 104, 136, 193, 59, 115, 155, 54, 123, 44, 62, 61, 89, 57, 226, 113, 145, 54, 241, 81, 224, 124, 17, 37, 85, 30, 217, 224, 38, 126, 161, 208, 102, 13, 185, 252, 145, 133, 34, 69, 134, 100, 100, 223, 239, 88, 206, 5, 7, 11, 194, 69]
theorem allM_zero : allM (List.replicate 32 0) 0 = allK := by
  have h : List.range 32 = List.range' 0 4 ++ (List.range' 4 4 ++ (List.range' 8 4 ++ (List.range' 12 4 ++ (List.range' 16 4 ++ (List.range' 20 4 ++ (List.range' 24 4 ++ (List.range' 28 4))))))) := by decide
  unfold allM
  rw [h]
  simp only [List.flatMap_append]
  rw [rowsK0, rowsK4, rowsK8, rowsK12, rowsK16, rowsK20, rowsK24, rowsK28]
  rfl
def leafK : List UInt8 := [44, 2, 183, 236, 69, 109, 109, 1, 45, 177, 90, 166, 239, 29, 205, 79, 81, 210, 141, 214, 64, 98, 25, 220, 119, 216, 212, 30, 107, 154, 9, 73]
theorem leafM_zero : leafM (List.replicate 32 0) 0 = leafK := by
  unfold leafM leafOf
  rw [allM_zero]
  decide +kernel
end
section
open Go.RowKit

theorem piecesM_congr {f g : Nat → List UInt8} : ∀ n, (∀ k, k < n → f k = g k) → piecesM f n = piecesM g n
  | 0, _ => rfl
  | n + 1, h => by rw [piecesM_succ, piecesM_succ, piecesM_congr n (fun k hk => h k (by omega)), h n (by omega)]
theorem sign_openB (seed : List UInt8) (n : Nat) (d : List UInt8) {k : Nat} (h : k < 32) : ((signM seed n d).drop (k * 16)).take 16 = openM seed n d k := by
  have e := pieceAt_pieces (f := openM seed n d) (fun _ => secretM_length _ _ _ _) h
  have hl : (piecesM (openM seed n d) 32).length = 512 := piecesM_length (f := openM seed n d) (fun _ => secretM_length _ _ _ _) 32
  unfold pieceAt at e
  rw [← e, signM, List.drop_append_of_le_length (by rw [hl]; omega), List.take_append_of_le_length (by rw [List.length_drop, hl]; omega), Nat.mul_comm 16 k]
theorem sign_otherB (seed : List UInt8) (n : Nat) (d : List UInt8) {k : Nat} (h : k < 32) : ((signM seed n d).drop (512 + k * 16)).take 16 = otherM seed n d k := by
  have e := pieceAt_pieces (f := otherM seed n d) (fun _ => coverM_length _) h
  have hl : (piecesM (openM seed n d) 32).length = 512 := piecesM_length (f := openM seed n d) (fun _ => secretM_length _ _ _ _) 32
  unfold pieceAt at e
  rw [← e, signM, ← List.drop_drop, List.drop_left' hl, Nat.mul_comm 16 k]
theorem fromS_sign (seed : List UInt8) (n : Nat) (d : List UInt8) : fromS (signM seed n d) d = leafM seed n := by
  unfold fromS leafM
  congr 1
  refine piecesM_congr (g := rowM seed n) 32 fun k hk => ?_
  unfold rowS
  rw [sign_openB seed n d hk, sign_otherB seed n d hk, row_back]
section
variable {P : Program} {w : World}
theorem wp_known {o : Oper} {a : Act} {K : Act → World → Prop} {Q : Exit → Act → World → Prop} (v : Value) (hr : (execOp a.eval o).run P w = .ok (.value v) w) (h : K (a.put o.dst v) w) : o.wp P a w K Q := by
  unfold Oper.wp
  rw [hr]
  exact h
theorem wp_bin2 {o : Oper} {a : Act} {K : Act → World → Prop} {Q : Exit → Act → World → Prop} (op : BinOp) (t : TypeId) {t' : TypeId} (x y : Operand) (ho : o.op = .binOp op t x y t') (u v : Value) {r : Value} (hx : a.eval x = u) (hy : a.eval y = v)
    (hg : (eqGuard op t x y u v).run P w = .ok () w) (hb : (binOp op t u v).run P w = .ok r w) (h : K (a.put o.dst r) w) : o.wp P a w K Q := by
  refine wp_known r ?_ h
  unfold execOp
  simp only [ho, hx, hy, Sem.run_bind, hg, hb, Result.andThen_ok, Sem.run_pure]
end
theorem eqD_self (D : List UInt8) (hD : D.length = 32) : (∀ (x y : Operand) (w : World), (eqGuard .eql 31 x y (.agg (bv D).toArray) (.agg (bv D).toArray)).run Try.prog w = .ok () w) ∧ ∀ w, (binOp .eql 31 (.agg (bv D).toArray) (.agg (bv D).toArray)).run Try.prog w = .ok (.bool true) w :=
  ⟨fun x y w => run_eqGuard w .eql 31 x y _ _ (.inl rfl) (by kernel_rfl), fun w => by have := run_eqD w 31 5 32 Try.underlying31 Try.underlying5 (by kernel_rfl) D D hD hD; rw [this, beq_self_eq_true]⟩
def fiveD : List UInt8 := 5 :: List.replicate 31 0
set_option maxRecDepth 100000 in
set_option maxHeartbeats 4000000 in
theorem LAwake (w : World) : Calls Try.prog 10 #[] w fun e w' => e = .returned (.bool true) ∧ Ext w w' := by
  have hzk := key_zero
  have hkzl := keyC_len (seed := List.replicate 32 0) (by simp) 0
  have hzd := digest_zero
  have hdz : (bv (List.replicate 32 0)).length = 32 := by simp
  have hnew := fun W => NewKey (List.replicate 32 0) (by simp) 0 W
  have hsg := fun W => Sign (List.replicate 32 0) (by simp) 0 (by decide) fiveD (by decide) W
  have hfr := fun W => From (signM (List.replicate 32 0) 0 fiveD) (signM_length _ _ _) fiveD (by decide) W
  have hlf := fun W => KLeaf (List.replicate 32 0) (by simp) 0 (by decide) W
  rw [fromS_sign] at hfr
  have hko := keyC_one (List.replicate 32 0) 0
  have heq := eqD_self (leafM (List.replicate 32 0) 0) (leafOf_length _)
  have hne : (∀ (x y : Operand) (w : World), (eqGuard .neq 31 x y (.agg (bv (leafM (List.replicate 32 0) 0)).toArray) (.agg (bv (List.replicate 32 0)).toArray)).run Try.prog w = .ok () w) ∧ ∀ w, (binOp .neq 31 (.agg (bv (leafM (List.replicate 32 0) 0)).toArray) (.agg (bv (List.replicate 32 0)).toArray)).run Try.prog w = .ok (.bool true) w :=
    ⟨fun x y w => run_eqGuard w .neq 31 x y _ _ (.inr rfl) (by kernel_rfl), fun w => by
      have := run_neD w 31 5 32 Try.underlying31 Try.underlying5 (by kernel_rfl) leafK (List.replicate 32 0) (by decide) (by simp)
      rw [leafM_zero, this]
      have e : (!(leafK == List.replicate 32 0)) = true := by decide
      rw [e]⟩
  have hdl : (bv fiveD).length = 32 := by decide
  have hdo := bv_one fiveD
  have hd5 : ∃ v, v = Value.agg (bv fiveD).toArray := ⟨_, rfl⟩
  have hz0 : ∃ ZB : List Value, ZB = bv (List.replicate 32 0) := ⟨_, rfl⟩
  obtain ⟨ZB, hzb⟩ := hz0
  obtain ⟨DB, hdb⟩ : ∃ DB : List Value, DB = bv fiveD := ⟨_, rfl⟩
  have hzb2 : ∀ (o : Oper) (a : Act) (w : World), o.op = .build 31 #[] → (execOp a.eval o).run Try.prog w = .ok (.value (.agg ZB.toArray)) w := by
    intro o a w ho
    rw [hzb]
    unfold execOp
    rw [ho]
    kernel_rfl
  rw [← hzb] at hzd hdz hnew hne
  rw [← hdb] at hsg hfr hdl hdo
  generalize bv (leafM (List.replicate 32 0) 0) = R at *
  generalize hSC : bv (signM (List.replicate 32 0) 0 fiveD) = SC at *
  clear hSC
  have hkz : keyC (List.replicate 32 0) 0 = keyC (List.replicate 32 0) 0 := rfl
  generalize keyC (List.replicate 32 0) 0 = KC at *
  have HZE := Lib.hid hzb
  have HDE := Lib.hid hdb
  have HKL := Lib.hid hkzl
  have HDL := Lib.hid hdl
  have HDZ := Lib.hid hdz
  have HNEW := Lib.hid hnew
  have HSG := Lib.hid hsg
  have HFR := Lib.hid hfr
  have HLF := Lib.hid hlf
  have HEQ := Lib.hid heq
  have HNE := Lib.hid hne
  have HZB2 := Lib.hid hzb2
  clear hzb hdb hkzl hdl hdz hnew hsg hfr hlf heq hne hzb2 hd5 hkz
  go_enter Try.func10, Try.ntmps10
  go_wp2_with (first
    | (refine wpList_build (.inl rfl) 22 _ rfl (.agg (bv (List.replicate 32 0)).toArray) (by kernel_rfl) ?_; rw [← HZE.out])
    | fail)
  refine (HNEW.out _).mono ?_
  rintro e w1 ⟨rfl, hx1⟩
  have hb0 : Blk ((w1.alloc (.cells KC.toArray 28)).alloc (.cells DB.toArray 31)).drew w1.heap.size 28 KC := ((Blk.new _ _ _).keep ((Ext.refl _).alloc _) (by simp)).keep (Ext.refl _).drew (by simp)
  have hb1 : Blk ((w1.alloc (.cells KC.toArray 28)).alloc (.cells DB.toArray 31)).drew (w1.heap.size + 1) 31 DB := (Blk.fresh (by simp) _ _).keep (Ext.refl _).drew (by simp)
  have hx2 : Ext w ((w1.alloc (.cells KC.toArray 28)).alloc (.cells DB.toArray 31)).drew := ((hx1.alloc _).alloc _).trans (Ext.refl _).drew
  have HB0 := Lib.hid hb0
  have HB1 := Lib.hid hb1
  have HX2 := Lib.hid hx2
  clear hb0 hb1 hx2
  go_wp2_with (first
    | (refine wpList_alloc _ rfl 28 rfl _ hzk ?_)
    | (refine wpList_store_new _ rfl 28 (.tmp 1) (.tmp 4) rfl rfl KC KC _ rfl (key_size HKL.out) rfl hko ?_)
    | (refine wpList_build (.inl rfl) 31 _ rfl (.agg (bv fiveD).toArray) (by kernel_rfl) ?_; rw [← HDE.out])
    | (refine wpList_alloc _ rfl 31 rfl _ hzd ?_)
    | (refine wpList_store_new _ rfl 31 (.tmp 2) (.tmp 5) rfl rfl ZB DB _ rfl (digest_size HDL.out) (by rw [HDL.out, HDZ.out]) hdo ?_)
    | fail)
  simp only [World.size_alloc]
  refine stab_plain Ext ext_refl ext_trans [[0], [1], [0, 1, 2], [3], [0, 1, 2, 3, 4], [5], [0, 1, 2, 3, 4, 5, 6], [0, 1, 2, 3, 4, 5, 6, 7], [0, 1, 2, 3, 4, 5, 6, 7, 8], [0, 1, 2, 3, 4, 5, 6, 7, 8, 9], [0, 1, 2, 3, 4, 5, 6, 7, 8, 9, 10], [0, 1, 2, 3, 4, 5, 6, 7, 8, 11], [0, 1, 2, 3, 4, 5, 6, 7, 8, 9, 10, 11, 12], [0, 1, 2, 3, 4, 5, 6, 7, 8, 9, 10, 11, 12, 13], [0, 1, 2, 3, 4, 5, 6, 7, 8, 9, 10, 11, 12, 13, 14]] (fun i v wv => match i with | 0 => v = .agg KC.toArray | 1 => v = .agg DB.toArray | 2 => v = .agg SC.toArray | 3 => v = .agg DB.toArray | 4 => v = .agg R.toArray | 5 => v = .agg KC.toArray | 6 => v = .agg R.toArray | 7 => v = .bool true | 8 => v = .bool true | 9 => v = .agg KC.toArray | 10 => v = .agg R.toArray | 11 => v = .agg ZB.toArray | 12 => v = .bool true | 13 => v = .bool true | 14 => v = .bool true | _ => True) (by kernel_rfl) (by kernel_rfl) (by kernel_rfl) ?_ ?_ ?_
  · intro i v w1 w2 h hx
    match i, h with
    | 0, h => exact h
    | 1, h => exact h
    | 2, h => exact h
    | 3, h => exact h
    | 4, h => exact h
    | 5, h => exact h
    | 6, h => exact h
    | 7, h => exact h
    | 8, h => exact h
    | 9, h => exact h
    | 10, h => exact h
    | 11, h => exact h
    | 12, h => exact h
    | 13, h => exact h
    | 14, h => exact h
    | i + 15, h => trivial
  · intro i hi o ho
    match i, hi, ho with
    | 0, _, ho =>
      obtain rfl := Option.some.inj ho
      intro s W hX hd K hK
      rw [if_pos (wanted_plain rfl)]
      clear hd
      replace hK : ∀ (v : Value) (W' : World), Ext W W' → (v = .agg KC.toArray) → _ := hK
      simp only [mkOf, List.map_cons, List.map_nil, Act.put, List.setIfInBounds_toArray, List.set_cons_succ, List.set_cons_zero, Nat.reduceAdd, Nat.zero_add] at hK ⊢
      refine wp_load_agg 28 (.tmp 1) rfl _ rfl KC _ Try.underlying28 rfl (key_size HKL.out) (HB0.out.keep hX (by simp)).cells ?_
      exact hK _ _ (Ext.refl _) rfl
    | 1, _, ho =>
      obtain rfl := Option.some.inj ho
      intro s W hX hd K hK
      rw [if_pos (wanted_plain rfl)]
      clear hd
      replace hK : ∀ (v : Value) (W' : World), Ext W W' → (v = .agg DB.toArray) → _ := hK
      simp only [mkOf, List.map_cons, List.map_nil, Act.put, List.setIfInBounds_toArray, List.set_cons_succ, List.set_cons_zero, Nat.reduceAdd, Nat.zero_add] at hK ⊢
      refine wp_load_agg 31 (.tmp 2) rfl _ rfl DB _ Try.underlying31 rfl (digest_size HDL.out) (HB1.out.keep hX (by simp)).cells ?_
      exact hK _ _ (Ext.refl _) rfl
    | 2, _, ho =>
      obtain rfl := Option.some.inj ho
      intro s W hX hd K hK
      rw [if_pos (wanted_plain rfl)]
      have d6 : (s 0) = .agg KC.toArray := hd 0 (by decide) (by decide)
      have d7 : (s 1) = .agg DB.toArray := hd 1 (by decide) (by decide)
      clear hd
      replace hK : ∀ (v : Value) (W' : World), Ext W W' → (v = .agg SC.toArray) → _ := hK
      simp only [mkOf, List.map_cons, List.map_nil, Act.put, List.setIfInBounds_toArray, List.set_cons_succ, List.set_cons_zero, Nat.reduceAdd, Nat.zero_add] at hK ⊢
      simp only [d6, d7] at hK ⊢
      go_simp
      refine (HSG.out _).mono ?_
      rintro e w' ⟨rfl, hx⟩
      exact hK _ _ hx rfl
    | 3, _, ho =>
      obtain rfl := Option.some.inj ho
      intro s W hX hd K hK
      rw [if_pos (wanted_plain rfl)]
      clear hd
      replace hK : ∀ (v : Value) (W' : World), Ext W W' → (v = .agg DB.toArray) → _ := hK
      simp only [mkOf, List.map_cons, List.map_nil, Act.put, List.setIfInBounds_toArray, List.set_cons_succ, List.set_cons_zero, Nat.reduceAdd, Nat.zero_add] at hK ⊢
      refine wp_load_agg 31 (.tmp 2) rfl _ rfl DB _ Try.underlying31 rfl (digest_size HDL.out) (HB1.out.keep hX (by simp)).cells ?_
      exact hK _ _ (Ext.refl _) rfl
    | 4, _, ho =>
      obtain rfl := Option.some.inj ho
      intro s W hX hd K hK
      rw [if_pos (wanted_plain rfl)]
      have d8 : (s 2) = .agg SC.toArray := hd 2 (by decide) (by decide)
      have d9 : (s 3) = .agg DB.toArray := hd 3 (by decide) (by decide)
      clear hd
      replace hK : ∀ (v : Value) (W' : World), Ext W W' → (v = .agg R.toArray) → _ := hK
      simp only [mkOf, List.map_cons, List.map_nil, Act.put, List.setIfInBounds_toArray, List.set_cons_succ, List.set_cons_zero, Nat.reduceAdd, Nat.zero_add] at hK ⊢
      simp only [d8, d9] at hK ⊢
      go_simp
      refine (HFR.out _).mono ?_
      rintro e w' ⟨rfl, hx⟩
      exact hK _ _ hx rfl
    | 5, _, ho =>
      obtain rfl := Option.some.inj ho
      intro s W hX hd K hK
      rw [if_pos (wanted_plain rfl)]
      clear hd
      replace hK : ∀ (v : Value) (W' : World), Ext W W' → (v = .agg KC.toArray) → _ := hK
      simp only [mkOf, List.map_cons, List.map_nil, Act.put, List.setIfInBounds_toArray, List.set_cons_succ, List.set_cons_zero, Nat.reduceAdd, Nat.zero_add] at hK ⊢
      refine wp_load_agg 28 (.tmp 1) rfl _ rfl KC _ Try.underlying28 rfl (key_size HKL.out) (HB0.out.keep hX (by simp)).cells ?_
      exact hK _ _ (Ext.refl _) rfl
    | 6, _, ho =>
      obtain rfl := Option.some.inj ho
      intro s W hX hd K hK
      rw [if_pos (wanted_plain rfl)]
      have d11 : (s 5) = .agg KC.toArray := hd 5 (by decide) (by decide)
      clear hd
      replace hK : ∀ (v : Value) (W' : World), Ext W W' → (v = .agg R.toArray) → _ := hK
      simp only [mkOf, List.map_cons, List.map_nil, Act.put, List.setIfInBounds_toArray, List.set_cons_succ, List.set_cons_zero, Nat.reduceAdd, Nat.zero_add] at hK ⊢
      simp only [d11] at hK ⊢
      go_simp
      refine (HLF.out _).mono ?_
      rintro e w' ⟨rfl, hx⟩
      exact hK _ _ hx rfl
    | 7, _, ho =>
      obtain rfl := Option.some.inj ho
      intro s W hX hd K hK
      rw [if_pos (wanted_plain rfl)]
      have d10 : (s 4) = .agg R.toArray := hd 4 (by decide) (by decide)
      have d12 : (s 6) = .agg R.toArray := hd 6 (by decide) (by decide)
      clear hd
      replace hK : ∀ (v : Value) (W' : World), Ext W W' → (v = .bool true) → _ := hK
      simp only [mkOf, List.map_cons, List.map_nil, Act.put, List.setIfInBounds_toArray, List.set_cons_succ, List.set_cons_zero, Nat.reduceAdd, Nat.zero_add] at hK ⊢
      simp only [d10, d12] at hK ⊢
      refine wp_bin2 .eql 31 (.tmp 10) (.tmp 12) rfl _ _ rfl rfl (HEQ.out.1 _ _ W) (HEQ.out.2 W) ?_
      exact hK _ _ (Ext.refl _) rfl
    | 8, _, ho =>
      obtain rfl := Option.some.inj ho
      intro s W hX hd K hK
      rw [if_pos (wanted_plain rfl)]
      have d13 : (s 7) = .bool true := hd 7 (by decide) (by decide)
      clear hd
      replace hK : ∀ (v : Value) (W' : World), Ext W W' → (v = .bool true) → _ := hK
      simp only [mkOf, List.map_cons, List.map_nil, Act.put, List.setIfInBounds_toArray, List.set_cons_succ, List.set_cons_zero, Nat.reduceAdd, Nat.zero_add] at hK ⊢
      simp only [d13] at hK ⊢
      go_simp
      exact hK _ _ (Ext.refl _) rfl
    | 9, _, ho =>
      obtain rfl := Option.some.inj ho
      intro s W hX hd K hK
      have d14 : (s 8) = .bool true := hd 8 (by decide) (by decide)
      clear hd
      replace hK : ∀ (v : Value) (W' : World), Ext W W' → (v = .agg KC.toArray) → _ := hK
      simp only [mkOf, List.map_cons, List.map_nil, Act.put, List.setIfInBounds_toArray, List.set_cons_succ, List.set_cons_zero, Nat.reduceAdd, Nat.zero_add] at hK ⊢
      simp only [d14] at hK ⊢
      rw [if_pos (by kernel_rfl)]
      refine wp_load_agg 28 (.tmp 1) rfl _ rfl KC _ Try.underlying28 rfl (key_size HKL.out) (HB0.out.keep hX (by simp)).cells ?_
      exact hK _ _ (Ext.refl _) rfl
    | 10, _, ho =>
      obtain rfl := Option.some.inj ho
      intro s W hX hd K hK
      have d14 : (s 8) = .bool true := hd 8 (by decide) (by decide)
      have d15 : (s 9) = .agg KC.toArray := hd 9 (by decide) (by decide)
      clear hd
      replace hK : ∀ (v : Value) (W' : World), Ext W W' → (v = .agg R.toArray) → _ := hK
      simp only [mkOf, List.map_cons, List.map_nil, Act.put, List.setIfInBounds_toArray, List.set_cons_succ, List.set_cons_zero, Nat.reduceAdd, Nat.zero_add] at hK ⊢
      simp only [d14, d15] at hK ⊢
      rw [if_pos (by kernel_rfl)]
      go_simp
      refine (HLF.out _).mono ?_
      rintro e w' ⟨rfl, hx⟩
      exact hK _ _ hx rfl
    | 11, _, ho =>
      obtain rfl := Option.some.inj ho
      intro s W hX hd K hK
      have d14 : (s 8) = .bool true := hd 8 (by decide) (by decide)
      clear hd
      replace hK : ∀ (v : Value) (W' : World), Ext W W' → (v = .agg ZB.toArray) → _ := hK
      simp only [mkOf, List.map_cons, List.map_nil, Act.put, List.setIfInBounds_toArray, List.set_cons_succ, List.set_cons_zero, Nat.reduceAdd, Nat.zero_add] at hK ⊢
      simp only [d14] at hK ⊢
      rw [if_pos (by kernel_rfl)]
      refine wp_known _ (HZB2.out _ _ W rfl) ?_
      exact hK _ _ (Ext.refl _) rfl
    | 12, _, ho =>
      obtain rfl := Option.some.inj ho
      intro s W hX hd K hK
      have d14 : (s 8) = .bool true := hd 8 (by decide) (by decide)
      have d16 : (s 10) = .agg R.toArray := hd 10 (by decide) (by decide)
      have d17 : (s 11) = .agg ZB.toArray := hd 11 (by decide) (by decide)
      clear hd
      replace hK : ∀ (v : Value) (W' : World), Ext W W' → (v = .bool true) → _ := hK
      simp only [mkOf, List.map_cons, List.map_nil, Act.put, List.setIfInBounds_toArray, List.set_cons_succ, List.set_cons_zero, Nat.reduceAdd, Nat.zero_add] at hK ⊢
      simp only [d14, d16, d17] at hK ⊢
      rw [if_pos (by kernel_rfl)]
      refine wp_bin2 .neq 31 (.tmp 16) (.tmp 17) rfl _ _ rfl rfl (HNE.out.1 _ _ W) (HNE.out.2 W) ?_
      exact hK _ _ (Ext.refl _) rfl
    | 13, _, ho =>
      obtain rfl := Option.some.inj ho
      intro s W hX hd K hK
      rw [if_pos (wanted_plain rfl)]
      have d14 : (s 8) = .bool true := hd 8 (by decide) (by decide)
      have d18 : (s 12) = .bool true := hd 12 (by decide) (by decide)
      clear hd
      replace hK : ∀ (v : Value) (W' : World), Ext W W' → (v = .bool true) → _ := hK
      simp only [mkOf, List.map_cons, List.map_nil, Act.put, List.setIfInBounds_toArray, List.set_cons_succ, List.set_cons_zero, Nat.reduceAdd, Nat.zero_add] at hK ⊢
      simp only [d14, d18] at hK ⊢
      go_simp
      exact hK _ _ (Ext.refl _) rfl
    | 14, _, ho =>
      obtain rfl := Option.some.inj ho
      intro s W hX hd K hK
      rw [if_pos (wanted_plain rfl)]
      have d19 : (s 13) = .bool true := hd 13 (by decide) (by decide)
      clear hd
      replace hK : ∀ (v : Value) (W' : World), Ext W W' → (v = .bool true) → _ := hK
      simp only [mkOf, List.map_cons, List.map_nil, Act.put, List.setIfInBounds_toArray, List.set_cons_succ, List.set_cons_zero, Nat.reduceAdd, Nat.zero_add] at hK ⊢
      simp only [d19] at hK ⊢
      go_simp
      exact hK _ _ (Ext.refl _) rfl
    | i + 15, hi, _ => exact absurd hi (by simp)
  · intro s W hX hd
    have d6 : (s 0) = .agg KC.toArray := hd 0 (by decide)
    have d7 : (s 1) = .agg DB.toArray := hd 1 (by decide)
    have d8 : (s 2) = .agg SC.toArray := hd 2 (by decide)
    have d9 : (s 3) = .agg DB.toArray := hd 3 (by decide)
    have d10 : (s 4) = .agg R.toArray := hd 4 (by decide)
    have d11 : (s 5) = .agg KC.toArray := hd 5 (by decide)
    have d12 : (s 6) = .agg R.toArray := hd 6 (by decide)
    have d13 : (s 7) = .bool true := hd 7 (by decide)
    have d14 : (s 8) = .bool true := hd 8 (by decide)
    have d15 : (s 9) = .agg KC.toArray := hd 9 (by decide)
    have d16 : (s 10) = .agg R.toArray := hd 10 (by decide)
    have d17 : (s 11) = .agg ZB.toArray := hd 11 (by decide)
    have d18 : (s 12) = .bool true := hd 12 (by decide)
    have d19 : (s 13) = .bool true := hd 13 (by decide)
    have d0 : (s 14) = .bool true := hd 14 (by decide)
    clear hd
    simp only [mkOf, List.map_cons, List.map_nil, Act.put, List.setIfInBounds_toArray, List.set_cons_succ, List.set_cons_zero, Nat.reduceAdd, Nat.zero_add]
    (try simp only [Exit.then])
    go_wp2
    go_ret
    exact ⟨by simp [d0], HX2.out.trans hX⟩
end
end Go.Proofs.Ytfoomnibfibfnaa

/- The walk of lamp's Leaf of a key. Conditions: the seed has its length, the number is in its bounds. -/
import Derived.Test.YtfoomnibfibfnaaLLeafW
set_option linter.unusedVariables false
set_option linter.unusedSimpArgs false
set_option linter.unnecessarySimpa false
namespace Go.Proofs.Ytfoomnibfibfnaa
open Go.RowKit

section
variable {P : Program} {w : World}
theorem wp_load_agg {o : Oper} {a : Act} {K : Act → World → Prop} {Q : Exit → Act → World → Prop} (ty : TypeId) (x : Operand) (ho : o.op = .load ty x)
    (ad : Addr) (hx : a.eval x = .pointer (some ad)) (cs : List Value) (d : TypeDesc) (hu : P.underlying ty = some d) (hd : isAggD d = true) (hi : (P.info? ty).map (·.size) = some cs.length) (hc : Cells w ad cs)
    (h : K (a.put o.dst (.agg cs.toArray)) w) : o.wp P a w K Q := by
  unfold Oper.wp execOp
  simp only [ho, hx, Instr.loadAt, Instr.sureAddr, Sem.run_bind, Sem.run_pure, Result.andThen_ok, run_load_agg w ty ad cs d hu hd hi hc]
  exact h
theorem run_build_arr (w : World) (t : TypeId) (parts : Array (Nat × Value)) (n : Nat) (e : TypeId) (size : Nat) (z r : List Value) (segs : List (Nat × List Value)) (hu : P.underlying t = some (.array n e))
    (hz : (P.info? t).bind (fun i => i.zero.map (·.cells)) = some z.toArray) (hsz : (P.info? e).map (·.size) = some size)
    (hs : parts.toList.map (fun p => (p.1, p.2.cells)) = segs.map (fun p => (p.1, p.2.toArray))) (hf : fillL (fun i => some (i * size, size)) z segs = some r) : (Instr.build t parts).run P w = .ok (.agg r.toArray) w := by
  obtain ⟨i, hi, hzz⟩ := Option.bind_eq_some_iff.1 hz
  obtain ⟨zv, hzv, hzc⟩ := Option.map_eq_some_iff.1 hzz
  obtain ⟨j, hj, rfl⟩ := Option.map_eq_some_iff.1 hsz
  have hfs := fill_segs (fun i => some (i * j.size, j.size)) parts.toList segs z r hs hf
  unfold Instr.build
  rw [Sem.run_bind]
  simp [zeroValue, typeInfo, hi, hzv, run_underlying hu, sizeOf, hj, hzc, hfs]
theorem wp_build_arr {o : Oper} {a : Act} {K : Act → World → Prop} {Q : Exit → Act → World → Prop} (t : TypeId) (parts : Array (Nat × Operand)) (ho : o.op = .build t parts) (n : Nat) (e : TypeId) (size : Nat) (z r : List Value) (segs : List (Nat × List Value)) (hu : P.underlying t = some (.array n e))
    (hz : (P.info? t).bind (fun i => i.zero.map (·.cells)) = some z.toArray) (hsz : (P.info? e).map (·.size) = some size)
    (hs : (parts.map fun p => (p.1, a.eval p.2)).toList.map (fun p => (p.1, p.2.cells)) = segs.map (fun p => (p.1, p.2.toArray))) (hf : fillL (fun i => some (i * size, size)) z segs = some r)
    (h : K (a.put o.dst (.agg r.toArray)) w) : o.wp P a w K Q := by
  unfold Oper.wp execOp
  simp only [ho, Sem.run_bind, run_build_arr w t _ n e size z r segs hu hz hsz hs hf, Result.andThen_ok, Sem.run_pure]
  exact h
end
theorem all_zero : (Try.prog.info? 72).bind (fun i => i.zero.map (·.cells)) = some (List.replicate 1024 (Value.int .u8 0)).toArray := by kernel_rfl
/-- The first k rows, then zeros. -/
def rowsC (f : Nat → List UInt8) (Z : List Value) (k : Nat) : List Value := bv (piecesM f k) ++ Z.drop (k * 32)
theorem rowsC_len {f : Nat → List UInt8} (hf : ∀ k, (f k).length = 32) {Z : List Value} (hz : Z.length = 1024) {k : Nat} (hk : k ≤ 32) : (rowsC f Z k).length = 1024 := by
  unfold rowsC; rw [List.length_append, bv_length, piecesM_length hf, List.length_drop, hz]; omega
theorem rowsC_step {f : Nat → List UInt8} (hf : ∀ k, (f k).length = 32) {Z : List Value} (hz : Z.length = 1024) {k : Nat} (hk : k < 32) : putAt (rowsC f Z k) (k * 32) (bv (f k)) = rowsC f Z (k + 1) := by
  have h1 : (bv (piecesM f k)).length = k * 32 := by rw [bv_length, piecesM_length hf, Nat.mul_comm]
  have h2 : (bv (f k)).length = 32 := by rw [bv_length, hf]
  unfold putAt rowsC
  rw [h2, List.take_left' h1, ← List.drop_drop, List.drop_left' h1, List.drop_drop, piecesM_succ, bv_append, Nat.succ_mul]
set_option maxRecDepth 100000 in
set_option maxHeartbeats 4000000 in
theorem KLeaf (seed : List UInt8) (hs : seed.length = 32) (n : Nat) (hn : (Lit.int .u32 (n : Int)).wf = true) (w : World) :
    Calls Try.prog 11 #[.agg (keyC seed n).toArray] w fun e w' => e = .returned (.agg (bv (leafM seed n)).toArray) ∧ Ext w w' := by
  have hzd := digest_zero
  have hzt := two_zero
  have hdl : (bv (List.replicate 32 0)).length = 32 := by simp
  generalize bv (List.replicate 32 0) = D at hzd hzt hdl
  obtain ⟨Z, hz, hzl⟩ : ∃ Z : List Value, (Try.prog.info? 72).bind (fun i => i.zero.map (·.cells)) = some Z.toArray ∧ Z.length = 1024 := ⟨_, all_zero, List.length_replicate⟩
  have hlf := fun W => LeafW (allM seed n) (piecesM_length (f := rowM seed n) (fun k => rowM_length _ _ _) 32) W
  have hll := fun k (h : k ≤ 32) => rowsC_len (f := rowM seed n) (fun k => rowM_length _ _ _) hzl h
  have hst := fun k (h : k < 32) => rowsC_step (f := rowM seed n) (fun k => rowM_length _ _ _) hzl h
  have hl0 : rowsC (rowM seed n) Z 0 = Z := by simp [rowsC, piecesM, bv]
  have hl32 : rowsC (rowM seed n) Z 32 = bv (allM seed n) := by
    have : Z.drop (32 * 32) = [] := List.drop_of_length_le (by rw [hzl]; decide)
    unfold rowsC allM
    rw [this, List.append_nil]
    rfl
  have hkl := keyC_len hs n
  have hsec := fun (k : Nat) (hk : k < 32) (bt : Nat) (hbt : bt < 2) (x : Int) (hx : x = (bt : Int)) W => Secret_i seed hs n hn k hk bt hbt x hx W
  have hrl : (bv (leafM seed n)).length = 32 := by rw [bv_length]; exact leafOf_length _
  have hro := bv_one (leafM seed n)
  have hlm : leafOf (allM seed n) = leafM seed n := rfl
  rw [hlm] at hlf
  generalize bv (leafM seed n) = R at *
  have hal : (bv (allM seed n)).length = 1024 := by rw [bv_length]; exact piecesM_length (f := rowM seed n) (fun k => rowM_length _ _ _) 32
  generalize bv (allM seed n) = AL at *
  have hb0 : Blk (((w.alloc (.cells (keyC seed n).toArray 28)).alloc (.cells D.toArray 31)).alloc (.cells Z.toArray 72)) w.heap.size 28 (keyC seed n) := ((Blk.new _ _ _).keep ((Ext.refl _).alloc _) (by simp)).keep ((Ext.refl _).alloc _) (by simp)
  have hb1 : Blk (((w.alloc (.cells (keyC seed n).toArray 28)).alloc (.cells D.toArray 31)).alloc (.cells Z.toArray 72)) (w.heap.size + 1) 31 D := (Blk.fresh (by simp) _ _).keep ((Ext.refl _).alloc _) (by simp)
  have hb2 : Blk (((w.alloc (.cells (keyC seed n).toArray 28)).alloc (.cells D.toArray 31)).alloc (.cells Z.toArray 72)) (w.heap.size + 1 + 1) 72 Z := Blk.fresh (by simp) _ _
  have hx0 : Ext w (((w.alloc (.cells (keyC seed n).toArray 28)).alloc (.cells D.toArray 31)).alloc (.cells Z.toArray 72)) := (((Ext.refl w).alloc _).alloc _).alloc _
  obtain ⟨LL, hLL⟩ : ∃ LL, LL = rowsC (rowM seed n) Z := ⟨_, rfl⟩
  rw [← hLL] at hl0 hl32 hll hst
  generalize keyC seed n = KC at *
  have HB0 := Lib.hid hb0
  have HB1 := Lib.hid hb1
  have HB2 := Lib.hid hb2
  have HX0 := Lib.hid hx0
  have HL0 := Lib.hid hl0
  have HL32 := Lib.hid hl32
  have HLLN := Lib.hid hll
  have HST := Lib.hid hst
  have HKL := Lib.hid hkl
  have HSEC := Lib.hid hsec
  have HLF := Lib.hid hlf
  have HRL := Lib.hid hrl
  have HAL := Lib.hid hal
  have HDL := Lib.hid hdl
  clear hb0 hb1 hb2 hx0 hl0 hl32 hll hst hkl hsec hlf hrl hdl hLL hlm hal hzl
  go_enter Try.func11, Try.ntmps11
  go_wp2_with (first
    | (refine wpList_alloc _ rfl 31 rfl _ hzd ?_)
    | (refine wpList_alloc _ rfl 72 rfl _ hz ?_)
    | fail)
  go_loopw [4, 5] (fun p i wr => ∃ k : Nat, k ≤ 32 ∧ i = .int .i64 k ∧ Ext w wr ∧ Blk wr w.heap.size 28 KC ∧ Blk wr (w.heap.size + 1) 31 D ∧ Blk wr (w.heap.size + 1 + 1) 72 (LL k)) (fun _ i _ => 32 - (intOf i).toNat)
  case atStart => exact ⟨0, by omega, rfl, HX0.out, HB0.out, HB1.out, by rw [HL0.out]; exact HB2.out⟩
  case round =>
    clear HX0 HB0 HB1 HB2
    obtain ⟨k, hk, rfl, hx, hb0, hb1, hb2⟩ := hrel
    by_cases hlt : k < 32
    · have hs0 := fun W => HSEC.out k hlt 0 (by decide) 0 rfl W
      have hs1 := fun W => HSEC.out k hlt 1 (by decide) 1 rfl W
      have hc0 := fun W => Cover (secretM seed n k 0) (secretM_length _ _ _ _) W
      have hc1 := fun W => Cover (secretM seed n k 1) (secretM_length _ _ _ _) W
      have hl0 : (bv (coverM (secretM seed n k 0))).length = 16 := by rw [bv_length, coverM_length]
      have hl1 : (bv (coverM (secretM seed n k 1))).length = 16 := by rw [bv_length, coverM_length]
      have hpl : (bv (rowM seed n k)).length = 32 := by rw [bv_length, rowM_length]
      have hpo := bv_one (rowM seed n k)
      have hpe : bv (rowM seed n k) = bv (coverM (secretM seed n k 0)) ++ bv (coverM (secretM seed n k 1)) := by unfold rowM; rw [bv_append]
      have hstk := HST.out k hlt
      generalize bv (secretM seed n k 0) = S0 at *
      generalize bv (secretM seed n k 1) = S1 at *
      generalize bv (coverM (secretM seed n k 0)) = P0 at *
      generalize bv (coverM (secretM seed n k 1)) = P1 at *
      generalize bv (rowM seed n k) = PP at *
      have hfl : fillL (fun i => some (i * 16, 16)) D [(0, P0), (1, P1)] = some PP := by
        have hd := HDL.out
        rw [hpe]
        simp [fillL, hl0, hl1, hd]
      have HS0 := Lib.hid hs0
      have HS1 := Lib.hid hs1
      have HC0 := Lib.hid hc0
      have HC1 := Lib.hid hc1
      have HFL := Lib.hid hfl
      have HPL := Lib.hid hpl
      have HSTK := Lib.hid hstk
      have HLL : Hid ((LL k).length = 1024) := Lib.hid (HLLN.out k (by omega))
      have HX := Lib.hid hx
      have HB0 : Hid (Blk wr.drew w.heap.size 28 KC) := Lib.hid hb0
      have HB1 := Lib.hid hb1
      have HB2 : Hid (Blk wr.drew (w.heap.size + 1 + 1) 72 (LL k)) := Lib.hid hb2
      clear hs0 hs1 hc0 hc1 hfl hpl hpe hstk hx hb0 hb1 hb2 hl0 hl1
      go_wp2_with fail
      generalize hg : w.heap.size + 1 + 1 = g at *
      have HG := Lib.hid hg
      have hdk : decide ((k : Int) < 32) = true := by rw [decide_eq_true_iff]; omega
      simp only [hdk]
      clear hg hdk
      refine stab_store Ext ext_refl ext_trans [[0], [1], [2], [1, 2, 3], [1, 2, 3, 4], [5], [6], [1, 2, 3, 4, 5, 6, 7], [1, 2, 3, 4, 5, 6, 7, 8], [1, 2, 3, 4, 5, 6, 7, 8, 9], [0, 1, 2, 3, 4, 5, 6, 7, 8, 9, 10], [0, 1, 2, 3, 4, 5, 6, 7, 8, 9, 10, 11]] (fun i v wv => match i with | 0 => v = .int .i64 (k : Int) | 1 => v = .agg KC.toArray | 2 => v = .int .i64 (k : Int) | 3 => v = .agg S0.toArray | 4 => v = .agg P0.toArray | 5 => v = .agg KC.toArray | 6 => v = .int .i64 (k : Int) | 7 => v = .agg S1.toArray | 8 => v = .agg P1.toArray | 9 => v = .agg PP.toArray | 10 => v = .pointer (some ⟨g, k * 32, none⟩) | _ => True) (by kernel_rfl) (by kernel_rfl) (by kernel_rfl) (by kernel_rfl) (by simp) ?_ ?_ ?_
      · intro i v w1 w2 h hx
        match i, h with
        | 0, h => exact h
        | 1, h => exact h
        | 2, h => exact h
        | 3, h => exact h
        | 4, h => exact h
        | 5, h => exact h
        | 6, h => exact h
        | 7, h => exact h
        | 8, h => exact h
        | 9, h => exact h
        | 10, h => exact h
        | i + 11, h => trivial
      · intro i hi o ho
        match i, hi, ho with
        | 0, _, ho =>
          obtain rfl := Option.some.inj ho
          intro s W hX hd K hK
          rw [if_pos (wanted_plain rfl)]
          clear hd
          replace hK : ∀ (v : Value) (W' : World), Ext W W' → (v = .int .i64 (k : Int)) → _ := hK
          simp only [mkOf, List.map_cons, List.map_nil, Act.put, List.setIfInBounds_toArray, List.set_cons_succ, List.set_cons_zero, Nat.reduceAdd, Nat.zero_add] at hK ⊢
          go_simp
          exact hK _ _ (Ext.refl _) rfl
        | 1, _, ho =>
          obtain rfl := Option.some.inj ho
          intro s W hX hd K hK
          rw [if_pos (wanted_plain rfl)]
          clear hd
          replace hK : ∀ (v : Value) (W' : World), Ext W W' → (v = .agg KC.toArray) → _ := hK
          simp only [mkOf, List.map_cons, List.map_nil, Act.put, List.setIfInBounds_toArray, List.set_cons_succ, List.set_cons_zero, Nat.reduceAdd, Nat.zero_add] at hK ⊢
          refine wp_load_agg 28 (.tmp 1) rfl _ rfl KC _ Try.underlying28 rfl (key_size HKL.out) (HB0.out.keep hX (by simp)).cells ?_
          exact hK _ _ (Ext.refl _) rfl
        | 2, _, ho =>
          obtain rfl := Option.some.inj ho
          intro s W hX hd K hK
          rw [if_pos (wanted_plain rfl)]
          clear hd
          replace hK : ∀ (v : Value) (W' : World), Ext W W' → (v = .int .i64 (k : Int)) → _ := hK
          simp only [mkOf, List.map_cons, List.map_nil, Act.put, List.setIfInBounds_toArray, List.set_cons_succ, List.set_cons_zero, Nat.reduceAdd, Nat.zero_add] at hK ⊢
          go_simp
          exact hK _ _ (Ext.refl _) rfl
        | 3, _, ho =>
          obtain rfl := Option.some.inj ho
          intro s W hX hd K hK
          rw [if_pos (wanted_plain rfl)]
          have d9 : (s 1) = .agg KC.toArray := hd 1 (by decide) (by decide)
          have d10 : (s 2) = .int .i64 (k : Int) := hd 2 (by decide) (by decide)
          clear hd
          replace hK : ∀ (v : Value) (W' : World), Ext W W' → (v = .agg S0.toArray) → _ := hK
          simp only [mkOf, List.map_cons, List.map_nil, Act.put, List.setIfInBounds_toArray, List.set_cons_succ, List.set_cons_zero, Nat.reduceAdd, Nat.zero_add] at hK ⊢
          simp only [d9, d10] at hK ⊢
          go_simp
          refine (HS0.out _).mono ?_
          rintro e w' ⟨rfl, hx⟩
          exact hK _ _ hx rfl
        | 4, _, ho =>
          obtain rfl := Option.some.inj ho
          intro s W hX hd K hK
          rw [if_pos (wanted_plain rfl)]
          have d11 : (s 3) = .agg S0.toArray := hd 3 (by decide) (by decide)
          clear hd
          replace hK : ∀ (v : Value) (W' : World), Ext W W' → (v = .agg P0.toArray) → _ := hK
          simp only [mkOf, List.map_cons, List.map_nil, Act.put, List.setIfInBounds_toArray, List.set_cons_succ, List.set_cons_zero, Nat.reduceAdd, Nat.zero_add] at hK ⊢
          simp only [d11] at hK ⊢
          go_simp
          refine (HC0.out _).mono ?_
          rintro e w' ⟨rfl, hx⟩
          exact hK _ _ hx rfl
        | 5, _, ho =>
          obtain rfl := Option.some.inj ho
          intro s W hX hd K hK
          rw [if_pos (wanted_plain rfl)]
          clear hd
          replace hK : ∀ (v : Value) (W' : World), Ext W W' → (v = .agg KC.toArray) → _ := hK
          simp only [mkOf, List.map_cons, List.map_nil, Act.put, List.setIfInBounds_toArray, List.set_cons_succ, List.set_cons_zero, Nat.reduceAdd, Nat.zero_add] at hK ⊢
          refine wp_load_agg 28 (.tmp 1) rfl _ rfl KC _ Try.underlying28 rfl (key_size HKL.out) (HB0.out.keep hX (by simp)).cells ?_
          exact hK _ _ (Ext.refl _) rfl
        | 6, _, ho =>
          obtain rfl := Option.some.inj ho
          intro s W hX hd K hK
          rw [if_pos (wanted_plain rfl)]
          clear hd
          replace hK : ∀ (v : Value) (W' : World), Ext W W' → (v = .int .i64 (k : Int)) → _ := hK
          simp only [mkOf, List.map_cons, List.map_nil, Act.put, List.setIfInBounds_toArray, List.set_cons_succ, List.set_cons_zero, Nat.reduceAdd, Nat.zero_add] at hK ⊢
          go_simp
          exact hK _ _ (Ext.refl _) rfl
        | 7, _, ho =>
          obtain rfl := Option.some.inj ho
          intro s W hX hd K hK
          rw [if_pos (wanted_plain rfl)]
          have d13 : (s 5) = .agg KC.toArray := hd 5 (by decide) (by decide)
          have d14 : (s 6) = .int .i64 (k : Int) := hd 6 (by decide) (by decide)
          clear hd
          replace hK : ∀ (v : Value) (W' : World), Ext W W' → (v = .agg S1.toArray) → _ := hK
          simp only [mkOf, List.map_cons, List.map_nil, Act.put, List.setIfInBounds_toArray, List.set_cons_succ, List.set_cons_zero, Nat.reduceAdd, Nat.zero_add] at hK ⊢
          simp only [d13, d14] at hK ⊢
          go_simp
          refine (HS1.out _).mono ?_
          rintro e w' ⟨rfl, hx⟩
          exact hK _ _ hx rfl
        | 8, _, ho =>
          obtain rfl := Option.some.inj ho
          intro s W hX hd K hK
          rw [if_pos (wanted_plain rfl)]
          have d15 : (s 7) = .agg S1.toArray := hd 7 (by decide) (by decide)
          clear hd
          replace hK : ∀ (v : Value) (W' : World), Ext W W' → (v = .agg P1.toArray) → _ := hK
          simp only [mkOf, List.map_cons, List.map_nil, Act.put, List.setIfInBounds_toArray, List.set_cons_succ, List.set_cons_zero, Nat.reduceAdd, Nat.zero_add] at hK ⊢
          simp only [d15] at hK ⊢
          go_simp
          refine (HC1.out _).mono ?_
          rintro e w' ⟨rfl, hx⟩
          exact hK _ _ hx rfl
        | 9, _, ho =>
          obtain rfl := Option.some.inj ho
          intro s W hX hd K hK
          rw [if_pos (wanted_plain rfl)]
          have d12 : (s 4) = .agg P0.toArray := hd 4 (by decide) (by decide)
          have d16 : (s 8) = .agg P1.toArray := hd 8 (by decide) (by decide)
          clear hd
          replace hK : ∀ (v : Value) (W' : World), Ext W W' → (v = .agg PP.toArray) → _ := hK
          simp only [mkOf, List.map_cons, List.map_nil, Act.put, List.setIfInBounds_toArray, List.set_cons_succ, List.set_cons_zero, Nat.reduceAdd, Nat.zero_add] at hK ⊢
          simp only [d12, d16] at hK ⊢
          refine wp_build_arr 71 #[(0, .tmp 12), (1, .tmp 16)] rfl 2 40 16 D PP [(0, P0), (1, P1)] Try.underlying71 hzt (piece_size rfl) (by simp [Value.cells, Act.eval]) HFL.out ?_
          exact hK _ _ (Ext.refl _) rfl
        | 10, _, ho =>
          obtain rfl := Option.some.inj ho
          intro s W hX hd K hK
          rw [if_pos (wanted_plain rfl)]
          have d8 : (s 0) = .int .i64 (k : Int) := hd 0 (by decide) (by decide)
          clear hd
          replace hK : ∀ (v : Value) (W' : World), Ext W W' → (v = .pointer (some ⟨g, k * 32, none⟩)) → _ := hK
          simp only [mkOf, List.map_cons, List.map_nil, Act.put, List.setIfInBounds_toArray, List.set_cons_succ, List.set_cons_zero, Nat.reduceAdd, Nat.zero_add] at hK ⊢
          simp only [d8] at hK ⊢
          go_simp
          exact hK _ _ (Ext.refl _) rfl
        | i + 11, hi, _ => exact absurd hi (by simp)
      · intro o ho
        obtain rfl := Option.some.inj ho
        intro s W hX hd K hK
        rw [if_pos (wanted_plain rfl)]
        have d8 : (s 0) = .int .i64 (k : Int) := hd 0 (by decide)
        have d9 : (s 1) = .agg KC.toArray := hd 1 (by decide)
        have d10 : (s 2) = .int .i64 (k : Int) := hd 2 (by decide)
        have d11 : (s 3) = .agg S0.toArray := hd 3 (by decide)
        have d12 : (s 4) = .agg P0.toArray := hd 4 (by decide)
        have d13 : (s 5) = .agg KC.toArray := hd 5 (by decide)
        have d14 : (s 6) = .int .i64 (k : Int) := hd 6 (by decide)
        have d15 : (s 7) = .agg S1.toArray := hd 7 (by decide)
        have d16 : (s 8) = .agg P1.toArray := hd 8 (by decide)
        have d17 : (s 9) = .agg PP.toArray := hd 9 (by decide)
        have d18 : (s 10) = .pointer (some ⟨g, k * 32, none⟩) := hd 10 (by decide)
        clear hd
        simp only [mkOf, List.map_cons, List.map_nil, Act.put, List.setIfInBounds_toArray, List.set_cons_succ, List.set_cons_zero, Nat.reduceAdd, Nat.zero_add]
        refine wp_store_part W 71 (.tmp 18) (.tmp 17) rfl g (k * 32) (by simpa [Act.eval] using d18) (LL k) PP _ (by simpa [Act.eval] using d17) (HB2.out.keep hX (by simp)) (two_size HPL.out) (by rw [HLL.out, HPL.out]; omega) hpo ?_
        refine hK _ _ ?_
        have hx2 : Ext w W := HX.out.trans ((Ext.refl wr).drew.trans hX)
        have hx9 : Ext w (W.setRow g (putAt (LL k) (k * 32) PP).toArray) := setRow_grown hx2 _ _ (by have := HG.out; omega)
        have hb0 : Blk (W.setRow g (putAt (LL k) (k * 32) PP).toArray) w.heap.size 28 KC := (HB0.out.keep hX (by simp)).keep (setRow_only _) (by have := HG.out; simp; omega)
        have hb1 : Blk (W.setRow g (putAt (LL k) (k * 32) PP).toArray) (w.heap.size + 1) 31 D := ((HB1.out.keep (Ext.refl wr).drew (by simp)).keep hX (by simp)).keep (setRow_only _) (by have := HG.out; simp; omega)
        have hb2 : Blk (W.setRow g (putAt (LL k) (k * 32) PP).toArray) g 72 (LL (k + 1)) := by rw [← HSTK.out]; exact setRow_at (HB2.out.keep hX (by simp))
        generalize W.setRow g (putAt (LL k) (k * 32) PP).toArray = V at *
        have hge := HG.out
        subst hge
        have HX9 := Lib.hid hx9
        have HB90 := Lib.hid hb0
        have HB91 := Lib.hid hb1
        have HB92 := Lib.hid hb2
        clear hx9 hb0 hb1 hb2 hX hK hx2
        (try simp only [Exit.then])
        go_wp2_with fail
        go_roundw
        case rel => exact ⟨k + 1, by omega, by go_num, HX9.out, HB90.out, HB91.out, HB92.out⟩
        case measure => simp [intOf]; omega
    · obtain rfl : k = 32 := by omega
      rw [HL32.out] at hb2
      have hcm := hb2.cells
      have HX := Lib.hid hx
      have HB1 := Lib.hid hb1
      clear hx hb0 hb1 hb2
      go_wp2_with (first
        | (refine wpList_load_agg _ rfl 72 (.tmp 3) rfl _ rfl AL _ Try.underlying72 rfl (all_size HAL.out) hcm ?_)
        | fail)
      refine (HLF.out _).mono ?_
      rintro e w4 ⟨rfl, hx4⟩
      have hr4 : w4.heap[w.heap.size + 1]? = some (.cells D.toArray 31 (0, 0)) := HB1.out.keep hx4 (by simp)
      have hx5 := HX.out.trans hx4
      go_wp2_with (first
        | (refine wpList_store_row _ rfl 31 (.tmp 2) (.tmp 21) rfl (w.heap.size + 1) rfl D R _ rfl hr4 (digest_size HRL.out) (by rw [HRL.out, HDL.out]) hro ?_)
        | fail)
      have hc9 := Blk.cells (t := 31) (setRow_at (cs' := R.toArray) hr4)
      (try simp only [Exit.inBlock, Exit.then])
      refine bodyPost_ret (results_agg rfl _ _ _ _ _ rfl Try.underlying31 rfl (digest_size HRL.out) hc9) rfl ?_
      exact ⟨rfl, setRow_grown hx5 _ _ (by omega)⟩
end Go.Proofs.Ytfoomnibfibfnaa

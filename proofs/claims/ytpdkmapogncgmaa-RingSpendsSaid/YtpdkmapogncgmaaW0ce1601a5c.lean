/- Walks and plain laws, put together in build order. Conditions: what each of them names. -/
import Derived.Test.YtpdkmapogncgmaaW49eec74882
set_option linter.unusedVariables false
set_option linter.unusedSimpArgs false
set_option linter.unnecessarySimpa false
namespace Go.Proofs.Ytpdkmapogncgmaa
section
open Go.RowKit

/-- What a signature's k-th pieces come to. -/
def rowS (S d : List UInt8) (k : Nat) : List UInt8 := rowFrom (bitM d k) ((S.drop (k * 16)).take 16) ((S.drop (512 + k * 16)).take 16)
def fromS (S d : List UInt8) : List UInt8 := leafOf (piecesM (rowS S d) 32)
theorem rowFrom_length {b : Nat} {op ot : List UInt8} (h : ot.length = 16) : (rowFrom b op ot).length = 32 := by
  unfold rowFrom
  split <;> rw [List.length_append, coverM_length, h]
theorem putAt_mid (pre T X : List Value) {n m : Nat} (hn : pre.length = n) (hm : X.length = m) : putAt (pre ++ T) n X = pre ++ X ++ T.drop m := by
  subst hn; subst hm
  unfold putAt
  rw [List.take_left' rfl, ← List.drop_drop, List.drop_left' rfl]
theorem rows_two (f : Nat → List UInt8) {Z X Y : List Value} {k b c : Nat} (hpl : (bv (piecesM f k)).length = k * 32) (hz : Z.length = 1024) (hk : k < 32) (hX : X.length = 16) (hY : Y.length = 16) (hbc : b + c = 1) (hf : bv (f k) = if b = 0 then X ++ Y else Y ++ X) :
    putAt (putAt (rowsC f Z k) (k * 32 + b * 16) X) (k * 32 + c * 16) Y = rowsC f Z (k + 1) := by
  have hT : (Z.drop (k * 32)).drop 32 = Z.drop ((k + 1) * 32) := by rw [List.drop_drop, Nat.succ_mul]
  have hTl : 32 ≤ (Z.drop (k * 32)).length := by rw [List.length_drop, hz]; omega
  unfold rowsC
  rw [piecesM_succ, bv_append, ← hT, hf]
  generalize bv (piecesM f k) = pre at *
  generalize Z.drop (k * 32) = T at *
  rcases (show b = 0 ∧ c = 1 ∨ b = 1 ∧ c = 0 by omega) with ⟨rfl, rfl⟩ | ⟨rfl, rfl⟩
  · rw [show k * 32 + 0 * 16 = k * 32 by omega, putAt_mid pre T X hpl hX, show k * 32 + 1 * 16 = k * 32 + 16 by omega, putAt_mid (pre ++ X) _ Y (by rw [List.length_append, hpl, hX]) hY, List.drop_drop, if_pos rfl]
    simp [List.append_assoc]
  · have e : pre ++ T = (pre ++ T.take 16) ++ T.drop 16 := by rw [List.append_assoc, List.take_append_drop]
    rw [show k * 32 + 1 * 16 = k * 32 + 16 by omega, e, putAt_mid (pre ++ T.take 16) _ X (by rw [List.length_append, hpl, List.length_take]; omega) hX, show k * 32 + 0 * 16 = k * 32 by omega, List.drop_drop, List.append_assoc, List.append_assoc, putAt_mid pre _ Y hpl hY, if_neg (by decide)]
    rw [List.drop_left' (by rw [List.length_take]; omega)]
    simp [List.append_assoc]
set_option maxRecDepth 100000 in
set_option maxHeartbeats 4000000 in
theorem From (S : List UInt8) (hS : S.length = 1024) (d : List UInt8) (hd : d.length = 32) (w : World) :
    Calls Try.prog 37 #[.agg (bv S).toArray, .agg (bv d).toArray] w fun e w' => e = .returned (.agg (bv (fromS S d)).toArray) ∧ Ext w w' := by
  have hzd := digest_zero
  have hdl0 : (bv (List.replicate 32 0)).length = 32 := by simp
  generalize bv (List.replicate 32 0) = D at hzd hdl0
  obtain ⟨Z, hz, hzl⟩ : ∃ Z : List Value, (Try.prog.info? 116).bind (fun i => i.zero.map (·.cells)) = some Z.toArray ∧ Z.length = 1024 := ⟨_, all_zero, List.length_replicate⟩
  have hp1l : ∀ k, k < 32 → ((S.drop (k * 16)).take 16).length = 16 := fun k h => by rw [List.length_take, List.length_drop, hS]; omega
  have hp2l : ∀ k, k < 32 → ((S.drop (512 + k * 16)).take 16).length = 16 := fun k h => by rw [List.length_take, List.length_drop, hS]; omega
  have hpl : ∀ k, k ≤ 32 → (piecesM (rowS S d) k).length = k * 32 := by
    intro k
    induction k with
    | zero => intro _; simp [piecesM]
    | succ k ih => intro h; rw [piecesM_succ, List.length_append, ih (by omega), rowS, rowFrom_length (hp2l k (by omega)), Nat.succ_mul]
  have hlf := fun W => LeafW (piecesM (rowS S d) 32) (hpl 32 (Nat.le_refl _)) W
  have hal : (bv (piecesM (rowS S d) 32)).length = 1024 := by rw [bv_length]; exact hpl 32 (Nat.le_refl _)
  have hll : ∀ k, k ≤ 32 → (rowsC (rowS S d) Z k).length = 1024 := fun k h => by unfold rowsC; rw [List.length_append, bv_length, hpl k h, List.length_drop, hzl]; omega
  have hst := fun k (h : k < 32) X Y b c hX hY hbc hf => rows_two (rowS S d) (Z := Z) (X := X) (Y := Y) (k := k) (b := b) (c := c) (by rw [bv_length]; exact hpl k (by omega)) hzl h hX hY hbc hf
  have hl0 : rowsC (rowS S d) Z 0 = Z := by simp [rowsC, piecesM, bv]
  have hl32 : rowsC (rowS S d) Z 32 = bv (piecesM (rowS S d) 32) := by
    have : Z.drop (32 * 32) = [] := List.drop_of_length_le (by rw [hzl]; decide)
    unfold rowsC
    rw [this, List.append_nil]
  have hbit := fun (k : Nat) (hk : k < 32) W => Bit d hd k hk W
  have hrl : (bv (fromS S d)).length = 32 := by rw [bv_length]; exact leafOf_length _
  have hro := bv_one (fromS S d)
  have hlm : leafOf (piecesM (rowS S d) 32) = fromS S d := rfl
  rw [hlm] at hlf
  have hdl : (bv d).length = 32 := by rw [bv_length]; exact hd
  have hsl : (bv S).length = 1024 := by rw [bv_length]; exact hS
  have hq := bv_drop_take S
  have hb0 : Blk ((((w.alloc (.cells (bv S).toArray 36)).alloc (.cells (bv d).toArray 55)).alloc (.cells D.toArray 55)).alloc (.cells Z.toArray 116)) w.heap.size 36 (bv S) := (((Blk.new _ _ _).keep ((Ext.refl _).alloc _) (by simp)).keep ((Ext.refl _).alloc _) (by simp)).keep ((Ext.refl _).alloc _) (by simp)
  have hb1 : Blk ((((w.alloc (.cells (bv S).toArray 36)).alloc (.cells (bv d).toArray 55)).alloc (.cells D.toArray 55)).alloc (.cells Z.toArray 116)) (w.heap.size + 1) 55 (bv d) := ((Blk.fresh (by simp) _ _).keep ((Ext.refl _).alloc _) (by simp)).keep ((Ext.refl _).alloc _) (by simp)
  have hb2 : Blk ((((w.alloc (.cells (bv S).toArray 36)).alloc (.cells (bv d).toArray 55)).alloc (.cells D.toArray 55)).alloc (.cells Z.toArray 116)) (w.heap.size + 1 + 1) 55 D := (Blk.fresh (by simp) _ _).keep ((Ext.refl _).alloc _) (by simp)
  have hb3 : Blk ((((w.alloc (.cells (bv S).toArray 36)).alloc (.cells (bv d).toArray 55)).alloc (.cells D.toArray 55)).alloc (.cells Z.toArray 116)) (w.heap.size + 1 + 1 + 1) 116 Z := Blk.fresh (by simp) _ _
  have hx0 : Ext w ((((w.alloc (.cells (bv S).toArray 36)).alloc (.cells (bv d).toArray 55)).alloc (.cells D.toArray 55)).alloc (.cells Z.toArray 116)) := ((((Ext.refl w).alloc _).alloc _).alloc _).alloc _
  obtain ⟨LL, hLL⟩ : ∃ LL, LL = rowsC (rowS S d) Z := ⟨_, rfl⟩
  rw [← hLL] at hl0 hl32 hll hst
  generalize bv (fromS S d) = R at *
  generalize bv (piecesM (rowS S d) 32) = AL at *
  generalize bv S = C at *
  generalize bv d = DC at *
  have HB0 := Lib.hid hb0
  have HB1 := Lib.hid hb1
  have HB2 := Lib.hid hb2
  have HB3 := Lib.hid hb3
  have HX0 := Lib.hid hx0
  have HL0 := Lib.hid hl0
  have HL32 := Lib.hid hl32
  have HLLN := Lib.hid hll
  have HST := Lib.hid hst
  have HBIT := Lib.hid hbit
  have HLF := Lib.hid hlf
  have HRL := Lib.hid hrl
  have HAL := Lib.hid hal
  have HDL0 := Lib.hid hdl0
  have HDL := Lib.hid hdl
  have HQ := Lib.hid hq
  have HPA := Lib.hid hp1l
  have HPB := Lib.hid hp2l
  clear hb0 hb1 hb2 hb3 hx0 hl0 hl32 hll hst hbit hlf hrl hdl hdl0 hLL hlm hal hzl hq hp1l hp2l hsl hpl
  go_enter Try.func37, Try.ntmps37
  go_wp2_with (first
    | (refine wpList_alloc _ rfl 55 rfl _ hzd ?_)
    | (refine wpList_alloc _ rfl 116 rfl _ hz ?_)
    | fail)
  go_loopw [6, 7, 8] (fun p q i wr => ∃ k : Nat, k ≤ 32 ∧ i = .int .i64 k ∧ Ext w wr ∧ Blk wr w.heap.size 36 C ∧ Blk wr (w.heap.size + 1) 55 DC ∧ Blk wr (w.heap.size + 1 + 1) 55 D ∧ Blk wr (w.heap.size + 1 + 1 + 1) 116 (LL k)) (fun _ _ i _ => 32 - (intOf i).toNat)
  case atStart => exact ⟨0, by omega, rfl, HX0.out, HB0.out, HB1.out, HB2.out, by rw [HL0.out]; exact HB3.out⟩
  case round =>
    clear HX0 HB0 HB1 HB2 HB3
    obtain ⟨k, hk, rfl, hx, hb0, hb1, hb2, hb3⟩ := hrel
    by_cases hlt : k < 32
    · have hcd := hb1.cells
      have hbt := fun W => HBIT.out k hlt W
      have hbl := bitM_lt d k
      have hq1 := HQ.out (k * 16) 16
      have hq2 := HQ.out (512 + k * 16) 16
      have hl1 : (bv ((S.drop (k * 16)).take 16)).length = 16 := by rw [bv_length]; exact HPA.out k hlt
      have hl2 : (bv ((S.drop (512 + k * 16)).take 16)).length = 16 := by rw [bv_length]; exact HPB.out k hlt
      have hpo2 := bv_one ((S.drop (512 + k * 16)).take 16)
      have hcv := fun W => Cover ((S.drop (k * 16)).take 16) (HPA.out k hlt) W
      have hcl : (bv (coverM ((S.drop (k * 16)).take 16))).length = 16 := by rw [bv_length, coverM_length]
      have hco := bv_one (coverM ((S.drop (k * 16)).take 16))
      have hrow : bv (rowS S d k) = if bitM d k = 0 then bv (coverM ((S.drop (k * 16)).take 16)) ++ bv ((S.drop (512 + k * 16)).take 16) else bv ((S.drop (512 + k * 16)).take 16) ++ bv (coverM ((S.drop (k * 16)).take 16)) := by
        unfold rowS rowFrom
        split <;> rw [bv_append]
      have hstk := HST.out k hlt _ _ (bitM d k) (1 - bitM d k) hcl hl2 (by omega) hrow
      have hll := HLLN.out k (by omega)
      have hbc : bitM d k + (1 - bitM d k) = 1 := by omega
      generalize 1 - bitM d k = c at *
      generalize bitM d k = b at *
      generalize bv (coverM ((S.drop (k * 16)).take 16)) = CV at *
      generalize bv ((S.drop (k * 16)).take 16) = P1 at *
      generalize bv ((S.drop (512 + k * 16)).take 16) = P2 at *
      have hpll : (putAt (LL k) (k * 32 + b * 16) CV).length = 1024 := by rw [putAt_len (by rw [hll, hcl]; omega), hll]
      have HX := Lib.hid hx
      have HB0 := Lib.hid hb0
      have HB1 := Lib.hid hb1
      have HB2 := Lib.hid hb2
      have HB3r := Lib.hid hb3
      have HBT := Lib.hid hbt
      have HBL := Lib.hid hbl
      have HBC := Lib.hid hbc
      have HWR : Hid (IntKind.u8.wrap (1 - (b : Int)) = (c : Int)) := Lib.hid (by simp [IntKind.wrap, IntKind.bits, IntKind.signed]; omega)
      have HQ1 := Lib.hid hq1
      have HQ2 := Lib.hid hq2
      have HP1 := Lib.hid hl1
      have HP2 := Lib.hid hl2
      have HCV := Lib.hid hcv
      have HCL := Lib.hid hcl
      have HSTK := Lib.hid hstk
      have HLL := Lib.hid hll
      have HPLL := Lib.hid hpll
      clear hx hb0 hb1 hb2 hb3 hbt hbl hbc hq1 hq2 hl1 hl2 hcv hcl hstk hll hpll hrow
      go_wp2_with (first
        | (refine wpList_load_agg _ rfl 55 (.tmp 3) rfl _ rfl DC _ Try.underlying55 rfl (digest_size HDL.out) hcd ?_)
        | (go_at_call 63; refine (HBT.out _).mono ?_; rintro e w1 ⟨rfl, hx1⟩)
        | fail)
      have hbk0 := HB0.out.keep (hx1.trans (Ext.refl w1).drew) (by simp)
      have HK1 : Hid (∀ W, Ext w1.drew W → Cells W ⟨w.heap.size, k * 16, none⟩ P1) := Lib.hid fun W h => by have h2 := ((hbk0.keep h (by simp)).cells.drop (k * 16)).take 16; rw [addr_at, HQ1.out] at h2; exact h2
      have HB3 := Lib.hid (HB3r.out.keep (hx1.trans (Ext.refl w1).drew) (by simp))
      have HX1 := Lib.hid (hx1.trans (Ext.refl w1).drew)
      generalize hg : w.heap.size + 1 + 1 + 1 = g at *
      have HG := Lib.hid hg
      have hdk : decide ((k : Int) < 32) = true := by rw [decide_eq_true_iff]; omega
      (try simp only [hdk])
      clear hg hdk hcd hx1 hbk0
      refine stab_store Ext ext_refl ext_trans [[0], [1], [2], [3], [2, 3, 4], [2, 3, 4, 5], [2, 3, 4, 5, 6], [0, 7], [0, 1, 2, 3, 4, 5, 6, 7, 8], [0, 1, 2, 3, 4, 5, 6, 7, 8, 9]] (fun i v wv => match i with | 0 => v = .int .i64 (k : Int) | 1 => v = .int .u8 (b : Int) | 2 => v = .int .i64 (k : Int) | 3 => v = .pointer (some ⟨w.heap.size, 0, none⟩) | 4 => v = .pointer (some ⟨w.heap.size, k * 16, none⟩) | 5 => v = .agg P1.toArray | 6 => v = .agg CV.toArray | 7 => v = .pointer (some ⟨g, k * 32, none⟩) | 8 => v = .pointer (some ⟨g, k * 32 + b * 16, none⟩) | _ => True) (by kernel_rfl) (by kernel_rfl) (by kernel_rfl) (by kernel_rfl) (by simp) ?_ ?_ ?_
      · intro i v w1 w2 h hx
        match i, h with
        | 0, h => exact h
        | 1, h => exact h
        | 2, h => exact h
        | 3, h => exact h
        | 4, h => exact h
        | 5, h => exact h
        | 6, h => exact h
        | 7, h => exact h
        | 8, h => exact h
        | i + 9, h => trivial
      · intro i hi o ho
        match i, hi, ho with
        | 0, _, ho =>
          obtain rfl := Option.some.inj ho
          intro s W hX hd K hK
          rw [if_pos (wanted_plain rfl)]
          clear hd
          replace hK : ∀ (v : Value) (W' : World), Ext W W' → (v = .int .i64 (k : Int)) → _ := hK
          simp only [mkOf, List.map_cons, List.map_nil, Act.put, List.setIfInBounds_toArray, List.set_cons_succ, List.set_cons_zero, Nat.reduceAdd, Nat.zero_add] at hK ⊢
          go_simp
          exact hK _ _ (Ext.refl _) rfl
        | 1, _, ho =>
          obtain rfl := Option.some.inj ho
          intro s W hX hd K hK
          rw [if_pos (wanted_plain rfl)]
          clear hd
          replace hK : ∀ (v : Value) (W' : World), Ext W W' → (v = .int .u8 (b : Int)) → _ := hK
          simp only [mkOf, List.map_cons, List.map_nil, Act.put, List.setIfInBounds_toArray, List.set_cons_succ, List.set_cons_zero, Nat.reduceAdd, Nat.zero_add] at hK ⊢
          go_simp
          exact hK _ _ (Ext.refl _) rfl
        | 2, _, ho =>
          obtain rfl := Option.some.inj ho
          intro s W hX hd K hK
          rw [if_pos (wanted_plain rfl)]
          clear hd
          replace hK : ∀ (v : Value) (W' : World), Ext W W' → (v = .int .i64 (k : Int)) → _ := hK
          simp only [mkOf, List.map_cons, List.map_nil, Act.put, List.setIfInBounds_toArray, List.set_cons_succ, List.set_cons_zero, Nat.reduceAdd, Nat.zero_add] at hK ⊢
          go_simp
          exact hK _ _ (Ext.refl _) rfl
        | 3, _, ho =>
          obtain rfl := Option.some.inj ho
          intro s W hX hd K hK
          rw [if_pos (wanted_plain rfl)]
          clear hd
          replace hK : ∀ (v : Value) (W' : World), Ext W W' → (v = .pointer (some ⟨w.heap.size, 0, none⟩)) → _ := hK
          simp only [mkOf, List.map_cons, List.map_nil, Act.put, List.setIfInBounds_toArray, List.set_cons_succ, List.set_cons_zero, Nat.reduceAdd, Nat.zero_add] at hK ⊢
          go_simp
          exact hK _ _ (Ext.refl _) rfl
        | 4, _, ho =>
          obtain rfl := Option.some.inj ho
          intro s W hX hd K hK
          rw [if_pos (wanted_plain rfl)]
          have d16 : (s 2) = .int .i64 (k : Int) := hd 2 (by decide) (by decide)
          have d17 : (s 3) = .pointer (some ⟨w.heap.size, 0, none⟩) := hd 3 (by decide) (by decide)
          clear hd
          replace hK : ∀ (v : Value) (W' : World), Ext W W' → (v = .pointer (some ⟨w.heap.size, k * 16, none⟩)) → _ := hK
          simp only [mkOf, List.map_cons, List.map_nil, Act.put, List.setIfInBounds_toArray, List.set_cons_succ, List.set_cons_zero, Nat.reduceAdd, Nat.zero_add] at hK ⊢
          simp only [d16, d17] at hK ⊢
          go_simp
          exact hK _ _ (Ext.refl _) rfl
        | 5, _, ho =>
          obtain rfl := Option.some.inj ho
          intro s W hX hd K hK
          rw [if_pos (wanted_plain rfl)]
          have d18 : (s 4) = .pointer (some ⟨w.heap.size, k * 16, none⟩) := hd 4 (by decide) (by decide)
          clear hd
          replace hK : ∀ (v : Value) (W' : World), Ext W W' → (v = .agg P1.toArray) → _ := hK
          simp only [mkOf, List.map_cons, List.map_nil, Act.put, List.setIfInBounds_toArray, List.set_cons_succ, List.set_cons_zero, Nat.reduceAdd, Nat.zero_add] at hK ⊢
          simp only [d18] at hK ⊢
          refine wp_load_agg 33 (.tmp 18) rfl _ (by simpa [Act.eval] using d18) P1 _ Try.underlying33 rfl (piece_size HP1.out) (HK1.out W hX) ?_
          exact hK _ _ (Ext.refl _) rfl
        | 6, _, ho =>
          obtain rfl := Option.some.inj ho
          intro s W hX hd K hK
          rw [if_pos (wanted_plain rfl)]
          have d19 : (s 5) = .agg P1.toArray := hd 5 (by decide) (by decide)
          clear hd
          replace hK : ∀ (v : Value) (W' : World), Ext W W' → (v = .agg CV.toArray) → _ := hK
          simp only [mkOf, List.map_cons, List.map_nil, Act.put, List.setIfInBounds_toArray, List.set_cons_succ, List.set_cons_zero, Nat.reduceAdd, Nat.zero_add] at hK ⊢
          simp only [d19] at hK ⊢
          go_simp
          refine (HCV.out _).mono ?_
          rintro e w' ⟨rfl, hx⟩
          exact hK _ _ hx rfl
        | 7, _, ho =>
          obtain rfl := Option.some.inj ho
          intro s W hX hd K hK
          rw [if_pos (wanted_plain rfl)]
          have d14 : (s 0) = .int .i64 (k : Int) := hd 0 (by decide) (by decide)
          clear hd
          replace hK : ∀ (v : Value) (W' : World), Ext W W' → (v = .pointer (some ⟨g, k * 32, none⟩)) → _ := hK
          simp only [mkOf, List.map_cons, List.map_nil, Act.put, List.setIfInBounds_toArray, List.set_cons_succ, List.set_cons_zero, Nat.reduceAdd, Nat.zero_add] at hK ⊢
          simp only [d14] at hK ⊢
          go_simp
          exact hK _ _ (Ext.refl _) rfl
        | 8, _, ho =>
          obtain rfl := Option.some.inj ho
          intro s W hX hd K hK
          rw [if_pos (wanted_plain rfl)]
          have d15 : (s 1) = .int .u8 (b : Int) := hd 1 (by decide) (by decide)
          have d21 : (s 7) = .pointer (some ⟨g, k * 32, none⟩) := hd 7 (by decide) (by decide)
          clear hd
          replace hK : ∀ (v : Value) (W' : World), Ext W W' → (v = .pointer (some ⟨g, k * 32 + b * 16, none⟩)) → _ := hK
          simp only [mkOf, List.map_cons, List.map_nil, Act.put, List.setIfInBounds_toArray, List.set_cons_succ, List.set_cons_zero, Nat.reduceAdd, Nat.zero_add] at hK ⊢
          simp only [d15, d21] at hK ⊢
          have hbl : (b : Int) < 2 := by have := HBL.out; omega
          go_simp
          exact hK _ _ (Ext.refl _) rfl
        | i + 9, hi, _ => exact absurd hi (by simp)
      · intro o ho
        obtain rfl := Option.some.inj ho
        intro s W hX hd K hK
        rw [if_pos (wanted_plain rfl)]
        have d14 : (s 0) = .int .i64 (k : Int) := hd 0 (by decide)
        have d15 : (s 1) = .int .u8 (b : Int) := hd 1 (by decide)
        have d16 : (s 2) = .int .i64 (k : Int) := hd 2 (by decide)
        have d17 : (s 3) = .pointer (some ⟨w.heap.size, 0, none⟩) := hd 3 (by decide)
        have d18 : (s 4) = .pointer (some ⟨w.heap.size, k * 16, none⟩) := hd 4 (by decide)
        have d19 : (s 5) = .agg P1.toArray := hd 5 (by decide)
        have d20 : (s 6) = .agg CV.toArray := hd 6 (by decide)
        have d21 : (s 7) = .pointer (some ⟨g, k * 32, none⟩) := hd 7 (by decide)
        have d22 : (s 8) = .pointer (some ⟨g, k * 32 + b * 16, none⟩) := hd 8 (by decide)
        clear hd
        simp only [mkOf, List.map_cons, List.map_nil, Act.put, List.setIfInBounds_toArray, List.set_cons_succ, List.set_cons_zero, Nat.reduceAdd, Nat.zero_add]
        refine wp_store_part W 33 (.tmp 22) (.tmp 20) rfl g (k * 32 + b * 16) (by simpa [Act.eval] using d22) (LL k) CV _ (by simpa [Act.eval] using d20) (HB3.out.keep hX (by simp)) (piece_size HCL.out) (by have := HBL.out; rw [HLL.out, HCL.out]; omega) hco ?_
        refine hK _ _ ?_
        have hx2 : Ext w W := HX.out.trans (HX1.out.trans hX)
        have hb0 : Blk (W.setRow g (putAt (LL k) (k * 32 + b * 16) CV).toArray).drew w.heap.size 36 C := ((HB0.out.keep (HX1.out.trans hX) (by simp)).keep (setRow_only _) (by have := HG.out; simp; omega)).keep (Ext.refl _).drew (by simp)
        have hb1 : Blk (W.setRow g (putAt (LL k) (k * 32 + b * 16) CV).toArray).drew (w.heap.size + 1) 55 DC := ((HB1.out.keep (HX1.out.trans hX) (by simp)).keep (setRow_only _) (by have := HG.out; simp; omega)).keep (Ext.refl _).drew (by simp)
        have hb2 : Blk (W.setRow g (putAt (LL k) (k * 32 + b * 16) CV).toArray).drew (w.heap.size + 1 + 1) 55 D := ((HB2.out.keep (HX1.out.trans hX) (by simp)).keep (setRow_only _) (by have := HG.out; simp; omega)).keep (Ext.refl _).drew (by simp)
        have hb3 : Blk (W.setRow g (putAt (LL k) (k * 32 + b * 16) CV).toArray).drew g 116 (putAt (LL k) (k * 32 + b * 16) CV) := Blk.keep (t := 116) (setRow_at (HB3.out.keep hX (by simp))) (Ext.refl _).drew (by simp)
        have hx3 : Ext w (W.setRow g (putAt (LL k) (k * 32 + b * 16) CV).toArray).drew := (setRow_grown hx2 _ _ (by have := HG.out; omega)).trans (Ext.refl _).drew
        have HK2 : Hid (∀ W3, Ext (W.setRow g (putAt (LL k) (k * 32 + b * 16) CV).toArray).drew W3 → Cells W3 ⟨w.heap.size, 512 + k * 16, none⟩ P2) := Lib.hid fun W3 h => by have h2 := ((hb0.keep h (by simp)).cells.drop (512 + k * 16)).take 16; rw [addr_at, HQ2.out] at h2; exact h2
        clear HX HX1 HK1 HB0 HB1 HB2 HB3 HB3r hX hK hx2 HCV HBT
        have HX := Lib.hid hx3
        have HB0 := Lib.hid hb0
        have HB1 := Lib.hid hb1
        have HB2 := Lib.hid hb2
        have HB3 := Lib.hid hb3
        clear hx3 hb0 hb1 hb2 hb3 d14 d15 d16 d17 d18 d19 d20 d21 d22
        (try simp only [Exit.then])
        go_wp2_with fail
        generalize hV : W.setRow g (putAt (LL k) (k * 32 + b * 16) CV).toArray = V at *
        clear hV W
        refine stab_store Ext ext_refl ext_trans [[0], [1], [1, 2], [3], [4], [3, 4, 5], [3, 4, 5, 6], [0, 7], [0, 1, 2, 3, 4, 5, 6, 7, 8], [0, 1, 2, 3, 4, 5, 6, 7, 8, 9]] (fun i v wv => match i with | 0 => v = .int .i64 (k : Int) | 1 => v = .int .u8 (b : Int) | 2 => v = .int .u8 (c : Int) | 3 => v = .int .i64 (k : Int) | 4 => v = .pointer (some ⟨w.heap.size, 512, none⟩) | 5 => v = .pointer (some ⟨w.heap.size, 512 + k * 16, none⟩) | 6 => v = .agg P2.toArray | 7 => v = .pointer (some ⟨g, k * 32, none⟩) | 8 => v = .pointer (some ⟨g, k * 32 + c * 16, none⟩) | _ => True) (by kernel_rfl) (by kernel_rfl) (by kernel_rfl) (by kernel_rfl) (by simp) ?_ ?_ ?_
        · intro i v w1 w2 h hx
          match i, h with
          | 0, h => exact h
          | 1, h => exact h
          | 2, h => exact h
          | 3, h => exact h
          | 4, h => exact h
          | 5, h => exact h
          | 6, h => exact h
          | 7, h => exact h
          | 8, h => exact h
          | i + 9, h => trivial
        · intro i hi o ho
          match i, hi, ho with
          | 0, _, ho =>
            obtain rfl := Option.some.inj ho
            intro s W2 hX hd K hK
            rw [if_pos (wanted_plain rfl)]
            clear hd
            replace hK : ∀ (v : Value) (W2' : World), Ext W2 W2' → (v = .int .i64 (k : Int)) → _ := hK
            simp only [mkOf, List.map_cons, List.map_nil, Act.put, List.setIfInBounds_toArray, List.set_cons_succ, List.set_cons_zero, Nat.reduceAdd, Nat.zero_add] at hK ⊢
            go_simp
            exact hK _ _ (Ext.refl _) rfl
          | 1, _, ho =>
            obtain rfl := Option.some.inj ho
            intro s W2 hX hd K hK
            rw [if_pos (wanted_plain rfl)]
            clear hd
            replace hK : ∀ (v : Value) (W2' : World), Ext W2 W2' → (v = .int .u8 (b : Int)) → _ := hK
            simp only [mkOf, List.map_cons, List.map_nil, Act.put, List.setIfInBounds_toArray, List.set_cons_succ, List.set_cons_zero, Nat.reduceAdd, Nat.zero_add] at hK ⊢
            go_simp
            exact hK _ _ (Ext.refl _) rfl
          | 2, _, ho =>
            obtain rfl := Option.some.inj ho
            intro s W2 hX hd K hK
            rw [if_pos (wanted_plain rfl)]
            have d24 : (s 1) = .int .u8 (b : Int) := hd 1 (by decide) (by decide)
            clear hd
            replace hK : ∀ (v : Value) (W2' : World), Ext W2 W2' → (v = .int .u8 (c : Int)) → _ := hK
            simp only [mkOf, List.map_cons, List.map_nil, Act.put, List.setIfInBounds_toArray, List.set_cons_succ, List.set_cons_zero, Nat.reduceAdd, Nat.zero_add] at hK ⊢
            simp only [d24] at hK ⊢
            go_simp
            exact hK _ _ (Ext.refl _) (by rw [HWR.out])
          | 3, _, ho =>
            obtain rfl := Option.some.inj ho
            intro s W2 hX hd K hK
            rw [if_pos (wanted_plain rfl)]
            clear hd
            replace hK : ∀ (v : Value) (W2' : World), Ext W2 W2' → (v = .int .i64 (k : Int)) → _ := hK
            simp only [mkOf, List.map_cons, List.map_nil, Act.put, List.setIfInBounds_toArray, List.set_cons_succ, List.set_cons_zero, Nat.reduceAdd, Nat.zero_add] at hK ⊢
            go_simp
            exact hK _ _ (Ext.refl _) rfl
          | 4, _, ho =>
            obtain rfl := Option.some.inj ho
            intro s W2 hX hd K hK
            rw [if_pos (wanted_plain rfl)]
            clear hd
            replace hK : ∀ (v : Value) (W2' : World), Ext W2 W2' → (v = .pointer (some ⟨w.heap.size, 512, none⟩)) → _ := hK
            simp only [mkOf, List.map_cons, List.map_nil, Act.put, List.setIfInBounds_toArray, List.set_cons_succ, List.set_cons_zero, Nat.reduceAdd, Nat.zero_add] at hK ⊢
            go_simp
            exact hK _ _ (Ext.refl _) rfl
          | 5, _, ho =>
            obtain rfl := Option.some.inj ho
            intro s W2 hX hd K hK
            rw [if_pos (wanted_plain rfl)]
            have d26 : (s 3) = .int .i64 (k : Int) := hd 3 (by decide) (by decide)
            have d27 : (s 4) = .pointer (some ⟨w.heap.size, 512, none⟩) := hd 4 (by decide) (by decide)
            clear hd
            replace hK : ∀ (v : Value) (W2' : World), Ext W2 W2' → (v = .pointer (some ⟨w.heap.size, 512 + k * 16, none⟩)) → _ := hK
            simp only [mkOf, List.map_cons, List.map_nil, Act.put, List.setIfInBounds_toArray, List.set_cons_succ, List.set_cons_zero, Nat.reduceAdd, Nat.zero_add] at hK ⊢
            simp only [d26, d27] at hK ⊢
            go_simp
            exact hK _ _ (Ext.refl _) rfl
          | 6, _, ho =>
            obtain rfl := Option.some.inj ho
            intro s W2 hX hd K hK
            rw [if_pos (wanted_plain rfl)]
            have d28 : (s 5) = .pointer (some ⟨w.heap.size, 512 + k * 16, none⟩) := hd 5 (by decide) (by decide)
            clear hd
            replace hK : ∀ (v : Value) (W2' : World), Ext W2 W2' → (v = .agg P2.toArray) → _ := hK
            simp only [mkOf, List.map_cons, List.map_nil, Act.put, List.setIfInBounds_toArray, List.set_cons_succ, List.set_cons_zero, Nat.reduceAdd, Nat.zero_add] at hK ⊢
            simp only [d28] at hK ⊢
            refine wp_load_agg 33 (.tmp 28) rfl _ (by simpa [Act.eval] using d28) P2 _ Try.underlying33 rfl (piece_size HP2.out) (HK2.out W2 hX) ?_
            exact hK _ _ (Ext.refl _) rfl
          | 7, _, ho =>
            obtain rfl := Option.some.inj ho
            intro s W2 hX hd K hK
            rw [if_pos (wanted_plain rfl)]
            have d23 : (s 0) = .int .i64 (k : Int) := hd 0 (by decide) (by decide)
            clear hd
            replace hK : ∀ (v : Value) (W2' : World), Ext W2 W2' → (v = .pointer (some ⟨g, k * 32, none⟩)) → _ := hK
            simp only [mkOf, List.map_cons, List.map_nil, Act.put, List.setIfInBounds_toArray, List.set_cons_succ, List.set_cons_zero, Nat.reduceAdd, Nat.zero_add] at hK ⊢
            simp only [d23] at hK ⊢
            go_simp
            exact hK _ _ (Ext.refl _) rfl
          | 8, _, ho =>
            obtain rfl := Option.some.inj ho
            intro s W2 hX hd K hK
            rw [if_pos (wanted_plain rfl)]
            have d25 : (s 2) = .int .u8 (c : Int) := hd 2 (by decide) (by decide)
            have d30 : (s 7) = .pointer (some ⟨g, k * 32, none⟩) := hd 7 (by decide) (by decide)
            clear hd
            replace hK : ∀ (v : Value) (W2' : World), Ext W2 W2' → (v = .pointer (some ⟨g, k * 32 + c * 16, none⟩)) → _ := hK
            simp only [mkOf, List.map_cons, List.map_nil, Act.put, List.setIfInBounds_toArray, List.set_cons_succ, List.set_cons_zero, Nat.reduceAdd, Nat.zero_add] at hK ⊢
            simp only [d25, d30] at hK ⊢
            have hbl : (c : Int) < 2 := by have := HBC.out; omega
            go_simp
            exact hK _ _ (Ext.refl _) rfl
          | i + 9, hi, _ => exact absurd hi (by simp)
        · intro o ho
          obtain rfl := Option.some.inj ho
          intro s W2 hX hd K hK
          rw [if_pos (wanted_plain rfl)]
          have d23 : (s 0) = .int .i64 (k : Int) := hd 0 (by decide)
          have d24 : (s 1) = .int .u8 (b : Int) := hd 1 (by decide)
          have d25 : (s 2) = .int .u8 (c : Int) := hd 2 (by decide)
          have d26 : (s 3) = .int .i64 (k : Int) := hd 3 (by decide)
          have d27 : (s 4) = .pointer (some ⟨w.heap.size, 512, none⟩) := hd 4 (by decide)
          have d28 : (s 5) = .pointer (some ⟨w.heap.size, 512 + k * 16, none⟩) := hd 5 (by decide)
          have d29 : (s 6) = .agg P2.toArray := hd 6 (by decide)
          have d30 : (s 7) = .pointer (some ⟨g, k * 32, none⟩) := hd 7 (by decide)
          have d31 : (s 8) = .pointer (some ⟨g, k * 32 + c * 16, none⟩) := hd 8 (by decide)
          clear hd
          simp only [mkOf, List.map_cons, List.map_nil, Act.put, List.setIfInBounds_toArray, List.set_cons_succ, List.set_cons_zero, Nat.reduceAdd, Nat.zero_add]
          refine wp_store_part W2 33 (.tmp 31) (.tmp 29) rfl g (k * 32 + c * 16) (by simpa [Act.eval] using d31) (putAt (LL k) (k * 32 + b * 16) CV) P2 _ (by simpa [Act.eval] using d29) (HB3.out.keep hX (by simp)) (piece_size HP2.out) (by have := HBC.out; rw [HPLL.out, HP2.out]; omega) hpo2 ?_
          refine hK _ _ ?_
          have hx4 : Ext w (W2.setRow g (putAt (putAt (LL k) (k * 32 + b * 16) CV) (k * 32 + c * 16) P2).toArray) := setRow_grown (HX.out.trans hX) _ _ (by have := HG.out; omega)
          have hb0 := (HB0.out.keep hX (by simp)).keep (setRow_only (putAt (putAt (LL k) (k * 32 + b * 16) CV) (k * 32 + c * 16) P2).toArray) (show some w.heap.size ≠ some g by have := HG.out; simp; omega)
          have hb1 := (HB1.out.keep hX (by simp)).keep (setRow_only (putAt (putAt (LL k) (k * 32 + b * 16) CV) (k * 32 + c * 16) P2).toArray) (show some (w.heap.size + 1) ≠ some g by have := HG.out; simp; omega)
          have hb2 := (HB2.out.keep hX (by simp)).keep (setRow_only (putAt (putAt (LL k) (k * 32 + b * 16) CV) (k * 32 + c * 16) P2).toArray) (show some (w.heap.size + 1 + 1) ≠ some g by have := HG.out; simp; omega)
          have hb3 : Blk (W2.setRow g (putAt (putAt (LL k) (k * 32 + b * 16) CV) (k * 32 + c * 16) P2).toArray) g 116 (LL (k + 1)) := by rw [← HSTK.out]; exact setRow_at (HB3.out.keep hX (by simp))
          generalize W2.setRow g (putAt (putAt (LL k) (k * 32 + b * 16) CV) (k * 32 + c * 16) P2).toArray = V2 at *
          have hge := HG.out
          subst hge
          have HX9 := Lib.hid hx4
          have HB90 := Lib.hid hb0
          have HB91 := Lib.hid hb1
          have HB92 := Lib.hid hb2
          have HB93 := Lib.hid hb3
          clear hx4 hb0 hb1 hb2 hb3 hX hK
          (try simp only [Exit.then])
          go_wp2_with fail
          go_roundw
          case rel => exact ⟨k + 1, by omega, by go_num, HX9.out, HB90.out, HB91.out, HB92.out, HB93.out⟩
          case measure => simp [intOf]; omega
    · obtain rfl : k = 32 := by omega
      rw [HL32.out] at hb3
      have hcm := hb3.cells
      have HX := Lib.hid hx
      have HB2 := Lib.hid hb2
      clear hx hb0 hb1 hb2 hb3
      go_wp2_with (first
        | (refine wpList_load_agg _ rfl 116 (.tmp 5) rfl _ rfl AL _ Try.underlying116 rfl (all_size HAL.out) hcm ?_)
        | fail)
      refine (HLF.out _).mono ?_
      rintro e w4 ⟨rfl, hx4⟩
      have hr4 : w4.heap[w.heap.size + 1 + 1]? = some (.cells D.toArray 55 (0, 0)) := HB2.out.keep hx4 (by simp)
      have hx5 := HX.out.trans hx4
      go_wp2_with (first
        | (refine wpList_store_row _ rfl 55 (.tmp 4) (.tmp 34) rfl (w.heap.size + 1 + 1) rfl D R _ rfl hr4 (digest_size HRL.out) (by rw [HRL.out, HDL0.out]) hro ?_)
        | fail)
      have hc9 := Blk.cells (t := 55) (setRow_at (cs' := R.toArray) hr4)
      (try simp only [Exit.inBlock, Exit.then])
      refine bodyPost_ret (results_agg rfl _ _ _ _ _ rfl Try.underlying55 rfl (digest_size HRL.out) hc9) rfl ?_
      exact ⟨rfl, setRow_grown hx5 _ _ (by omega)⟩
end
section
open Go.RowKit

theorem piecesM_congr {f g : Nat → List UInt8} : ∀ n, (∀ k, k < n → f k = g k) → piecesM f n = piecesM g n
  | 0, _ => rfl
  | n + 1, h => by rw [piecesM_succ, piecesM_succ, piecesM_congr n (fun k hk => h k (by omega)), h n (by omega)]
theorem sign_openB (seed : List UInt8) (n : Nat) (d : List UInt8) {k : Nat} (h : k < 32) : ((signM seed n d).drop (k * 16)).take 16 = openM seed n d k := by
  have e := pieceAt_pieces (f := openM seed n d) (fun _ => secretM_length _ _ _ _) h
  have hl : (piecesM (openM seed n d) 32).length = 512 := piecesM_length (f := openM seed n d) (fun _ => secretM_length _ _ _ _) 32
  unfold pieceAt at e
  rw [← e, signM, List.drop_append_of_le_length (by rw [hl]; omega), List.take_append_of_le_length (by rw [List.length_drop, hl]; omega), Nat.mul_comm 16 k]
theorem sign_otherB (seed : List UInt8) (n : Nat) (d : List UInt8) {k : Nat} (h : k < 32) : ((signM seed n d).drop (512 + k * 16)).take 16 = otherM seed n d k := by
  have e := pieceAt_pieces (f := otherM seed n d) (fun _ => coverM_length _) h
  have hl : (piecesM (openM seed n d) 32).length = 512 := piecesM_length (f := openM seed n d) (fun _ => secretM_length _ _ _ _) 32
  unfold pieceAt at e
  rw [← e, signM, ← List.drop_drop, List.drop_left' hl, Nat.mul_comm 16 k]
theorem fromS_sign (seed : List UInt8) (n : Nat) (d : List UInt8) : fromS (signM seed n d) d = leafM seed n := by
  unfold fromS leafM
  congr 1
  refine piecesM_congr (g := rowM seed n) 32 fun k hk => ?_
  unfold rowS
  rw [sign_openB seed n d hk, sign_otherB seed n d hk, row_back]
section
variable {P : Program} {w : World}
theorem wp_known {o : Oper} {a : Act} {K : Act → World → Prop} {Q : Exit → Act → World → Prop} (v : Value) (hr : (execOp a.eval o).run P w = .ok (.value v) w) (h : K (a.put o.dst v) w) : o.wp P a w K Q := by
  unfold Oper.wp
  rw [hr]
  exact h
theorem wp_bin2 {o : Oper} {a : Act} {K : Act → World → Prop} {Q : Exit → Act → World → Prop} (op : BinOp) (t : TypeId) {t' : TypeId} (x y : Operand) (ho : o.op = .binOp op t x y t') (u v : Value) {r : Value} (hx : a.eval x = u) (hy : a.eval y = v)
    (hg : (eqGuard op t x y u v).run P w = .ok () w) (hb : (binOp op t u v).run P w = .ok r w) (h : K (a.put o.dst r) w) : o.wp P a w K Q := by
  refine wp_known r ?_ h
  unfold execOp
  simp only [ho, hx, hy, Sem.run_bind, hg, hb, Result.andThen_ok, Sem.run_pure]
end
theorem eqD_self (D : List UInt8) (hD : D.length = 32) : (∀ (x y : Operand) (w : World), (eqGuard .eql 55 x y (.agg (bv D).toArray) (.agg (bv D).toArray)).run Try.prog w = .ok () w) ∧ ∀ w, (binOp .eql 55 (.agg (bv D).toArray) (.agg (bv D).toArray)).run Try.prog w = .ok (.bool true) w :=
  ⟨fun x y w => run_eqGuard w .eql 55 x y _ _ (.inl rfl) (by kernel_rfl), fun w => by have := run_eqD w 55 5 32 Try.underlying55 Try.underlying5 (by kernel_rfl) D D hD hD; rw [this, beq_self_eq_true]⟩
def fiveD : List UInt8 := 5 :: List.replicate 31 0
end
section
open Go.RowKit

section
variable {P : Program} {md : Region.Mode} {ops : Array Oper} {Q : Exit → Act → World → Prop} {R : World → World → Prop} {late : Nat}
/-- Whatever order is picked from here on; each step but one leads to a later world. -/
def wpAnyL (P : Program) (md : Region.Mode) (ops : Array Oper) (Q : Exit → Act → World → Prop) (late : Nat) (R : World → World → Prop) : Nat → Array Bool → Act → World → Prop
  | 0, listed, a, w => Region.ready md ops listed = [] ∧ Q .normal a w
  | fuel + 1, listed, a, w =>
    (Region.ready md ops listed = [] → Q .normal a w) ∧
    ∀ i ∈ Region.ready md ops listed, wpOp P ops Q i (fun a' w' => (i ≠ late → R w w') ∧ wpAnyL P md ops Q late R fuel (listed.setIfInBounds i true) a' w') a w
theorem wpAny_of_late : ∀ (fuel : Nat) (listed : Array Bool) (a : Act) (w : World), wpAnyL P md ops Q late R fuel listed a w → wpAny P md ops Q fuel listed a w
  | 0, _, _, _, h => h
  | fuel + 1, _, _, _, h => ⟨h.1, fun i hi => wpOp_mono (fun a' w' h' => wpAny_of_late fuel _ a' w' h'.2) (h.2 i hi)⟩
/-- A chain of operations, each of which waits for the one before it; none has come. -/
def chainB (md : Region.Mode) (ops : Array Oper) (listed : Array Bool) : Nat → List Nat → Bool
  | _, [] => true
  | i, k :: l => (listed.getD k true == false) && (match ops[k]? with | some o => o.after.any (fun e => Region.binds md e && e.on == i) | none => false) && chainB md ops listed k l
theorem chain_ready {listed : Array Bool} : ∀ {path : List Nat} {i : Nat}, chainB md ops listed i path = true → listed.getD i true = false → ∀ k ∈ path, k ∉ Region.ready md ops listed
  | [], _, _, _, k, hk => by cases hk
  | p :: l, i, h, hi, k, hk => by
    simp only [chainB, Bool.and_eq_true, beq_iff_eq] at h
    obtain ⟨⟨h1, h2⟩, h3⟩ := h
    rcases List.mem_cons.1 hk with rfl | hk
    · intro hr
      obtain ⟨_, ok, hok, hall⟩ := Go.mem_ready.1 hr
      rw [hok] at h2
      obtain ⟨e, he, hb⟩ := Array.any_eq_true'.1 h2
      simp only [Bool.and_eq_true, beq_iff_eq] at hb
      have h4 := hall e he hb.1
      rw [hb.2] at h4
      rcases Nat.lt_or_ge i listed.size with h' | h'
      · simp [h'] at hi h4; rw [hi] at h4; cases h4
      · simp [Array.getElem?_eq_none h'] at h4
    · exact chain_ready h3 h1 k hk
theorem chain_step {listed : Array Bool} {j : Nat} : ∀ {path : List Nat} {i : Nat}, chainB md ops listed i path = true → (∀ k ∈ path, k ≠ j) → chainB md ops (listed.setIfInBounds j true) i path = true
  | [], _, _, _ => rfl
  | p :: l, i, h, hj => by
    simp only [chainB, Bool.and_eq_true, beq_iff_eq] at h ⊢
    obtain ⟨⟨h1, h2⟩, h3⟩ := h
    refine ⟨⟨?_, h2⟩, chain_step h3 fun k hk => hj k (List.mem_cons_of_mem _ hk)⟩
    have hne : j ≠ p := fun e => hj p (List.mem_cons_self ..) e.symm
    simpa [Array.getElem?_setIfInBounds_ne hne] using h1
theorem wpAnyL_first (hrf : ∀ a, R a a) {i : Nat} {oi : Oper} {v : Value} (hi : ops[i]? = some oi) (hsel : ∀ (j : Nat) (o : Oper) cs b, ops[j]? = some o → o.op ≠ .select cs b)
    (hQ : ∀ c a w, Q (.panic c) (a.put oi.dst v) w → Q (.panic c) a w) (S : World → Prop) (hS' : ∀ a b, S a → R a b → S b) (path : List Nat) (hlp : late ∈ path ∨ ∀ b, S b) :
    ∀ (fuel : Nat) (listed : Array Bool) (a : Act) (w : World),
      (∀ j oj, ops[j]? = some oj → j ≠ i → listed.getD j true = false → (∀ e ∈ oj.after, Region.binds md e = true → e.on ≠ i) → oi.apart ops oj = true) →
      chainB md ops listed i path = true →
      i ∈ Region.ready md ops listed → YieldsIf P ops S oi v a → S w →
      wpAnyL P md ops Q late R fuel (listed.setIfInBounds i true) (a.put oi.dst v) w → wpAnyL P md ops Q late R (fuel + 1) listed a w := by
  intro fuel
  induction fuel with
  | zero =>
    intro listed a w _ _ hr hy hS H
    refine ⟨fun h => (by rw [h] at hr; cases hr), fun j hj => ?_⟩
    by_cases hji : j = i
    · subst hji; exact hy.wpOp hi hS ⟨fun _ => hrf _, H⟩
    · have := readyM_mono hj hji
      rw [H.1] at this
      cases this
  | succ fuel ih =>
    intro listed a w hfree hch hr hy hS H
    refine ⟨fun h => (by rw [h] at hr; cases hr), fun j hj => ?_⟩
    by_cases hji : j = i
    · subst hji; exact hy.wpOp hi hS ⟨fun _ => hrf _, H⟩
    · have h1 := H.2 j (readyM_mono hj hji)
      obtain ⟨hjun, oj, hoj, hall⟩ := Go.mem_ready.1 hj
      have hiun := (Go.mem_ready.1 hr).1
      have hnp : ∀ k ∈ path, k ≠ j := fun k hk e => chain_ready hch hiun k hk (e ▸ hj)
      have hnot : ∀ e ∈ oj.after, Region.binds md e = true → e.on ≠ i := fun e he hb heq => by
        have h1 := hall e he hb
        have h0 := hiun
        rw [heq] at h1
        rcases Nat.lt_or_ge i listed.size with h' | h'
        · simp [h'] at h0 h1; rw [h0] at h1; cases h1
        · simp [Array.getElem?_eq_none h'] at h1
      have h2 := wpOp_putIf hoj (hfree j oj hoj hji hjun hnot) (fun cs b => hsel i oi cs b hi) (fun cs b => hsel j oj cs b hoj) hQ hy h1
      have hfree' : ∀ k ok, ops[k]? = some ok → k ≠ i → (listed.setIfInBounds j true).getD k true = false →
          (∀ e ∈ ok.after, Region.binds md e = true → e.on ≠ i) → oi.apart ops ok = true := fun k ok hk hki hun hno => by
        refine hfree k ok hk hki ?_ hno
        by_cases hjk : j = k
        · subst hjk; exact hjun
        · rw [getD_set_ne true hjk] at hun; exact hun
      refine wpOp_mono (fun a' w' h3 => ⟨h3.2.1, ih (listed.setIfInBounds j true) a' w' hfree' (chain_step hch hnp) (readyM_mono hr (Ne.symm hji)) h3.1 ?_ ?_⟩) h2
      · rcases hlp with hl | hl
        · exact hS' _ _ hS (h3.2.1 fun e => hnp _ hl e.symm)
        · exact hl _
      · rw [Array.setIfInBounds_comm _ _ hji]
        exact h3.2.2
/-- Number i is taken first; it is bound to come ahead of 'late'. -/
theorem takeL (hrf : ∀ a, R a a) (htr : ∀ a b c, R a b → R b c → R a c) (i : Nat) (path : List Nat) {oi : Oper} {fuel : Nat} {listed : Array Bool} {a : Act} {w : World} (hi : (ops.toList.drop i).head? = some oi)
    (hs : Region.noSelect ops = true) (hf : Region.free md ops listed i = true) (hr : (Region.ready md ops listed).contains i = true) (hch : (chainB md ops listed i path && path.contains late) = true) (hc : valB oi.op = true)
    (hQ : ∀ v c a w, Q (.panic c) (a.put oi.dst v) w → Q (.panic c) a w) (hw : Region.wanted oi (yielded ops a.tmps) = true)
    (h : ∀ K : Act → Prop, (∀ a', wpAnyL P md ops Q late R fuel (listed.setIfInBounds i true) a' w → K a') → oi.quiet P a (R w) K) : wpAnyL P md ops Q late R (fuel + 1) listed a w := by
  rw [Bool.and_eq_true] at hch
  obtain ⟨v, h1, h2⟩ := quiet_val hc (h _ (fun _ h => h))
  exact wpAnyL_first hrf (op_at hi) (Region.noSelect_spec hs) (hQ v) (R w) (fun b c h1 h2 => htr _ _ _ h1 h2) path (.inl (by simpa using hch.2)) fuel listed a w (Region.free_spec (op_at hi) hf) hch.1 (by simpa using hr) (.inl ⟨hw, h1⟩) (hrf w) h2
/-- .. it asks no world. -/
theorem takeN (hrf : ∀ a, R a a) (i : Nat) {oi : Oper} {fuel : Nat} {listed : Array Bool} {a : Act} {w : World} (hi : (ops.toList.drop i).head? = some oi)
    (hs : Region.noSelect ops = true) (hf : Region.free md ops listed i = true) (hr : (Region.ready md ops listed).contains i = true) (hc : valB oi.op = true)
    (hQ : ∀ v c a w, Q (.panic c) (a.put oi.dst v) w → Q (.panic c) a w) (hw : Region.wanted oi (yielded ops a.tmps) = true)
    (h : ∀ K : Act → Prop, (∀ a', wpAnyL P md ops Q late R fuel (listed.setIfInBounds i true) a' w → K a') → oi.quiet P a (Any w) K) : wpAnyL P md ops Q late R (fuel + 1) listed a w := by
  obtain ⟨v, h1, h2⟩ := quiet_val hc (h _ (fun _ h => h))
  exact wpAnyL_first hrf (op_at hi) (Region.noSelect_spec hs) (hQ v) (Any w) (fun _ _ _ _ => trivial) [] (.inr fun _ => trivial) fuel listed a w (Region.free_spec (op_at hi) hf) rfl (by simpa using hr) (.inl ⟨hw, h1⟩) trivial h2
/-- A nil check of an address. -/
theorem nilL (hrf : ∀ a, R a a) (i : Nat) {oi : Oper} {fuel : Nat} {listed : Array Bool} {a : Act} {w : World} (hi : (ops.toList.drop i).head? = some oi)
    (hs : Region.noSelect ops = true) (hf : Region.free md ops listed i = true) (hr : (Region.ready md ops listed).contains i = true) (x : Operand) (ho : oi.op = .nilCheck x) (ad : Addr) (hx : a.eval x = .pointer (some ad))
    (hQ : ∀ v c a w, Q (.panic c) (a.put oi.dst v) w → Q (.panic c) a w) (hw : Region.wanted oi (yielded ops a.tmps) = true)
    (h : wpAnyL P md ops Q late R fuel (listed.setIfInBounds i true) (a.put oi.dst (.pointer (some ad))) w) : wpAnyL P md ops Q late R (fuel + 1) listed a w := by
  have h1 : ∀ w', Any w w' → (execOp a.eval oi).run P w' = .ok (.value (.pointer (some ad))) w' := fun w' _ => by
    unfold execOp
    simp only [ho, hx]
    rfl
  exact wpAnyL_first hrf (op_at hi) (Region.noSelect_spec hs) (hQ _) (Any w) (fun _ _ _ _ => trivial) [] (.inr fun _ => trivial) fuel listed a w (Region.free_spec (op_at hi) hf) rfl (by simpa using hr) (.inl ⟨hw, h1⟩) trivial h
theorem skipL (hrf : ∀ a, R a a) (i : Nat) {oi : Oper} {fuel : Nat} {listed : Array Bool} {a : Act} {w : World} (hi : (ops.toList.drop i).head? = some oi)
    (hs : Region.noSelect ops = true) (hf : Region.free md ops listed i = true) (hr : (Region.ready md ops listed).contains i = true)
    (hQ : ∀ v c a w, Q (.panic c) (a.put oi.dst v) w → Q (.panic c) a w) (hw : Region.wanted oi (yielded ops a.tmps) = false)
    (h : wpAnyL P md ops Q late R fuel (listed.setIfInBounds i true) (a.put oi.dst undef) w) : wpAnyL P md ops Q late R (fuel + 1) listed a w :=
  wpAnyL_first hrf (op_at hi) (Region.noSelect_spec hs) (hQ _) (fun _ => True) (fun _ _ _ _ => trivial) [] (.inr fun _ => trivial) fuel listed a w (Region.free_spec (op_at hi) hf) rfl (by simpa using hr) (.inr ⟨hw, rfl⟩) trivial h
theorem stepL (i : Nat) {oi : Oper} {fuel : Nat} {listed : Array Bool} {a : Act} {w : World} (hi : (ops.toList.drop i).head? = some oi) (hr : Region.ready md ops listed = [i]) (hw : Region.wanted oi (yielded ops a.tmps) = true)
    (h : ∀ K : Act → World → Prop, (∀ a' w', (i ≠ late → R w w') → wpAnyL P md ops Q late R fuel (listed.setIfInBounds i true) a' w' → K a' w') → oi.wp P a w K Q) : wpAnyL P md ops Q late R (fuel + 1) listed a w := by
  refine ⟨fun h0 => (by rw [hr] at h0; cases h0), fun j hj => ?_⟩
  rw [hr] at hj
  obtain rfl : j = i := by simpa using hj
  refine wpOp_step (op_at hi) (fun K' hK => ?_)
  rw [if_pos hw]
  exact h K' (fun a' w' h1 h2 => hK _ _ ⟨h1, h2⟩)
theorem doneL {listed : Array Bool} {a : Act} {w : World} (hr : Region.ready md ops listed = []) (h : Q .normal a w) : ∀ fuel, wpAnyL P md ops Q late R fuel listed a w
  | 0 => ⟨hr, h⟩
  | _ + 1 => ⟨fun _ => h, by rw [hr]; simp⟩
theorem startL {id : Nat} {a : Act} {w : World} (late : Nat) (R : World → World → Prop) (hm : P.follows .mixedOrders = true)
    (h : wpAnyL P .any ops Q late R ops.size (Array.replicate ops.size false) a w.drew) : (Code.region id ops true).wp P Q a w :=
  wp_region_any hm (wpAny_of_late _ _ _ _ h)
end
end
section
open Go.RowKit

section
variable {P : Program} (w : World)
/-- '[]T{x}' where x is a struct or an array. -/
theorem wp_one {o : Oper} {a : Act} {K : Act → World → Prop} {Q : Exit → Act → World → Prop} (t : TypeId) (x : Operand) (ho : o.op = .buildSlice t 1 #[(0, x)])
    (e : TypeId) (cs : List Value) (ht : P.underlying t = some (.slice e)) (hx : a.eval x = .agg cs.toArray) (hi : (P.info? e).map (·.size) = some cs.length) (hz : ((P.info? e).bind (·.zero)).isSome = true) (hl : cs.length ≤ 16777216) (hn : 0 < cs.length)
    (h : K (a.put o.dst (.slice (some ⟨w.heap.size, 0, none⟩) 1 1)) (w.alloc (.cells cs.toArray e))) : o.wp P a w K Q := by
    obtain ⟨i, hi', hs⟩ := Option.map_eq_some_iff.1 hi
    rw [hi', Option.bind_some] at hz
    obtain ⟨z, hz⟩ := Option.isSome_iff_exists.1 hz
    have hfill : ∀ (c : Array Value), c.size = cs.length → Instr.fill (fun i => some (i * cs.length, cs.length)) c [(0, .agg cs.toArray)] = some cs.toArray := by
      intro c hc
      rw [fill_list _ c 0 (.agg cs.toArray) cs 0 [] rfl (by simp) (by omega)]
      simp only [Instr.fill, List.take_zero, List.nil_append, Nat.zero_add]
      rw [List.drop_eq_nil_of_le (by rw [Array.length_toList]; omega), List.append_nil]
    unfold Oper.wp execOp
    have hrun : (Instr.buildSlice t 1 #[(0, .agg cs.toArray)]).run P w = .ok (.slice (some ⟨w.heap.size, 0, none⟩) 1 1) (w.alloc (.cells cs.toArray e)) := by
      unfold Instr.buildSlice
      simp only [Sem.run_bind, run_underlying ht, Result.andThen_ok, sizeOf, typeInfo, run_program, hi', Sem.run_pure, hs, Nat.one_mul]
      rw [if_neg (by omega)]
      have h0 : ¬ cs.length = 0 := by omega
      simp only [h0, if_false, Sem.run_bind, Sem.run_pure, Result.andThen_ok, zeroValue, typeInfo, run_program, hi', hz]
      have := hfill ((Array.range cs.length).map fun x => z.cells[x % z.cells.size]!) (by simp)
      simp only [this]
      simp [newRow]
    simp only [ho, List.map_toArray, List.map_cons, List.map_nil, hx, Sem.run_bind, hrun, Result.andThen_ok, Sem.run_pure]
    exact h
end
end
end Go.Proofs.Ytpdkmapogncgmaa

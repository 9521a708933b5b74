/- The walk of lamp's From: what a key would be known by that signed so. Conditions: the signature and the digest have their lengths. -/
import Derived.Test.YtfoomnibfibfnaaLKLeaf
set_option linter.unusedVariables false
set_option linter.unusedSimpArgs false
set_option linter.unnecessarySimpa false
namespace Go.Proofs.Ytfoomnibfibfnaa
open Go.RowKit

/-- What a signature's k-th pieces come to. -/
def rowS (S d : List UInt8) (k : Nat) : List UInt8 := rowFrom (bitM d k) ((S.drop (k * 16)).take 16) ((S.drop (512 + k * 16)).take 16)
def fromS (S d : List UInt8) : List UInt8 := leafOf (piecesM (rowS S d) 32)
theorem rowFrom_length {b : Nat} {op ot : List UInt8} (h : ot.length = 16) : (rowFrom b op ot).length = 32 := by
  unfold rowFrom
  split <;> rw [List.length_append, coverM_length, h]
theorem putAt_mid (pre T X : List Value) {n m : Nat} (hn : pre.length = n) (hm : X.length = m) : putAt (pre ++ T) n X = pre ++ X ++ T.drop m := by
  subst hn; subst hm
  unfold putAt
  rw [List.take_left' rfl, ← List.drop_drop, List.drop_left' rfl]
theorem rows_two (f : Nat → List UInt8) {Z X Y : List Value} {k b c : Nat} (hpl : (bv (piecesM f k)).length = k * 32) (hz : Z.length = 1024) (hk : k < 32) (hX : X.length = 16) (hY : Y.length = 16) (hbc : b + c = 1) (hf : bv (f k) = if b = 0 then X ++ Y else Y ++ X) :
    putAt (putAt (rowsC f Z k) (k * 32 + b * 16) X) (k * 32 + c * 16) Y = rowsC f Z (k + 1) := by
  have hT : (Z.drop (k * 32)).drop 32 = Z.drop ((k + 1) * 32) := by rw [List.drop_drop, Nat.succ_mul]
  have hTl : 32 ≤ (Z.drop (k * 32)).length := by rw [List.length_drop, hz]; omega
  unfold rowsC
  rw [piecesM_succ, bv_append, ← hT, hf]
  generalize bv (piecesM f k) = pre at *
  generalize Z.drop (k * 32) = T at *
  rcases (show b = 0 ∧ c = 1 ∨ b = 1 ∧ c = 0 by omega) with ⟨rfl, rfl⟩ | ⟨rfl, rfl⟩
  · rw [show k * 32 + 0 * 16 = k * 32 by omega, putAt_mid pre T X hpl hX, show k * 32 + 1 * 16 = k * 32 + 16 by omega, putAt_mid (pre ++ X) _ Y (by rw [List.length_append, hpl, hX]) hY, List.drop_drop, if_pos rfl]
    simp [List.append_assoc]
  · have e : pre ++ T = (pre ++ T.take 16) ++ T.drop 16 := by rw [List.append_assoc, List.take_append_drop]
    rw [show k * 32 + 1 * 16 = k * 32 + 16 by omega, e, putAt_mid (pre ++ T.take 16) _ X (by rw [List.length_append, hpl, List.length_take]; omega) hX, show k * 32 + 0 * 16 = k * 32 by omega, List.drop_drop, List.append_assoc, List.append_assoc, putAt_mid pre _ Y hpl hY, if_neg (by decide)]
    rw [List.drop_left' (by rw [List.length_take]; omega)]
    simp [List.append_assoc]
set_option maxRecDepth 100000 in
set_option maxHeartbeats 4000000 in
theorem From (S : List UInt8) (hS : S.length = 1024) (d : List UInt8) (hd : d.length = 32) (w : World) :
    Calls Try.prog 17 #[.agg (bv S).toArray, .agg (bv d).toArray] w fun e w' => e = .returned (.agg (bv (fromS S d)).toArray) ∧ Ext w w' := by
  have hzd := digest_zero
  have hdl0 : (bv (List.replicate 32 0)).length = 32 := by simp
  generalize bv (List.replicate 32 0) = D at hzd hdl0
  obtain ⟨Z, hz, hzl⟩ : ∃ Z : List Value, (Try.prog.info? 72).bind (fun i => i.zero.map (·.cells)) = some Z.toArray ∧ Z.length = 1024 := ⟨_, all_zero, List.length_replicate⟩
  have hp1l : ∀ k, k < 32 → ((S.drop (k * 16)).take 16).length = 16 := fun k h => by rw [List.length_take, List.length_drop, hS]; omega
  have hp2l : ∀ k, k < 32 → ((S.drop (512 + k * 16)).take 16).length = 16 := fun k h => by rw [List.length_take, List.length_drop, hS]; omega
  have hpl : ∀ k, k ≤ 32 → (piecesM (rowS S d) k).length = k * 32 := by
    intro k
    induction k with
    | zero => intro _; simp [piecesM]
    | succ k ih => intro h; rw [piecesM_succ, List.length_append, ih (by omega), rowS, rowFrom_length (hp2l k (by omega)), Nat.succ_mul]
  have hlf := fun W => LeafW (piecesM (rowS S d) 32) (hpl 32 (Nat.le_refl _)) W
  have hal : (bv (piecesM (rowS S d) 32)).length = 1024 := by rw [bv_length]; exact hpl 32 (Nat.le_refl _)
  have hll : ∀ k, k ≤ 32 → (rowsC (rowS S d) Z k).length = 1024 := fun k h => by unfold rowsC; rw [List.length_append, bv_length, hpl k h, List.length_drop, hzl]; omega
  have hst := fun k (h : k < 32) X Y b c hX hY hbc hf => rows_two (rowS S d) (Z := Z) (X := X) (Y := Y) (k := k) (b := b) (c := c) (by rw [bv_length]; exact hpl k (by omega)) hzl h hX hY hbc hf
  have hl0 : rowsC (rowS S d) Z 0 = Z := by simp [rowsC, piecesM, bv]
  have hl32 : rowsC (rowS S d) Z 32 = bv (piecesM (rowS S d) 32) := by
    have : Z.drop (32 * 32) = [] := List.drop_of_length_le (by rw [hzl]; decide)
    unfold rowsC
    rw [this, List.append_nil]
  have hbit := fun (k : Nat) (hk : k < 32) W => Bit d hd k hk W
  have hrl : (bv (fromS S d)).length = 32 := by rw [bv_length]; exact leafOf_length _
  have hro := bv_one (fromS S d)
  have hlm : leafOf (piecesM (rowS S d) 32) = fromS S d := rfl
  rw [hlm] at hlf
  have hdl : (bv d).length = 32 := by rw [bv_length]; exact hd
  have hsl : (bv S).length = 1024 := by rw [bv_length]; exact hS
  have hq := bv_drop_take S
  have hb0 : Blk ((((w.alloc (.cells (bv S).toArray 43)).alloc (.cells (bv d).toArray 31)).alloc (.cells D.toArray 31)).alloc (.cells Z.toArray 72)) w.heap.size 43 (bv S) := (((Blk.new _ _ _).keep ((Ext.refl _).alloc _) (by simp)).keep ((Ext.refl _).alloc _) (by simp)).keep ((Ext.refl _).alloc _) (by simp)
  have hb1 : Blk ((((w.alloc (.cells (bv S).toArray 43)).alloc (.cells (bv d).toArray 31)).alloc (.cells D.toArray 31)).alloc (.cells Z.toArray 72)) (w.heap.size + 1) 31 (bv d) := ((Blk.fresh (by simp) _ _).keep ((Ext.refl _).alloc _) (by simp)).keep ((Ext.refl _).alloc _) (by simp)
  have hb2 : Blk ((((w.alloc (.cells (bv S).toArray 43)).alloc (.cells (bv d).toArray 31)).alloc (.cells D.toArray 31)).alloc (.cells Z.toArray 72)) (w.heap.size + 1 + 1) 31 D := (Blk.fresh (by simp) _ _).keep ((Ext.refl _).alloc _) (by simp)
  have hb3 : Blk ((((w.alloc (.cells (bv S).toArray 43)).alloc (.cells (bv d).toArray 31)).alloc (.cells D.toArray 31)).alloc (.cells Z.toArray 72)) (w.heap.size + 1 + 1 + 1) 72 Z := Blk.fresh (by simp) _ _
  have hx0 : Ext w ((((w.alloc (.cells (bv S).toArray 43)).alloc (.cells (bv d).toArray 31)).alloc (.cells D.toArray 31)).alloc (.cells Z.toArray 72)) := ((((Ext.refl w).alloc _).alloc _).alloc _).alloc _
  obtain ⟨LL, hLL⟩ : ∃ LL, LL = rowsC (rowS S d) Z := ⟨_, rfl⟩
  rw [← hLL] at hl0 hl32 hll hst
  generalize bv (fromS S d) = R at *
  generalize bv (piecesM (rowS S d) 32) = AL at *
  generalize bv S = C at *
  generalize bv d = DC at *
  have HB0 := Lib.hid hb0
  have HB1 := Lib.hid hb1
  have HB2 := Lib.hid hb2
  have HB3 := Lib.hid hb3
  have HX0 := Lib.hid hx0
  have HL0 := Lib.hid hl0
  have HL32 := Lib.hid hl32
  have HLLN := Lib.hid hll
  have HST := Lib.hid hst
  have HBIT := Lib.hid hbit
  have HLF := Lib.hid hlf
  have HRL := Lib.hid hrl
  have HAL := Lib.hid hal
  have HDL0 := Lib.hid hdl0
  have HDL := Lib.hid hdl
  have HQ := Lib.hid hq
  have HPA := Lib.hid hp1l
  have HPB := Lib.hid hp2l
  clear hb0 hb1 hb2 hb3 hx0 hl0 hl32 hll hst hbit hlf hrl hdl hdl0 hLL hlm hal hzl hq hp1l hp2l hsl hpl
  go_enter Try.func17, Try.ntmps17
  go_wp2_with (first
    | (refine wpList_alloc _ rfl 31 rfl _ hzd ?_)
    | (refine wpList_alloc _ rfl 72 rfl _ hz ?_)
    | fail)
  go_loopw [6, 7, 8] (fun p q i wr => ∃ k : Nat, k ≤ 32 ∧ i = .int .i64 k ∧ Ext w wr ∧ Blk wr w.heap.size 43 C ∧ Blk wr (w.heap.size + 1) 31 DC ∧ Blk wr (w.heap.size + 1 + 1) 31 D ∧ Blk wr (w.heap.size + 1 + 1 + 1) 72 (LL k)) (fun _ _ i _ => 32 - (intOf i).toNat)
  case atStart => exact ⟨0, by omega, rfl, HX0.out, HB0.out, HB1.out, HB2.out, by rw [HL0.out]; exact HB3.out⟩
  case round =>
    clear HX0 HB0 HB1 HB2 HB3
    obtain ⟨k, hk, rfl, hx, hb0, hb1, hb2, hb3⟩ := hrel
    by_cases hlt : k < 32
    · have hcd := hb1.cells
      have hbt := fun W => HBIT.out k hlt W
      have hbl := bitM_lt d k
      have hq1 := HQ.out (k * 16) 16
      have hq2 := HQ.out (512 + k * 16) 16
      have hl1 : (bv ((S.drop (k * 16)).take 16)).length = 16 := by rw [bv_length]; exact HPA.out k hlt
      have hl2 : (bv ((S.drop (512 + k * 16)).take 16)).length = 16 := by rw [bv_length]; exact HPB.out k hlt
      have hpo2 := bv_one ((S.drop (512 + k * 16)).take 16)
      have hcv := fun W => Cover ((S.drop (k * 16)).take 16) (HPA.out k hlt) W
      have hcl : (bv (coverM ((S.drop (k * 16)).take 16))).length = 16 := by rw [bv_length, coverM_length]
      have hco := bv_one (coverM ((S.drop (k * 16)).take 16))
      have hrow : bv (rowS S d k) = if bitM d k = 0 then bv (coverM ((S.drop (k * 16)).take 16)) ++ bv ((S.drop (512 + k * 16)).take 16) else bv ((S.drop (512 + k * 16)).take 16) ++ bv (coverM ((S.drop (k * 16)).take 16)) := by
        unfold rowS rowFrom
        split <;> rw [bv_append]
      have hstk := HST.out k hlt _ _ (bitM d k) (1 - bitM d k) hcl hl2 (by omega) hrow
      have hll := HLLN.out k (by omega)
      have hbc : bitM d k + (1 - bitM d k) = 1 := by omega
      generalize 1 - bitM d k = c at *
      generalize bitM d k = b at *
      generalize bv (coverM ((S.drop (k * 16)).take 16)) = CV at *
      generalize bv ((S.drop (k * 16)).take 16) = P1 at *
      generalize bv ((S.drop (512 + k * 16)).take 16) = P2 at *
      have hpll : (putAt (LL k) (k * 32 + b * 16) CV).length = 1024 := by rw [putAt_len (by rw [hll, hcl]; omega), hll]
      have HX := Lib.hid hx
      have HB0 := Lib.hid hb0
      have HB1 := Lib.hid hb1
      have HB2 := Lib.hid hb2
      have HB3r := Lib.hid hb3
      have HBT := Lib.hid hbt
      have HBL := Lib.hid hbl
      have HBC := Lib.hid hbc
      have HWR : Hid (IntKind.u8.wrap (1 - (b : Int)) = (c : Int)) := Lib.hid (by simp [IntKind.wrap, IntKind.bits, IntKind.signed]; omega)
      have HQ1 := Lib.hid hq1
      have HQ2 := Lib.hid hq2
      have HP1 := Lib.hid hl1
      have HP2 := Lib.hid hl2
      have HCV := Lib.hid hcv
      have HCL := Lib.hid hcl
      have HSTK := Lib.hid hstk
      have HLL := Lib.hid hll
      have HPLL := Lib.hid hpll
      clear hx hb0 hb1 hb2 hb3 hbt hbl hbc hq1 hq2 hl1 hl2 hcv hcl hstk hll hpll hrow
      go_wp2_with (first
        | (refine wpList_load_agg _ rfl 31 (.tmp 3) rfl _ rfl DC _ Try.underlying31 rfl (digest_size HDL.out) hcd ?_)
        | (go_at_call 36; refine (HBT.out _).mono ?_; rintro e w1 ⟨rfl, hx1⟩)
        | fail)
      have hbk0 := HB0.out.keep (hx1.trans (Ext.refl w1).drew) (by simp)
      have HK1 : Hid (∀ W, Ext w1.drew W → Cells W ⟨w.heap.size, k * 16, none⟩ P1) := Lib.hid fun W h => by have h2 := ((hbk0.keep h (by simp)).cells.drop (k * 16)).take 16; rw [addr_at, HQ1.out] at h2; exact h2
      have HB3 := Lib.hid (HB3r.out.keep (hx1.trans (Ext.refl w1).drew) (by simp))
      have HX1 := Lib.hid (hx1.trans (Ext.refl w1).drew)
      generalize hg : w.heap.size + 1 + 1 + 1 = g at *
      have HG := Lib.hid hg
      have hdk : decide ((k : Int) < 32) = true := by rw [decide_eq_true_iff]; omega
      (try simp only [hdk])
      clear hg hdk hcd hx1 hbk0
      refine stab_store Ext ext_refl ext_trans [[0], [1], [2], [3], [2, 3, 4], [2, 3, 4, 5], [2, 3, 4, 5, 6], [0, 7], [0, 1, 2, 3, 4, 5, 6, 7, 8], [0, 1, 2, 3, 4, 5, 6, 7, 8, 9]] (fun i v wv => match i with | 0 => v = .int .i64 (k : Int) | 1 => v = .int .u8 (b : Int) | 2 => v = .int .i64 (k : Int) | 3 => v = .pointer (some ⟨w.heap.size, 0, none⟩) | 4 => v = .pointer (some ⟨w.heap.size, k * 16, none⟩) | 5 => v = .agg P1.toArray | 6 => v = .agg CV.toArray | 7 => v = .pointer (some ⟨g, k * 32, none⟩) | 8 => v = .pointer (some ⟨g, k * 32 + b * 16, none⟩) | _ => True) (by kernel_rfl) (by kernel_rfl) (by kernel_rfl) (by kernel_rfl) (by simp) ?_ ?_ ?_
      · intro i v w1 w2 h hx
        match i, h with
        | 0, h => exact h
        | 1, h => exact h
        | 2, h => exact h
        | 3, h => exact h
        | 4, h => exact h
        | 5, h => exact h
        | 6, h => exact h
        | 7, h => exact h
        | 8, h => exact h
        | i + 9, h => trivial
      · intro i hi o ho
        match i, hi, ho with
        | 0, _, ho =>
          obtain rfl := Option.some.inj ho
          intro s W hX hd K hK
          rw [if_pos (wanted_plain rfl)]
          clear hd
          replace hK : ∀ (v : Value) (W' : World), Ext W W' → (v = .int .i64 (k : Int)) → _ := hK
          simp only [mkOf, List.map_cons, List.map_nil, Act.put, List.setIfInBounds_toArray, List.set_cons_succ, List.set_cons_zero, Nat.reduceAdd, Nat.zero_add] at hK ⊢
          go_simp
          exact hK _ _ (Ext.refl _) rfl
        | 1, _, ho =>
          obtain rfl := Option.some.inj ho
          intro s W hX hd K hK
          rw [if_pos (wanted_plain rfl)]
          clear hd
          replace hK : ∀ (v : Value) (W' : World), Ext W W' → (v = .int .u8 (b : Int)) → _ := hK
          simp only [mkOf, List.map_cons, List.map_nil, Act.put, List.setIfInBounds_toArray, List.set_cons_succ, List.set_cons_zero, Nat.reduceAdd, Nat.zero_add] at hK ⊢
          go_simp
          exact hK _ _ (Ext.refl _) rfl
        | 2, _, ho =>
          obtain rfl := Option.some.inj ho
          intro s W hX hd K hK
          rw [if_pos (wanted_plain rfl)]
          clear hd
          replace hK : ∀ (v : Value) (W' : World), Ext W W' → (v = .int .i64 (k : Int)) → _ := hK
          simp only [mkOf, List.map_cons, List.map_nil, Act.put, List.setIfInBounds_toArray, List.set_cons_succ, List.set_cons_zero, Nat.reduceAdd, Nat.zero_add] at hK ⊢
          go_simp
          exact hK _ _ (Ext.refl _) rfl
        | 3, _, ho =>
          obtain rfl := Option.some.inj ho
          intro s W hX hd K hK
          rw [if_pos (wanted_plain rfl)]
          clear hd
          replace hK : ∀ (v : Value) (W' : World), Ext W W' → (v = .pointer (some ⟨w.heap.size, 0, none⟩)) → _ := hK
          simp only [mkOf, List.map_cons, List.map_nil, Act.put, List.setIfInBounds_toArray, List.set_cons_succ, List.set_cons_zero, Nat.reduceAdd, Nat.zero_add] at hK ⊢
          go_simp
          exact hK _ _ (Ext.refl _) rfl
        | 4, _, ho =>
          obtain rfl := Option.some.inj ho
          intro s W hX hd K hK
          rw [if_pos (wanted_plain rfl)]
          have d16 : (s 2) = .int .i64 (k : Int) := hd 2 (by decide) (by decide)
          have d17 : (s 3) = .pointer (some ⟨w.heap.size, 0, none⟩) := hd 3 (by decide) (by decide)
          clear hd
          replace hK : ∀ (v : Value) (W' : World), Ext W W' → (v = .pointer (some ⟨w.heap.size, k * 16, none⟩)) → _ := hK
          simp only [mkOf, List.map_cons, List.map_nil, Act.put, List.setIfInBounds_toArray, List.set_cons_succ, List.set_cons_zero, Nat.reduceAdd, Nat.zero_add] at hK ⊢
          simp only [d16, d17] at hK ⊢
          go_simp
          exact hK _ _ (Ext.refl _) rfl
        | 5, _, ho =>
          obtain rfl := Option.some.inj ho
          intro s W hX hd K hK
          rw [if_pos (wanted_plain rfl)]
          have d18 : (s 4) = .pointer (some ⟨w.heap.size, k * 16, none⟩) := hd 4 (by decide) (by decide)
          clear hd
          replace hK : ∀ (v : Value) (W' : World), Ext W W' → (v = .agg P1.toArray) → _ := hK
          simp only [mkOf, List.map_cons, List.map_nil, Act.put, List.setIfInBounds_toArray, List.set_cons_succ, List.set_cons_zero, Nat.reduceAdd, Nat.zero_add] at hK ⊢
          simp only [d18] at hK ⊢
          refine wp_load_agg 40 (.tmp 18) rfl _ (by simpa [Act.eval] using d18) P1 _ Try.underlying40 rfl (piece_size HP1.out) (HK1.out W hX) ?_
          exact hK _ _ (Ext.refl _) rfl
        | 6, _, ho =>
          obtain rfl := Option.some.inj ho
          intro s W hX hd K hK
          rw [if_pos (wanted_plain rfl)]
          have d19 : (s 5) = .agg P1.toArray := hd 5 (by decide) (by decide)
          clear hd
          replace hK : ∀ (v : Value) (W' : World), Ext W W' → (v = .agg CV.toArray) → _ := hK
          simp only [mkOf, List.map_cons, List.map_nil, Act.put, List.setIfInBounds_toArray, List.set_cons_succ, List.set_cons_zero, Nat.reduceAdd, Nat.zero_add] at hK ⊢
          simp only [d19] at hK ⊢
          go_simp
          refine (HCV.out _).mono ?_
          rintro e w' ⟨rfl, hx⟩
          exact hK _ _ hx rfl
        | 7, _, ho =>
          obtain rfl := Option.some.inj ho
          intro s W hX hd K hK
          rw [if_pos (wanted_plain rfl)]
          have d14 : (s 0) = .int .i64 (k : Int) := hd 0 (by decide) (by decide)
          clear hd
          replace hK : ∀ (v : Value) (W' : World), Ext W W' → (v = .pointer (some ⟨g, k * 32, none⟩)) → _ := hK
          simp only [mkOf, List.map_cons, List.map_nil, Act.put, List.setIfInBounds_toArray, List.set_cons_succ, List.set_cons_zero, Nat.reduceAdd, Nat.zero_add] at hK ⊢
          simp only [d14] at hK ⊢
          go_simp
          exact hK _ _ (Ext.refl _) rfl
        | 8, _, ho =>
          obtain rfl := Option.some.inj ho
          intro s W hX hd K hK
          rw [if_pos (wanted_plain rfl)]
          have d15 : (s 1) = .int .u8 (b : Int) := hd 1 (by decide) (by decide)
          have d21 : (s 7) = .pointer (some ⟨g, k * 32, none⟩) := hd 7 (by decide) (by decide)
          clear hd
          replace hK : ∀ (v : Value) (W' : World), Ext W W' → (v = .pointer (some ⟨g, k * 32 + b * 16, none⟩)) → _ := hK
          simp only [mkOf, List.map_cons, List.map_nil, Act.put, List.setIfInBounds_toArray, List.set_cons_succ, List.set_cons_zero, Nat.reduceAdd, Nat.zero_add] at hK ⊢
          simp only [d15, d21] at hK ⊢
          have hbl : (b : Int) < 2 := by have := HBL.out; omega
          go_simp
          exact hK _ _ (Ext.refl _) rfl
        | i + 9, hi, _ => exact absurd hi (by simp)
      · intro o ho
        obtain rfl := Option.some.inj ho
        intro s W hX hd K hK
        rw [if_pos (wanted_plain rfl)]
        have d14 : (s 0) = .int .i64 (k : Int) := hd 0 (by decide)
        have d15 : (s 1) = .int .u8 (b : Int) := hd 1 (by decide)
        have d16 : (s 2) = .int .i64 (k : Int) := hd 2 (by decide)
        have d17 : (s 3) = .pointer (some ⟨w.heap.size, 0, none⟩) := hd 3 (by decide)
        have d18 : (s 4) = .pointer (some ⟨w.heap.size, k * 16, none⟩) := hd 4 (by decide)
        have d19 : (s 5) = .agg P1.toArray := hd 5 (by decide)
        have d20 : (s 6) = .agg CV.toArray := hd 6 (by decide)
        have d21 : (s 7) = .pointer (some ⟨g, k * 32, none⟩) := hd 7 (by decide)
        have d22 : (s 8) = .pointer (some ⟨g, k * 32 + b * 16, none⟩) := hd 8 (by decide)
        clear hd
        simp only [mkOf, List.map_cons, List.map_nil, Act.put, List.setIfInBounds_toArray, List.set_cons_succ, List.set_cons_zero, Nat.reduceAdd, Nat.zero_add]
        refine wp_store_part W 40 (.tmp 22) (.tmp 20) rfl g (k * 32 + b * 16) (by simpa [Act.eval] using d22) (LL k) CV _ (by simpa [Act.eval] using d20) (HB3.out.keep hX (by simp)) (piece_size HCL.out) (by have := HBL.out; rw [HLL.out, HCL.out]; omega) hco ?_
        refine hK _ _ ?_
        have hx2 : Ext w W := HX.out.trans (HX1.out.trans hX)
        have hb0 : Blk (W.setRow g (putAt (LL k) (k * 32 + b * 16) CV).toArray).drew w.heap.size 43 C := ((HB0.out.keep (HX1.out.trans hX) (by simp)).keep (setRow_only _) (by have := HG.out; simp; omega)).keep (Ext.refl _).drew (by simp)
        have hb1 : Blk (W.setRow g (putAt (LL k) (k * 32 + b * 16) CV).toArray).drew (w.heap.size + 1) 31 DC := ((HB1.out.keep (HX1.out.trans hX) (by simp)).keep (setRow_only _) (by have := HG.out; simp; omega)).keep (Ext.refl _).drew (by simp)
        have hb2 : Blk (W.setRow g (putAt (LL k) (k * 32 + b * 16) CV).toArray).drew (w.heap.size + 1 + 1) 31 D := ((HB2.out.keep (HX1.out.trans hX) (by simp)).keep (setRow_only _) (by have := HG.out; simp; omega)).keep (Ext.refl _).drew (by simp)
        have hb3 : Blk (W.setRow g (putAt (LL k) (k * 32 + b * 16) CV).toArray).drew g 72 (putAt (LL k) (k * 32 + b * 16) CV) := Blk.keep (t := 72) (setRow_at (HB3.out.keep hX (by simp))) (Ext.refl _).drew (by simp)
        have hx3 : Ext w (W.setRow g (putAt (LL k) (k * 32 + b * 16) CV).toArray).drew := (setRow_grown hx2 _ _ (by have := HG.out; omega)).trans (Ext.refl _).drew
        have HK2 : Hid (∀ W3, Ext (W.setRow g (putAt (LL k) (k * 32 + b * 16) CV).toArray).drew W3 → Cells W3 ⟨w.heap.size, 512 + k * 16, none⟩ P2) := Lib.hid fun W3 h => by have h2 := ((hb0.keep h (by simp)).cells.drop (512 + k * 16)).take 16; rw [addr_at, HQ2.out] at h2; exact h2
        clear HX HX1 HK1 HB0 HB1 HB2 HB3 HB3r hX hK hx2 HCV HBT
        have HX := Lib.hid hx3
        have HB0 := Lib.hid hb0
        have HB1 := Lib.hid hb1
        have HB2 := Lib.hid hb2
        have HB3 := Lib.hid hb3
        clear hx3 hb0 hb1 hb2 hb3 d14 d15 d16 d17 d18 d19 d20 d21 d22
        (try simp only [Exit.then])
        go_wp2_with fail
        generalize hV : W.setRow g (putAt (LL k) (k * 32 + b * 16) CV).toArray = V at *
        clear hV W
        refine stab_store Ext ext_refl ext_trans [[0], [1], [1, 2], [3], [4], [3, 4, 5], [3, 4, 5, 6], [0, 7], [0, 1, 2, 3, 4, 5, 6, 7, 8], [0, 1, 2, 3, 4, 5, 6, 7, 8, 9]] (fun i v wv => match i with | 0 => v = .int .i64 (k : Int) | 1 => v = .int .u8 (b : Int) | 2 => v = .int .u8 (c : Int) | 3 => v = .int .i64 (k : Int) | 4 => v = .pointer (some ⟨w.heap.size, 512, none⟩) | 5 => v = .pointer (some ⟨w.heap.size, 512 + k * 16, none⟩) | 6 => v = .agg P2.toArray | 7 => v = .pointer (some ⟨g, k * 32, none⟩) | 8 => v = .pointer (some ⟨g, k * 32 + c * 16, none⟩) | _ => True) (by kernel_rfl) (by kernel_rfl) (by kernel_rfl) (by kernel_rfl) (by simp) ?_ ?_ ?_
        · intro i v w1 w2 h hx
          match i, h with
          | 0, h => exact h
          | 1, h => exact h
          | 2, h => exact h
          | 3, h => exact h
          | 4, h => exact h
          | 5, h => exact h
          | 6, h => exact h
          | 7, h => exact h
          | 8, h => exact h
          | i + 9, h => trivial
        · intro i hi o ho
          match i, hi, ho with
          | 0, _, ho =>
            obtain rfl := Option.some.inj ho
            intro s W2 hX hd K hK
            rw [if_pos (wanted_plain rfl)]
            clear hd
            replace hK : ∀ (v : Value) (W2' : World), Ext W2 W2' → (v = .int .i64 (k : Int)) → _ := hK
            simp only [mkOf, List.map_cons, List.map_nil, Act.put, List.setIfInBounds_toArray, List.set_cons_succ, List.set_cons_zero, Nat.reduceAdd, Nat.zero_add] at hK ⊢
            go_simp
            exact hK _ _ (Ext.refl _) rfl
          | 1, _, ho =>
            obtain rfl := Option.some.inj ho
            intro s W2 hX hd K hK
            rw [if_pos (wanted_plain rfl)]
            clear hd
            replace hK : ∀ (v : Value) (W2' : World), Ext W2 W2' → (v = .int .u8 (b : Int)) → _ := hK
            simp only [mkOf, List.map_cons, List.map_nil, Act.put, List.setIfInBounds_toArray, List.set_cons_succ, List.set_cons_zero, Nat.reduceAdd, Nat.zero_add] at hK ⊢
            go_simp
            exact hK _ _ (Ext.refl _) rfl
          | 2, _, ho =>
            obtain rfl := Option.some.inj ho
            intro s W2 hX hd K hK
            rw [if_pos (wanted_plain rfl)]
            have d24 : (s 1) = .int .u8 (b : Int) := hd 1 (by decide) (by decide)
            clear hd
            replace hK : ∀ (v : Value) (W2' : World), Ext W2 W2' → (v = .int .u8 (c : Int)) → _ := hK
            simp only [mkOf, List.map_cons, List.map_nil, Act.put, List.setIfInBounds_toArray, List.set_cons_succ, List.set_cons_zero, Nat.reduceAdd, Nat.zero_add] at hK ⊢
            simp only [d24] at hK ⊢
            go_simp
            exact hK _ _ (Ext.refl _) (by rw [HWR.out])
          | 3, _, ho =>
            obtain rfl := Option.some.inj ho
            intro s W2 hX hd K hK
            rw [if_pos (wanted_plain rfl)]
            clear hd
            replace hK : ∀ (v : Value) (W2' : World), Ext W2 W2' → (v = .int .i64 (k : Int)) → _ := hK
            simp only [mkOf, List.map_cons, List.map_nil, Act.put, List.setIfInBounds_toArray, List.set_cons_succ, List.set_cons_zero, Nat.reduceAdd, Nat.zero_add] at hK ⊢
            go_simp
            exact hK _ _ (Ext.refl _) rfl
          | 4, _, ho =>
            obtain rfl := Option.some.inj ho
            intro s W2 hX hd K hK
            rw [if_pos (wanted_plain rfl)]
            clear hd
            replace hK : ∀ (v : Value) (W2' : World), Ext W2 W2' → (v = .pointer (some ⟨w.heap.size, 512, none⟩)) → _ := hK
            simp only [mkOf, List.map_cons, List.map_nil, Act.put, List.setIfInBounds_toArray, List.set_cons_succ, List.set_cons_zero, Nat.reduceAdd, Nat.zero_add] at hK ⊢
            go_simp
            exact hK _ _ (Ext.refl _) rfl
          | 5, _, ho =>
            obtain rfl := Option.some.inj ho
            intro s W2 hX hd K hK
            rw [if_pos (wanted_plain rfl)]
            have d26 : (s 3) = .int .i64 (k : Int) := hd 3 (by decide) (by decide)
            have d27 : (s 4) = .pointer (some ⟨w.heap.size, 512, none⟩) := hd 4 (by decide) (by decide)
            clear hd
            replace hK : ∀ (v : Value) (W2' : World), Ext W2 W2' → (v = .pointer (some ⟨w.heap.size, 512 + k * 16, none⟩)) → _ := hK
            simp only [mkOf, List.map_cons, List.map_nil, Act.put, List.setIfInBounds_toArray, List.set_cons_succ, List.set_cons_zero, Nat.reduceAdd, Nat.zero_add] at hK ⊢
            simp only [d26, d27] at hK ⊢
            go_simp
            exact hK _ _ (Ext.refl _) rfl
          | 6, _, ho =>
            obtain rfl := Option.some.inj ho
            intro s W2 hX hd K hK
            rw [if_pos (wanted_plain rfl)]
            have d28 : (s 5) = .pointer (some ⟨w.heap.size, 512 + k * 16, none⟩) := hd 5 (by decide) (by decide)
            clear hd
            replace hK : ∀ (v : Value) (W2' : World), Ext W2 W2' → (v = .agg P2.toArray) → _ := hK
            simp only [mkOf, List.map_cons, List.map_nil, Act.put, List.setIfInBounds_toArray, List.set_cons_succ, List.set_cons_zero, Nat.reduceAdd, Nat.zero_add] at hK ⊢
            simp only [d28] at hK ⊢
            refine wp_load_agg 40 (.tmp 28) rfl _ (by simpa [Act.eval] using d28) P2 _ Try.underlying40 rfl (piece_size HP2.out) (HK2.out W2 hX) ?_
            exact hK _ _ (Ext.refl _) rfl
          | 7, _, ho =>
            obtain rfl := Option.some.inj ho
            intro s W2 hX hd K hK
            rw [if_pos (wanted_plain rfl)]
            have d23 : (s 0) = .int .i64 (k : Int) := hd 0 (by decide) (by decide)
            clear hd
            replace hK : ∀ (v : Value) (W2' : World), Ext W2 W2' → (v = .pointer (some ⟨g, k * 32, none⟩)) → _ := hK
            simp only [mkOf, List.map_cons, List.map_nil, Act.put, List.setIfInBounds_toArray, List.set_cons_succ, List.set_cons_zero, Nat.reduceAdd, Nat.zero_add] at hK ⊢
            simp only [d23] at hK ⊢
            go_simp
            exact hK _ _ (Ext.refl _) rfl
          | 8, _, ho =>
            obtain rfl := Option.some.inj ho
            intro s W2 hX hd K hK
            rw [if_pos (wanted_plain rfl)]
            have d25 : (s 2) = .int .u8 (c : Int) := hd 2 (by decide) (by decide)
            have d30 : (s 7) = .pointer (some ⟨g, k * 32, none⟩) := hd 7 (by decide) (by decide)
            clear hd
            replace hK : ∀ (v : Value) (W2' : World), Ext W2 W2' → (v = .pointer (some ⟨g, k * 32 + c * 16, none⟩)) → _ := hK
            simp only [mkOf, List.map_cons, List.map_nil, Act.put, List.setIfInBounds_toArray, List.set_cons_succ, List.set_cons_zero, Nat.reduceAdd, Nat.zero_add] at hK ⊢
            simp only [d25, d30] at hK ⊢
            have hbl : (c : Int) < 2 := by have := HBC.out; omega
            go_simp
            exact hK _ _ (Ext.refl _) rfl
          | i + 9, hi, _ => exact absurd hi (by simp)
        · intro o ho
          obtain rfl := Option.some.inj ho
          intro s W2 hX hd K hK
          rw [if_pos (wanted_plain rfl)]
          have d23 : (s 0) = .int .i64 (k : Int) := hd 0 (by decide)
          have d24 : (s 1) = .int .u8 (b : Int) := hd 1 (by decide)
          have d25 : (s 2) = .int .u8 (c : Int) := hd 2 (by decide)
          have d26 : (s 3) = .int .i64 (k : Int) := hd 3 (by decide)
          have d27 : (s 4) = .pointer (some ⟨w.heap.size, 512, none⟩) := hd 4 (by decide)
          have d28 : (s 5) = .pointer (some ⟨w.heap.size, 512 + k * 16, none⟩) := hd 5 (by decide)
          have d29 : (s 6) = .agg P2.toArray := hd 6 (by decide)
          have d30 : (s 7) = .pointer (some ⟨g, k * 32, none⟩) := hd 7 (by decide)
          have d31 : (s 8) = .pointer (some ⟨g, k * 32 + c * 16, none⟩) := hd 8 (by decide)
          clear hd
          simp only [mkOf, List.map_cons, List.map_nil, Act.put, List.setIfInBounds_toArray, List.set_cons_succ, List.set_cons_zero, Nat.reduceAdd, Nat.zero_add]
          refine wp_store_part W2 40 (.tmp 31) (.tmp 29) rfl g (k * 32 + c * 16) (by simpa [Act.eval] using d31) (putAt (LL k) (k * 32 + b * 16) CV) P2 _ (by simpa [Act.eval] using d29) (HB3.out.keep hX (by simp)) (piece_size HP2.out) (by have := HBC.out; rw [HPLL.out, HP2.out]; omega) hpo2 ?_
          refine hK _ _ ?_
          have hx4 : Ext w (W2.setRow g (putAt (putAt (LL k) (k * 32 + b * 16) CV) (k * 32 + c * 16) P2).toArray) := setRow_grown (HX.out.trans hX) _ _ (by have := HG.out; omega)
          have hb0 := (HB0.out.keep hX (by simp)).keep (setRow_only (putAt (putAt (LL k) (k * 32 + b * 16) CV) (k * 32 + c * 16) P2).toArray) (show some w.heap.size ≠ some g by have := HG.out; simp; omega)
          have hb1 := (HB1.out.keep hX (by simp)).keep (setRow_only (putAt (putAt (LL k) (k * 32 + b * 16) CV) (k * 32 + c * 16) P2).toArray) (show some (w.heap.size + 1) ≠ some g by have := HG.out; simp; omega)
          have hb2 := (HB2.out.keep hX (by simp)).keep (setRow_only (putAt (putAt (LL k) (k * 32 + b * 16) CV) (k * 32 + c * 16) P2).toArray) (show some (w.heap.size + 1 + 1) ≠ some g by have := HG.out; simp; omega)
          have hb3 : Blk (W2.setRow g (putAt (putAt (LL k) (k * 32 + b * 16) CV) (k * 32 + c * 16) P2).toArray) g 72 (LL (k + 1)) := by rw [← HSTK.out]; exact setRow_at (HB3.out.keep hX (by simp))
          generalize W2.setRow g (putAt (putAt (LL k) (k * 32 + b * 16) CV) (k * 32 + c * 16) P2).toArray = V2 at *
          have hge := HG.out
          subst hge
          have HX9 := Lib.hid hx4
          have HB90 := Lib.hid hb0
          have HB91 := Lib.hid hb1
          have HB92 := Lib.hid hb2
          have HB93 := Lib.hid hb3
          clear hx4 hb0 hb1 hb2 hb3 hX hK
          (try simp only [Exit.then])
          go_wp2_with fail
          go_roundw
          case rel => exact ⟨k + 1, by omega, by go_num, HX9.out, HB90.out, HB91.out, HB92.out, HB93.out⟩
          case measure => simp [intOf]; omega
    · obtain rfl : k = 32 := by omega
      rw [HL32.out] at hb3
      have hcm := hb3.cells
      have HX := Lib.hid hx
      have HB2 := Lib.hid hb2
      clear hx hb0 hb1 hb2 hb3
      go_wp2_with (first
        | (refine wpList_load_agg _ rfl 72 (.tmp 5) rfl _ rfl AL _ Try.underlying72 rfl (all_size HAL.out) hcm ?_)
        | fail)
      refine (HLF.out _).mono ?_
      rintro e w4 ⟨rfl, hx4⟩
      have hr4 : w4.heap[w.heap.size + 1 + 1]? = some (.cells D.toArray 31 (0, 0)) := HB2.out.keep hx4 (by simp)
      have hx5 := HX.out.trans hx4
      go_wp2_with (first
        | (refine wpList_store_row _ rfl 31 (.tmp 4) (.tmp 34) rfl (w.heap.size + 1 + 1) rfl D R _ rfl hr4 (digest_size HRL.out) (by rw [HRL.out, HDL0.out]) hro ?_)
        | fail)
      have hc9 := Blk.cells (t := 31) (setRow_at (cs' := R.toArray) hr4)
      (try simp only [Exit.inBlock, Exit.then])
      refine bodyPost_ret (results_agg rfl _ _ _ _ _ rfl Try.underlying31 rfl (digest_size HRL.out) hc9) rfl ?_
      exact ⟨rfl, setRow_grown hx5 _ _ (by omega)⟩
end Go.Proofs.Ytfoomnibfibfnaa

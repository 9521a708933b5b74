/- Walks and plain laws, put together in build order. Conditions: what each of them names. -/
import Derived.Test.YtmicjaiiinaipaaW9c238de9b5
set_option linter.unusedVariables false
set_option linter.unusedSimpArgs false
set_option linter.unnecessarySimpa false
namespace Go.Proofs.Ytmicjaiiinaipaa
section
open Go.RowKit

/-- What a signature's k-th pieces come to. -/
def rowS (S d : List UInt8) (k : Nat) : List UInt8 := rowFrom (bitM d k) ((S.drop (k * 16)).take 16) ((S.drop (512 + k * 16)).take 16)
def fromS (S d : List UInt8) : List UInt8 := leafOf (piecesM (rowS S d) 32)
theorem rowFrom_length {b : Nat} {op ot : List UInt8} (h : ot.length = 16) : (rowFrom b op ot).length = 32 := by
  unfold rowFrom
  split <;> rw [List.length_append, coverM_length, h]
theorem putAt_mid (pre T X : List Value) {n m : Nat} (hn : pre.length = n) (hm : X.length = m) : putAt (pre ++ T) n X = pre ++ X ++ T.drop m := by
  subst hn; subst hm
  unfold putAt
  rw [List.take_left' rfl, ← List.drop_drop, List.drop_left' rfl]
theorem rows_two (f : Nat → List UInt8) {Z X Y : List Value} {k b c : Nat} (hpl : (bv (piecesM f k)).length = k * 32) (hz : Z.length = 1024) (hk : k < 32) (hX : X.length = 16) (hY : Y.length = 16) (hbc : b + c = 1) (hf : bv (f k) = if b = 0 then X ++ Y else Y ++ X) :
    putAt (putAt (rowsC f Z k) (k * 32 + b * 16) X) (k * 32 + c * 16) Y = rowsC f Z (k + 1) := by
  have hT : (Z.drop (k * 32)).drop 32 = Z.drop ((k + 1) * 32) := by rw [List.drop_drop, Nat.succ_mul]
  have hTl : 32 ≤ (Z.drop (k * 32)).length := by rw [List.length_drop, hz]; omega
  unfold rowsC
  rw [piecesM_succ, bv_append, ← hT, hf]
  generalize bv (piecesM f k) = pre at *
  generalize Z.drop (k * 32) = T at *
  rcases (show b = 0 ∧ c = 1 ∨ b = 1 ∧ c = 0 by omega) with ⟨rfl, rfl⟩ | ⟨rfl, rfl⟩
  · rw [show k * 32 + 0 * 16 = k * 32 by omega, putAt_mid pre T X hpl hX, show k * 32 + 1 * 16 = k * 32 + 16 by omega, putAt_mid (pre ++ X) _ Y (by rw [List.length_append, hpl, hX]) hY, List.drop_drop, if_pos rfl]
    simp [List.append_assoc]
  · have e : pre ++ T = (pre ++ T.take 16) ++ T.drop 16 := by rw [List.append_assoc, List.take_append_drop]
    rw [show k * 32 + 1 * 16 = k * 32 + 16 by omega, e, putAt_mid (pre ++ T.take 16) _ X (by rw [List.length_append, hpl, List.length_take]; omega) hX, show k * 32 + 0 * 16 = k * 32 by omega, List.drop_drop, List.append_assoc, List.append_assoc, putAt_mid pre _ Y hpl hY, if_neg (by decide)]
    rw [List.drop_left' (by rw [List.length_take]; omega)]
    simp [List.append_assoc]
set_option maxRecDepth 100000 in
set_option maxHeartbeats 4000000 in
theorem From (S : List UInt8) (hS : S.length = 1024) (d : List UInt8) (hd : d.length = 32) (w : World) :
    Calls Try.prog 62 #[.agg (bv S).toArray, .agg (bv d).toArray] w fun e w' => e = .returned (.agg (bv (fromS S d)).toArray) ∧ Ext w w' := by
  have hzd := digest_zero
  have hdl0 : (bv (List.replicate 32 0)).length = 32 := by simp
  generalize bv (List.replicate 32 0) = D at hzd hdl0
  obtain ⟨Z, hz, hzl⟩ : ∃ Z : List Value, (Try.prog.info? 132).bind (fun i => i.zero.map (·.cells)) = some Z.toArray ∧ Z.length = 1024 := ⟨_, all_zero, List.length_replicate⟩
  have hp1l : ∀ k, k < 32 → ((S.drop (k * 16)).take 16).length = 16 := fun k h => by rw [List.length_take, List.length_drop, hS]; omega
  have hp2l : ∀ k, k < 32 → ((S.drop (512 + k * 16)).take 16).length = 16 := fun k h => by rw [List.length_take, List.length_drop, hS]; omega
  have hpl : ∀ k, k ≤ 32 → (piecesM (rowS S d) k).length = k * 32 := by
    intro k
    induction k with
    | zero => intro _; simp [piecesM]
    | succ k ih => intro h; rw [piecesM_succ, List.length_append, ih (by omega), rowS, rowFrom_length (hp2l k (by omega)), Nat.succ_mul]
  have hlf := fun W => LeafW (piecesM (rowS S d) 32) (hpl 32 (Nat.le_refl _)) W
  have hal : (bv (piecesM (rowS S d) 32)).length = 1024 := by rw [bv_length]; exact hpl 32 (Nat.le_refl _)
  have hll : ∀ k, k ≤ 32 → (rowsC (rowS S d) Z k).length = 1024 := fun k h => by unfold rowsC; rw [List.length_append, bv_length, hpl k h, List.length_drop, hzl]; omega
  have hst := fun k (h : k < 32) X Y b c hX hY hbc hf => rows_two (rowS S d) (Z := Z) (X := X) (Y := Y) (k := k) (b := b) (c := c) (by rw [bv_length]; exact hpl k (by omega)) hzl h hX hY hbc hf
  have hl0 : rowsC (rowS S d) Z 0 = Z := by simp [rowsC, piecesM, bv]
  have hl32 : rowsC (rowS S d) Z 32 = bv (piecesM (rowS S d) 32) := by
    have : Z.drop (32 * 32) = [] := List.drop_of_length_le (by rw [hzl]; decide)
    unfold rowsC
    rw [this, List.append_nil]
  have hbit := fun (k : Nat) (hk : k < 32) W => Bit d hd k hk W
  have hrl : (bv (fromS S d)).length = 32 := by rw [bv_length]; exact leafOf_length _
  have hro := bv_one (fromS S d)
  have hlm : leafOf (piecesM (rowS S d) 32) = fromS S d := rfl
  rw [hlm] at hlf
  have hdl : (bv d).length = 32 := by rw [bv_length]; exact hd
  have hsl : (bv S).length = 1024 := by rw [bv_length]; exact hS
  have hq := bv_drop_take S
  have hb0 : Blk ((((w.alloc (.cells (bv S).toArray 67)).alloc (.cells (bv d).toArray 52)).alloc (.cells D.toArray 52)).alloc (.cells Z.toArray 132)) w.heap.size 67 (bv S) := (((Blk.new _ _ _).keep ((Ext.refl _).alloc _) (by simp)).keep ((Ext.refl _).alloc _) (by simp)).keep ((Ext.refl _).alloc _) (by simp)
  have hb1 : Blk ((((w.alloc (.cells (bv S).toArray 67)).alloc (.cells (bv d).toArray 52)).alloc (.cells D.toArray 52)).alloc (.cells Z.toArray 132)) (w.heap.size + 1) 52 (bv d) := ((Blk.fresh (by simp) _ _).keep ((Ext.refl _).alloc _) (by simp)).keep ((Ext.refl _).alloc _) (by simp)
  have hb2 : Blk ((((w.alloc (.cells (bv S).toArray 67)).alloc (.cells (bv d).toArray 52)).alloc (.cells D.toArray 52)).alloc (.cells Z.toArray 132)) (w.heap.size + 1 + 1) 52 D := (Blk.fresh (by simp) _ _).keep ((Ext.refl _).alloc _) (by simp)
  have hb3 : Blk ((((w.alloc (.cells (bv S).toArray 67)).alloc (.cells (bv d).toArray 52)).alloc (.cells D.toArray 52)).alloc (.cells Z.toArray 132)) (w.heap.size + 1 + 1 + 1) 132 Z := Blk.fresh (by simp) _ _
  have hx0 : Ext w ((((w.alloc (.cells (bv S).toArray 67)).alloc (.cells (bv d).toArray 52)).alloc (.cells D.toArray 52)).alloc (.cells Z.toArray 132)) := ((((Ext.refl w).alloc _).alloc _).alloc _).alloc _
  obtain ⟨LL, hLL⟩ : ∃ LL, LL = rowsC (rowS S d) Z := ⟨_, rfl⟩
  rw [← hLL] at hl0 hl32 hll hst
  generalize bv (fromS S d) = R at *
  generalize bv (piecesM (rowS S d) 32) = AL at *
  generalize bv S = C at *
  generalize bv d = DC at *
  have HB0 := Lib.hid hb0
  have HB1 := Lib.hid hb1
  have HB2 := Lib.hid hb2
  have HB3 := Lib.hid hb3
  have HX0 := Lib.hid hx0
  have HL0 := Lib.hid hl0
  have HL32 := Lib.hid hl32
  have HLLN := Lib.hid hll
  have HST := Lib.hid hst
  have HBIT := Lib.hid hbit
  have HLF := Lib.hid hlf
  have HRL := Lib.hid hrl
  have HAL := Lib.hid hal
  have HDL0 := Lib.hid hdl0
  have HDL := Lib.hid hdl
  have HQ := Lib.hid hq
  have HPA := Lib.hid hp1l
  have HPB := Lib.hid hp2l
  clear hb0 hb1 hb2 hb3 hx0 hl0 hl32 hll hst hbit hlf hrl hdl hdl0 hLL hlm hal hzl hq hp1l hp2l hsl hpl
  go_enter Try.func62, Try.ntmps62
  go_wp2_with (first
    | (refine wpList_alloc _ rfl 52 rfl _ hzd ?_)
    | (refine wpList_alloc _ rfl 132 rfl _ hz ?_)
    | fail)
  go_loopw [6, 7, 8] (fun p q i wr => ∃ k : Nat, k ≤ 32 ∧ i = .int .i64 k ∧ Ext w wr ∧ Blk wr w.heap.size 67 C ∧ Blk wr (w.heap.size + 1) 52 DC ∧ Blk wr (w.heap.size + 1 + 1) 52 D ∧ Blk wr (w.heap.size + 1 + 1 + 1) 132 (LL k)) (fun _ _ i _ => 32 - (intOf i).toNat)
  case atStart => exact ⟨0, by omega, rfl, HX0.out, HB0.out, HB1.out, HB2.out, by rw [HL0.out]; exact HB3.out⟩
  case round =>
    clear HX0 HB0 HB1 HB2 HB3
    obtain ⟨k, hk, rfl, hx, hb0, hb1, hb2, hb3⟩ := hrel
    by_cases hlt : k < 32
    · have hcd := hb1.cells
      have hbt := fun W => HBIT.out k hlt W
      have hbl := bitM_lt d k
      have hq1 := HQ.out (k * 16) 16
      have hq2 := HQ.out (512 + k * 16) 16
      have hl1 : (bv ((S.drop (k * 16)).take 16)).length = 16 := by rw [bv_length]; exact HPA.out k hlt
      have hl2 : (bv ((S.drop (512 + k * 16)).take 16)).length = 16 := by rw [bv_length]; exact HPB.out k hlt
      have hpo2 := bv_one ((S.drop (512 + k * 16)).take 16)
      have hcv := fun W => Cover ((S.drop (k * 16)).take 16) (HPA.out k hlt) W
      have hcl : (bv (coverM ((S.drop (k * 16)).take 16))).length = 16 := by rw [bv_length, coverM_length]
      have hco := bv_one (coverM ((S.drop (k * 16)).take 16))
      have hrow : bv (rowS S d k) = if bitM d k = 0 then bv (coverM ((S.drop (k * 16)).take 16)) ++ bv ((S.drop (512 + k * 16)).take 16) else bv ((S.drop (512 + k * 16)).take 16) ++ bv (coverM ((S.drop (k * 16)).take 16)) := by
        unfold rowS rowFrom
        split <;> rw [bv_append]
      have hstk := HST.out k hlt _ _ (bitM d k) (1 - bitM d k) hcl hl2 (by omega) hrow
      have hll := HLLN.out k (by omega)
      have hbc : bitM d k + (1 - bitM d k) = 1 := by omega
      generalize 1 - bitM d k = c at *
      generalize bitM d k = b at *
      generalize bv (coverM ((S.drop (k * 16)).take 16)) = CV at *
      generalize bv ((S.drop (k * 16)).take 16) = P1 at *
      generalize bv ((S.drop (512 + k * 16)).take 16) = P2 at *
      have hpll : (putAt (LL k) (k * 32 + b * 16) CV).length = 1024 := by rw [putAt_len (by rw [hll, hcl]; omega), hll]
      have HX := Lib.hid hx
      have HB0 := Lib.hid hb0
      have HB1 := Lib.hid hb1
      have HB2 := Lib.hid hb2
      have HB3r := Lib.hid hb3
      have HBT := Lib.hid hbt
      have HBL := Lib.hid hbl
      have HBC := Lib.hid hbc
      have HWR : Hid (IntKind.u8.wrap (1 - (b : Int)) = (c : Int)) := Lib.hid (by simp [IntKind.wrap, IntKind.bits, IntKind.signed]; omega)
      have HQ1 := Lib.hid hq1
      have HQ2 := Lib.hid hq2
      have HP1 := Lib.hid hl1
      have HP2 := Lib.hid hl2
      have HCV := Lib.hid hcv
      have HCL := Lib.hid hcl
      have HSTK := Lib.hid hstk
      have HLL := Lib.hid hll
      have HPLL := Lib.hid hpll
      clear hx hb0 hb1 hb2 hb3 hbt hbl hbc hq1 hq2 hl1 hl2 hcv hcl hstk hll hpll hrow
      go_wp2_with (first
        | (refine wpList_load_agg _ rfl 52 (.tmp 3) rfl _ rfl DC _ Try.underlying52 rfl (digest_size HDL.out) hcd ?_)
        | (go_at_call 67; refine (HBT.out _).mono ?_; rintro e w1 ⟨rfl, hx1⟩)
        | fail)
      have hbk0 := HB0.out.keep (hx1.trans (Ext.refl w1).drew) (by simp)
      have HK1 : Hid (∀ W, Ext w1.drew W → Cells W ⟨w.heap.size, k * 16, none⟩ P1) := Lib.hid fun W h => by have h2 := ((hbk0.keep h (by simp)).cells.drop (k * 16)).take 16; rw [addr_at, HQ1.out] at h2; exact h2
      have HB3 := Lib.hid (HB3r.out.keep (hx1.trans (Ext.refl w1).drew) (by simp))
      have HX1 := Lib.hid (hx1.trans (Ext.refl w1).drew)
      generalize hg : w.heap.size + 1 + 1 + 1 = g at *
      have HG := Lib.hid hg
      have hdk : decide ((k : Int) < 32) = true := by rw [decide_eq_true_iff]; omega
      (try simp only [hdk])
      clear hg hdk hcd hx1 hbk0
      refine stab_store Ext ext_refl ext_trans [[0], [1], [2], [3], [2, 3, 4], [2, 3, 4, 5], [2, 3, 4, 5, 6], [0, 7], [0, 1, 2, 3, 4, 5, 6, 7, 8], [0, 1, 2, 3, 4, 5, 6, 7, 8, 9]] (fun i v wv => match i with | 0 => v = .int .i64 (k : Int) | 1 => v = .int .u8 (b : Int) | 2 => v = .int .i64 (k : Int) | 3 => v = .pointer (some ⟨w.heap.size, 0, none⟩) | 4 => v = .pointer (some ⟨w.heap.size, k * 16, none⟩) | 5 => v = .agg P1.toArray | 6 => v = .agg CV.toArray | 7 => v = .pointer (some ⟨g, k * 32, none⟩) | 8 => v = .pointer (some ⟨g, k * 32 + b * 16, none⟩) | _ => True) (by kernel_rfl) (by kernel_rfl) (by kernel_rfl) (by kernel_rfl) (by simp) ?_ ?_ ?_
      · intro i v w1 w2 h hx
        match i, h with
        | 0, h => exact h
        | 1, h => exact h
        | 2, h => exact h
        | 3, h => exact h
        | 4, h => exact h
        | 5, h => exact h
        | 6, h => exact h
        | 7, h => exact h
        | 8, h => exact h
        | i + 9, h => trivial
      · intro i hi o ho
        match i, hi, ho with
        | 0, _, ho =>
          obtain rfl := Option.some.inj ho
          intro s W hX hd K hK
          rw [if_pos (wanted_plain rfl)]
          clear hd
          replace hK : ∀ (v : Value) (W' : World), Ext W W' → (v = .int .i64 (k : Int)) → _ := hK
          simp only [mkOf, List.map_cons, List.map_nil, Act.put, List.setIfInBounds_toArray, List.set_cons_succ, List.set_cons_zero, Nat.reduceAdd, Nat.zero_add] at hK ⊢
          go_simp
          exact hK _ _ (Ext.refl _) rfl
        | 1, _, ho =>
          obtain rfl := Option.some.inj ho
          intro s W hX hd K hK
          rw [if_pos (wanted_plain rfl)]
          clear hd
          replace hK : ∀ (v : Value) (W' : World), Ext W W' → (v = .int .u8 (b : Int)) → _ := hK
          simp only [mkOf, List.map_cons, List.map_nil, Act.put, List.setIfInBounds_toArray, List.set_cons_succ, List.set_cons_zero, Nat.reduceAdd, Nat.zero_add] at hK ⊢
          go_simp
          exact hK _ _ (Ext.refl _) rfl
        | 2, _, ho =>
          obtain rfl := Option.some.inj ho
          intro s W hX hd K hK
          rw [if_pos (wanted_plain rfl)]
          clear hd
          replace hK : ∀ (v : Value) (W' : World), Ext W W' → (v = .int .i64 (k : Int)) → _ := hK
          simp only [mkOf, List.map_cons, List.map_nil, Act.put, List.setIfInBounds_toArray, List.set_cons_succ, List.set_cons_zero, Nat.reduceAdd, Nat.zero_add] at hK ⊢
          go_simp
          exact hK _ _ (Ext.refl _) rfl
        | 3, _, ho =>
          obtain rfl := Option.some.inj ho
          intro s W hX hd K hK
          rw [if_pos (wanted_plain rfl)]
          clear hd
          replace hK : ∀ (v : Value) (W' : World), Ext W W' → (v = .pointer (some ⟨w.heap.size, 0, none⟩)) → _ := hK
          simp only [mkOf, List.map_cons, List.map_nil, Act.put, List.setIfInBounds_toArray, List.set_cons_succ, List.set_cons_zero, Nat.reduceAdd, Nat.zero_add] at hK ⊢
          go_simp
          exact hK _ _ (Ext.refl _) rfl
        | 4, _, ho =>
          obtain rfl := Option.some.inj ho
          intro s W hX hd K hK
          rw [if_pos (wanted_plain rfl)]
          have d16 : (s 2) = .int .i64 (k : Int) := hd 2 (by decide) (by decide)
          have d17 : (s 3) = .pointer (some ⟨w.heap.size, 0, none⟩) := hd 3 (by decide) (by decide)
          clear hd
          replace hK : ∀ (v : Value) (W' : World), Ext W W' → (v = .pointer (some ⟨w.heap.size, k * 16, none⟩)) → _ := hK
          simp only [mkOf, List.map_cons, List.map_nil, Act.put, List.setIfInBounds_toArray, List.set_cons_succ, List.set_cons_zero, Nat.reduceAdd, Nat.zero_add] at hK ⊢
          simp only [d16, d17] at hK ⊢
          go_simp
          exact hK _ _ (Ext.refl _) rfl
        | 5, _, ho =>
          obtain rfl := Option.some.inj ho
          intro s W hX hd K hK
          rw [if_pos (wanted_plain rfl)]
          have d18 : (s 4) = .pointer (some ⟨w.heap.size, k * 16, none⟩) := hd 4 (by decide) (by decide)
          clear hd
          replace hK : ∀ (v : Value) (W' : World), Ext W W' → (v = .agg P1.toArray) → _ := hK
          simp only [mkOf, List.map_cons, List.map_nil, Act.put, List.setIfInBounds_toArray, List.set_cons_succ, List.set_cons_zero, Nat.reduceAdd, Nat.zero_add] at hK ⊢
          simp only [d18] at hK ⊢
          refine wp_load_agg 64 (.tmp 18) rfl _ (by simpa [Act.eval] using d18) P1 _ Try.underlying64 rfl (piece_size HP1.out) (HK1.out W hX) ?_
          exact hK _ _ (Ext.refl _) rfl
        | 6, _, ho =>
          obtain rfl := Option.some.inj ho
          intro s W hX hd K hK
          rw [if_pos (wanted_plain rfl)]
          have d19 : (s 5) = .agg P1.toArray := hd 5 (by decide) (by decide)
          clear hd
          replace hK : ∀ (v : Value) (W' : World), Ext W W' → (v = .agg CV.toArray) → _ := hK
          simp only [mkOf, List.map_cons, List.map_nil, Act.put, List.setIfInBounds_toArray, List.set_cons_succ, List.set_cons_zero, Nat.reduceAdd, Nat.zero_add] at hK ⊢
          simp only [d19] at hK ⊢
          go_simp
          refine (HCV.out _).mono ?_
          rintro e w' ⟨rfl, hx⟩
          exact hK _ _ hx rfl
        | 7, _, ho =>
          obtain rfl := Option.some.inj ho
          intro s W hX hd K hK
          rw [if_pos (wanted_plain rfl)]
          have d14 : (s 0) = .int .i64 (k : Int) := hd 0 (by decide) (by decide)
          clear hd
          replace hK : ∀ (v : Value) (W' : World), Ext W W' → (v = .pointer (some ⟨g, k * 32, none⟩)) → _ := hK
          simp only [mkOf, List.map_cons, List.map_nil, Act.put, List.setIfInBounds_toArray, List.set_cons_succ, List.set_cons_zero, Nat.reduceAdd, Nat.zero_add] at hK ⊢
          simp only [d14] at hK ⊢
          go_simp
          exact hK _ _ (Ext.refl _) rfl
        | 8, _, ho =>
          obtain rfl := Option.some.inj ho
          intro s W hX hd K hK
          rw [if_pos (wanted_plain rfl)]
          have d15 : (s 1) = .int .u8 (b : Int) := hd 1 (by decide) (by decide)
          have d21 : (s 7) = .pointer (some ⟨g, k * 32, none⟩) := hd 7 (by decide) (by decide)
          clear hd
          replace hK : ∀ (v : Value) (W' : World), Ext W W' → (v = .pointer (some ⟨g, k * 32 + b * 16, none⟩)) → _ := hK
          simp only [mkOf, List.map_cons, List.map_nil, Act.put, List.setIfInBounds_toArray, List.set_cons_succ, List.set_cons_zero, Nat.reduceAdd, Nat.zero_add] at hK ⊢
          simp only [d15, d21] at hK ⊢
          have hbl : (b : Int) < 2 := by have := HBL.out; omega
          go_simp
          exact hK _ _ (Ext.refl _) rfl
        | i + 9, hi, _ => exact absurd hi (by simp)
      · intro o ho
        obtain rfl := Option.some.inj ho
        intro s W hX hd K hK
        rw [if_pos (wanted_plain rfl)]
        have d14 : (s 0) = .int .i64 (k : Int) := hd 0 (by decide)
        have d15 : (s 1) = .int .u8 (b : Int) := hd 1 (by decide)
        have d16 : (s 2) = .int .i64 (k : Int) := hd 2 (by decide)
        have d17 : (s 3) = .pointer (some ⟨w.heap.size, 0, none⟩) := hd 3 (by decide)
        have d18 : (s 4) = .pointer (some ⟨w.heap.size, k * 16, none⟩) := hd 4 (by decide)
        have d19 : (s 5) = .agg P1.toArray := hd 5 (by decide)
        have d20 : (s 6) = .agg CV.toArray := hd 6 (by decide)
        have d21 : (s 7) = .pointer (some ⟨g, k * 32, none⟩) := hd 7 (by decide)
        have d22 : (s 8) = .pointer (some ⟨g, k * 32 + b * 16, none⟩) := hd 8 (by decide)
        clear hd
        simp only [mkOf, List.map_cons, List.map_nil, Act.put, List.setIfInBounds_toArray, List.set_cons_succ, List.set_cons_zero, Nat.reduceAdd, Nat.zero_add]
        refine wp_store_part W 64 (.tmp 22) (.tmp 20) rfl g (k * 32 + b * 16) (by simpa [Act.eval] using d22) (LL k) CV _ (by simpa [Act.eval] using d20) (HB3.out.keep hX (by simp)) (piece_size HCL.out) (by have := HBL.out; rw [HLL.out, HCL.out]; omega) hco ?_
        refine hK _ _ ?_
        have hx2 : Ext w W := HX.out.trans (HX1.out.trans hX)
        have hb0 : Blk (W.setRow g (putAt (LL k) (k * 32 + b * 16) CV).toArray).drew w.heap.size 67 C := ((HB0.out.keep (HX1.out.trans hX) (by simp)).keep (setRow_only _) (by have := HG.out; simp; omega)).keep (Ext.refl _).drew (by simp)
        have hb1 : Blk (W.setRow g (putAt (LL k) (k * 32 + b * 16) CV).toArray).drew (w.heap.size + 1) 52 DC := ((HB1.out.keep (HX1.out.trans hX) (by simp)).keep (setRow_only _) (by have := HG.out; simp; omega)).keep (Ext.refl _).drew (by simp)
        have hb2 : Blk (W.setRow g (putAt (LL k) (k * 32 + b * 16) CV).toArray).drew (w.heap.size + 1 + 1) 52 D := ((HB2.out.keep (HX1.out.trans hX) (by simp)).keep (setRow_only _) (by have := HG.out; simp; omega)).keep (Ext.refl _).drew (by simp)
        have hb3 : Blk (W.setRow g (putAt (LL k) (k * 32 + b * 16) CV).toArray).drew g 132 (putAt (LL k) (k * 32 + b * 16) CV) := Blk.keep (t := 132) (setRow_at (HB3.out.keep hX (by simp))) (Ext.refl _).drew (by simp)
        have hx3 : Ext w (W.setRow g (putAt (LL k) (k * 32 + b * 16) CV).toArray).drew := (setRow_grown hx2 _ _ (by have := HG.out; omega)).trans (Ext.refl _).drew
        have HK2 : Hid (∀ W3, Ext (W.setRow g (putAt (LL k) (k * 32 + b * 16) CV).toArray).drew W3 → Cells W3 ⟨w.heap.size, 512 + k * 16, none⟩ P2) := Lib.hid fun W3 h => by have h2 := ((hb0.keep h (by simp)).cells.drop (512 + k * 16)).take 16; rw [addr_at, HQ2.out] at h2; exact h2
        clear HX HX1 HK1 HB0 HB1 HB2 HB3 HB3r hX hK hx2 HCV HBT
        have HX := Lib.hid hx3
        have HB0 := Lib.hid hb0
        have HB1 := Lib.hid hb1
        have HB2 := Lib.hid hb2
        have HB3 := Lib.hid hb3
        clear hx3 hb0 hb1 hb2 hb3 d14 d15 d16 d17 d18 d19 d20 d21 d22
        (try simp only [Exit.then])
        go_wp2_with fail
        generalize hV : W.setRow g (putAt (LL k) (k * 32 + b * 16) CV).toArray = V at *
        clear hV W
        refine stab_store Ext ext_refl ext_trans [[0], [1], [1, 2], [3], [4], [3, 4, 5], [3, 4, 5, 6], [0, 7], [0, 1, 2, 3, 4, 5, 6, 7, 8], [0, 1, 2, 3, 4, 5, 6, 7, 8, 9]] (fun i v wv => match i with | 0 => v = .int .i64 (k : Int) | 1 => v = .int .u8 (b : Int) | 2 => v = .int .u8 (c : Int) | 3 => v = .int .i64 (k : Int) | 4 => v = .pointer (some ⟨w.heap.size, 512, none⟩) | 5 => v = .pointer (some ⟨w.heap.size, 512 + k * 16, none⟩) | 6 => v = .agg P2.toArray | 7 => v = .pointer (some ⟨g, k * 32, none⟩) | 8 => v = .pointer (some ⟨g, k * 32 + c * 16, none⟩) | _ => True) (by kernel_rfl) (by kernel_rfl) (by kernel_rfl) (by kernel_rfl) (by simp) ?_ ?_ ?_
        · intro i v w1 w2 h hx
          match i, h with
          | 0, h => exact h
          | 1, h => exact h
          | 2, h => exact h
          | 3, h => exact h
          | 4, h => exact h
          | 5, h => exact h
          | 6, h => exact h
          | 7, h => exact h
          | 8, h => exact h
          | i + 9, h => trivial
        · intro i hi o ho
          match i, hi, ho with
          | 0, _, ho =>
            obtain rfl := Option.some.inj ho
            intro s W2 hX hd K hK
            rw [if_pos (wanted_plain rfl)]
            clear hd
            replace hK : ∀ (v : Value) (W2' : World), Ext W2 W2' → (v = .int .i64 (k : Int)) → _ := hK
            simp only [mkOf, List.map_cons, List.map_nil, Act.put, List.setIfInBounds_toArray, List.set_cons_succ, List.set_cons_zero, Nat.reduceAdd, Nat.zero_add] at hK ⊢
            go_simp
            exact hK _ _ (Ext.refl _) rfl
          | 1, _, ho =>
            obtain rfl := Option.some.inj ho
            intro s W2 hX hd K hK
            rw [if_pos (wanted_plain rfl)]
            clear hd
            replace hK : ∀ (v : Value) (W2' : World), Ext W2 W2' → (v = .int .u8 (b : Int)) → _ := hK
            simp only [mkOf, List.map_cons, List.map_nil, Act.put, List.setIfInBounds_toArray, List.set_cons_succ, List.set_cons_zero, Nat.reduceAdd, Nat.zero_add] at hK ⊢
            go_simp
            exact hK _ _ (Ext.refl _) rfl
          | 2, _, ho =>
            obtain rfl := Option.some.inj ho
            intro s W2 hX hd K hK
            rw [if_pos (wanted_plain rfl)]
            have d24 : (s 1) = .int .u8 (b : Int) := hd 1 (by decide) (by decide)
            clear hd
            replace hK : ∀ (v : Value) (W2' : World), Ext W2 W2' → (v = .int .u8 (c : Int)) → _ := hK
            simp only [mkOf, List.map_cons, List.map_nil, Act.put, List.setIfInBounds_toArray, List.set_cons_succ, List.set_cons_zero, Nat.reduceAdd, Nat.zero_add] at hK ⊢
            simp only [d24] at hK ⊢
            go_simp
            exact hK _ _ (Ext.refl _) (by rw [HWR.out])
          | 3, _, ho =>
            obtain rfl := Option.some.inj ho
            intro s W2 hX hd K hK
            rw [if_pos (wanted_plain rfl)]
            clear hd
            replace hK : ∀ (v : Value) (W2' : World), Ext W2 W2' → (v = .int .i64 (k : Int)) → _ := hK
            simp only [mkOf, List.map_cons, List.map_nil, Act.put, List.setIfInBounds_toArray, List.set_cons_succ, List.set_cons_zero, Nat.reduceAdd, Nat.zero_add] at hK ⊢
            go_simp
            exact hK _ _ (Ext.refl _) rfl
          | 4, _, ho =>
            obtain rfl := Option.some.inj ho
            intro s W2 hX hd K hK
            rw [if_pos (wanted_plain rfl)]
            clear hd
            replace hK : ∀ (v : Value) (W2' : World), Ext W2 W2' → (v = .pointer (some ⟨w.heap.size, 512, none⟩)) → _ := hK
            simp only [mkOf, List.map_cons, List.map_nil, Act.put, List.setIfInBounds_toArray, List.set_cons_succ, List.set_cons_zero, Nat.reduceAdd, Nat.zero_add] at hK ⊢
            go_simp
            exact hK _ _ (Ext.refl _) rfl
          | 5, _, ho =>
            obtain rfl := Option.some.inj ho
            intro s W2 hX hd K hK
            rw [if_pos (wanted_plain rfl)]
            have d26 : (s 3) = .int .i64 (k : Int) := hd 3 (by decide) (by decide)
            have d27 : (s 4) = .pointer (some ⟨w.heap.size, 512, none⟩) := hd 4 (by decide) (by decide)
            clear hd
            replace hK : ∀ (v : Value) (W2' : World), Ext W2 W2' → (v = .pointer (some ⟨w.heap.size, 512 + k * 16, none⟩)) → _ := hK
            simp only [mkOf, List.map_cons, List.map_nil, Act.put, List.setIfInBounds_toArray, List.set_cons_succ, List.set_cons_zero, Nat.reduceAdd, Nat.zero_add] at hK ⊢
            simp only [d26, d27] at hK ⊢
            go_simp
            exact hK _ _ (Ext.refl _) rfl
          | 6, _, ho =>
            obtain rfl := Option.some.inj ho
            intro s W2 hX hd K hK
            rw [if_pos (wanted_plain rfl)]
            have d28 : (s 5) = .pointer (some ⟨w.heap.size, 512 + k * 16, none⟩) := hd 5 (by decide) (by decide)
            clear hd
            replace hK : ∀ (v : Value) (W2' : World), Ext W2 W2' → (v = .agg P2.toArray) → _ := hK
            simp only [mkOf, List.map_cons, List.map_nil, Act.put, List.setIfInBounds_toArray, List.set_cons_succ, List.set_cons_zero, Nat.reduceAdd, Nat.zero_add] at hK ⊢
            simp only [d28] at hK ⊢
            refine wp_load_agg 64 (.tmp 28) rfl _ (by simpa [Act.eval] using d28) P2 _ Try.underlying64 rfl (piece_size HP2.out) (HK2.out W2 hX) ?_
            exact hK _ _ (Ext.refl _) rfl
          | 7, _, ho =>
            obtain rfl := Option.some.inj ho
            intro s W2 hX hd K hK
            rw [if_pos (wanted_plain rfl)]
            have d23 : (s 0) = .int .i64 (k : Int) := hd 0 (by decide) (by decide)
            clear hd
            replace hK : ∀ (v : Value) (W2' : World), Ext W2 W2' → (v = .pointer (some ⟨g, k * 32, none⟩)) → _ := hK
            simp only [mkOf, List.map_cons, List.map_nil, Act.put, List.setIfInBounds_toArray, List.set_cons_succ, List.set_cons_zero, Nat.reduceAdd, Nat.zero_add] at hK ⊢
            simp only [d23] at hK ⊢
            go_simp
            exact hK _ _ (Ext.refl _) rfl
          | 8, _, ho =>
            obtain rfl := Option.some.inj ho
            intro s W2 hX hd K hK
            rw [if_pos (wanted_plain rfl)]
            have d25 : (s 2) = .int .u8 (c : Int) := hd 2 (by decide) (by decide)
            have d30 : (s 7) = .pointer (some ⟨g, k * 32, none⟩) := hd 7 (by decide) (by decide)
            clear hd
            replace hK : ∀ (v : Value) (W2' : World), Ext W2 W2' → (v = .pointer (some ⟨g, k * 32 + c * 16, none⟩)) → _ := hK
            simp only [mkOf, List.map_cons, List.map_nil, Act.put, List.setIfInBounds_toArray, List.set_cons_succ, List.set_cons_zero, Nat.reduceAdd, Nat.zero_add] at hK ⊢
            simp only [d25, d30] at hK ⊢
            have hbl : (c : Int) < 2 := by have := HBC.out; omega
            go_simp
            exact hK _ _ (Ext.refl _) rfl
          | i + 9, hi, _ => exact absurd hi (by simp)
        · intro o ho
          obtain rfl := Option.some.inj ho
          intro s W2 hX hd K hK
          rw [if_pos (wanted_plain rfl)]
          have d23 : (s 0) = .int .i64 (k : Int) := hd 0 (by decide)
          have d24 : (s 1) = .int .u8 (b : Int) := hd 1 (by decide)
          have d25 : (s 2) = .int .u8 (c : Int) := hd 2 (by decide)
          have d26 : (s 3) = .int .i64 (k : Int) := hd 3 (by decide)
          have d27 : (s 4) = .pointer (some ⟨w.heap.size, 512, none⟩) := hd 4 (by decide)
          have d28 : (s 5) = .pointer (some ⟨w.heap.size, 512 + k * 16, none⟩) := hd 5 (by decide)
          have d29 : (s 6) = .agg P2.toArray := hd 6 (by decide)
          have d30 : (s 7) = .pointer (some ⟨g, k * 32, none⟩) := hd 7 (by decide)
          have d31 : (s 8) = .pointer (some ⟨g, k * 32 + c * 16, none⟩) := hd 8 (by decide)
          clear hd
          simp only [mkOf, List.map_cons, List.map_nil, Act.put, List.setIfInBounds_toArray, List.set_cons_succ, List.set_cons_zero, Nat.reduceAdd, Nat.zero_add]
          refine wp_store_part W2 64 (.tmp 31) (.tmp 29) rfl g (k * 32 + c * 16) (by simpa [Act.eval] using d31) (putAt (LL k) (k * 32 + b * 16) CV) P2 _ (by simpa [Act.eval] using d29) (HB3.out.keep hX (by simp)) (piece_size HP2.out) (by have := HBC.out; rw [HPLL.out, HP2.out]; omega) hpo2 ?_
          refine hK _ _ ?_
          have hx4 : Ext w (W2.setRow g (putAt (putAt (LL k) (k * 32 + b * 16) CV) (k * 32 + c * 16) P2).toArray) := setRow_grown (HX.out.trans hX) _ _ (by have := HG.out; omega)
          have hb0 := (HB0.out.keep hX (by simp)).keep (setRow_only (putAt (putAt (LL k) (k * 32 + b * 16) CV) (k * 32 + c * 16) P2).toArray) (show some w.heap.size ≠ some g by have := HG.out; simp; omega)
          have hb1 := (HB1.out.keep hX (by simp)).keep (setRow_only (putAt (putAt (LL k) (k * 32 + b * 16) CV) (k * 32 + c * 16) P2).toArray) (show some (w.heap.size + 1) ≠ some g by have := HG.out; simp; omega)
          have hb2 := (HB2.out.keep hX (by simp)).keep (setRow_only (putAt (putAt (LL k) (k * 32 + b * 16) CV) (k * 32 + c * 16) P2).toArray) (show some (w.heap.size + 1 + 1) ≠ some g by have := HG.out; simp; omega)
          have hb3 : Blk (W2.setRow g (putAt (putAt (LL k) (k * 32 + b * 16) CV) (k * 32 + c * 16) P2).toArray) g 132 (LL (k + 1)) := by rw [← HSTK.out]; exact setRow_at (HB3.out.keep hX (by simp))
          generalize W2.setRow g (putAt (putAt (LL k) (k * 32 + b * 16) CV) (k * 32 + c * 16) P2).toArray = V2 at *
          have hge := HG.out
          subst hge
          have HX9 := Lib.hid hx4
          have HB90 := Lib.hid hb0
          have HB91 := Lib.hid hb1
          have HB92 := Lib.hid hb2
          have HB93 := Lib.hid hb3
          clear hx4 hb0 hb1 hb2 hb3 hX hK
          (try simp only [Exit.then])
          go_wp2_with fail
          go_roundw
          case rel => exact ⟨k + 1, by omega, by go_num, HX9.out, HB90.out, HB91.out, HB92.out, HB93.out⟩
          case measure => simp [intOf]; omega
    · obtain rfl : k = 32 := by omega
      rw [HL32.out] at hb3
      have hcm := hb3.cells
      have HX := Lib.hid hx
      have HB2 := Lib.hid hb2
      clear hx hb0 hb1 hb2 hb3
      go_wp2_with (first
        | (refine wpList_load_agg _ rfl 132 (.tmp 5) rfl _ rfl AL _ Try.underlying132 rfl (all_size HAL.out) hcm ?_)
        | fail)
      refine (HLF.out _).mono ?_
      rintro e w4 ⟨rfl, hx4⟩
      have hr4 : w4.heap[w.heap.size + 1 + 1]? = some (.cells D.toArray 52 (0, 0)) := HB2.out.keep hx4 (by simp)
      have hx5 := HX.out.trans hx4
      go_wp2_with (first
        | (refine wpList_store_row _ rfl 52 (.tmp 4) (.tmp 34) rfl (w.heap.size + 1 + 1) rfl D R _ rfl hr4 (digest_size HRL.out) (by rw [HRL.out, HDL0.out]) hro ?_)
        | fail)
      have hc9 := Blk.cells (t := 52) (setRow_at (cs' := R.toArray) hr4)
      (try simp only [Exit.inBlock, Exit.then])
      refine bodyPost_ret (results_agg rfl _ _ _ _ _ rfl Try.underlying52 rfl (digest_size HRL.out) hc9) rfl ?_
      exact ⟨rfl, setRow_grown hx5 _ _ (by omega)⟩
end
section
open Go.RowKit

theorem piecesM_congr {f g : Nat → List UInt8} : ∀ n, (∀ k, k < n → f k = g k) → piecesM f n = piecesM g n
  | 0, _ => rfl
  | n + 1, h => by rw [piecesM_succ, piecesM_succ, piecesM_congr n (fun k hk => h k (by omega)), h n (by omega)]
theorem sign_openB (seed : List UInt8) (n : Nat) (d : List UInt8) {k : Nat} (h : k < 32) : ((signM seed n d).drop (k * 16)).take 16 = openM seed n d k := by
  have e := pieceAt_pieces (f := openM seed n d) (fun _ => secretM_length _ _ _ _) h
  have hl : (piecesM (openM seed n d) 32).length = 512 := piecesM_length (f := openM seed n d) (fun _ => secretM_length _ _ _ _) 32
  unfold pieceAt at e
  rw [← e, signM, List.drop_append_of_le_length (by rw [hl]; omega), List.take_append_of_le_length (by rw [List.length_drop, hl]; omega), Nat.mul_comm 16 k]
theorem sign_otherB (seed : List UInt8) (n : Nat) (d : List UInt8) {k : Nat} (h : k < 32) : ((signM seed n d).drop (512 + k * 16)).take 16 = otherM seed n d k := by
  have e := pieceAt_pieces (f := otherM seed n d) (fun _ => coverM_length _) h
  have hl : (piecesM (openM seed n d) 32).length = 512 := piecesM_length (f := openM seed n d) (fun _ => secretM_length _ _ _ _) 32
  unfold pieceAt at e
  rw [← e, signM, ← List.drop_drop, List.drop_left' hl, Nat.mul_comm 16 k]
theorem fromS_sign (seed : List UInt8) (n : Nat) (d : List UInt8) : fromS (signM seed n d) d = leafM seed n := by
  unfold fromS leafM
  congr 1
  refine piecesM_congr (g := rowM seed n) 32 fun k hk => ?_
  unfold rowS
  rw [sign_openB seed n d hk, sign_otherB seed n d hk, row_back]
section
variable {P : Program} {w : World}
theorem wp_known {o : Oper} {a : Act} {K : Act → World → Prop} {Q : Exit → Act → World → Prop} (v : Value) (hr : (execOp a.eval o).run P w = .ok (.value v) w) (h : K (a.put o.dst v) w) : o.wp P a w K Q := by
  unfold Oper.wp
  rw [hr]
  exact h
theorem wp_bin2 {o : Oper} {a : Act} {K : Act → World → Prop} {Q : Exit → Act → World → Prop} (op : BinOp) (t : TypeId) {t' : TypeId} (x y : Operand) (ho : o.op = .binOp op t x y t') (u v : Value) {r : Value} (hx : a.eval x = u) (hy : a.eval y = v)
    (hg : (eqGuard op t x y u v).run P w = .ok () w) (hb : (binOp op t u v).run P w = .ok r w) (h : K (a.put o.dst r) w) : o.wp P a w K Q := by
  refine wp_known r ?_ h
  unfold execOp
  simp only [ho, hx, hy, Sem.run_bind, hg, hb, Result.andThen_ok, Sem.run_pure]
end
theorem eqD_self (D : List UInt8) (hD : D.length = 32) : (∀ (x y : Operand) (w : World), (eqGuard .eql 52 x y (.agg (bv D).toArray) (.agg (bv D).toArray)).run Try.prog w = .ok () w) ∧ ∀ w, (binOp .eql 52 (.agg (bv D).toArray) (.agg (bv D).toArray)).run Try.prog w = .ok (.bool true) w :=
  ⟨fun x y w => run_eqGuard w .eql 52 x y _ _ (.inl rfl) (by kernel_rfl), fun w => by have := run_eqD w 52 5 32 Try.underlying52 Try.underlying5 (by kernel_rfl) D D hD hD; rw [this, beq_self_eq_true]⟩
def fiveD : List UInt8 := 5 :: List.replicate 31 0
end
section
open Go.RowKit

/-! ### What is carried while an alloc may come at any time beside calls that only make memory -/
structure AJ (w0 : World) (t : TypeId) (Z : List Value) (al : Option Nat) (W : World) : Prop where
  ext : Ext w0 W
  blk : ∀ g, al = some g → w0.heap.size ≤ g ∧ Blk W g t Z
theorem AJ.start (w0 : World) (t : TypeId) (Z : List Value) : AJ w0 t Z none w0 := ⟨Ext.refl _, fun g h => (by cases h)⟩
theorem AJ.alloc {w0 W : World} {t : TypeId} {Z : List Value} (h : AJ w0 t Z none W) : AJ w0 t Z (some W.heap.size) (W.alloc (.cells Z.toArray t)) :=
  ⟨h.ext.trans ((Ext.refl W).alloc _), by rintro g ⟨⟩; exact ⟨h.ext.size, Blk.new _ _ _⟩⟩
theorem AJ.keepAlloc {w0 W : World} {t : TypeId} {Z : List Value} {al : Option Nat} (h : AJ w0 t Z al W) (o : Obj) : KeepB (fun b => b < w0.heap.size) W (W.alloc o) := fun b hb =>
  ((Ext.refl W).alloc o).block b (Nat.lt_of_lt_of_le hb h.ext.size) (by simp)
theorem AJ.step {w0 W W' : World} {t : TypeId} {Z : List Value} {al : Option Nat} (h : AJ w0 t Z al W) (hx : Ext W W') : AJ w0 t Z al W' ∧ KeepB (fun b => b < w0.heap.size) W W' :=
  ⟨⟨h.ext.trans hx, fun g hg => ⟨(h.blk g hg).1, (h.blk g hg).2.keep hx (by simp)⟩⟩, fun b hb => hx.block b (Nat.lt_of_lt_of_le hb h.ext.size) (by simp)⟩
theorem sharedA {Q : Prop} {A : Nat → World → Prop} (J : Nat → World → Prop) (h1 : (∀ g w, J g w → A g w) → Q) (h2 : ∀ g w, J g w → A g w) : Q := h1 h2
/-! ### Sums, one behind the other -/
abbrev Dg := List UInt8
def DigT : Ty := .arr 32 .u8
abbrev Ways (w : World) (F : Fp) (v : Value) (ds : List Dg) : Prop := (Ty.sl DigT).holds w F [v] ds
theorem digT_iff {w : World} {F : Fp} {cs : List Value} {d : Dg} : DigT.holds w F cs d ↔ cs = bv d ∧ List.length (α := UInt8) d = 32 := by
  constructor
  · rintro ⟨h1, h2⟩; exact ⟨AllH.bytes.1 h2, h1⟩
  · rintro ⟨h1, h2⟩; exact ⟨h2, AllH.bytes.2 h1⟩
theorem digs_iff {w : World} {F : Fp} : ∀ {l : List Dg} {xs : List Value}, AllH (DigT.holds w F) xs l ↔ xs = l.flatMap bv ∧ ∀ d ∈ l, List.length (α := UInt8) d = 32
  | [], xs => by simp [AllH]
  | c :: l, xs => by
    constructor
    · rintro ⟨c1, c2, rfl, h1, h2⟩
      obtain ⟨rfl, ok⟩ := digT_iff.1 h1
      obtain ⟨rfl, oks⟩ := digs_iff.1 h2
      refine ⟨rfl, fun x hx => ?_⟩
      rcases List.mem_cons.1 hx with rfl | hx
      · exact ok
      · exact oks x hx
    · rintro ⟨rfl, ok⟩
      exact ⟨_, _, rfl, digT_iff.2 ⟨rfl, ok c (by simp)⟩, digs_iff.2 ⟨rfl, fun x hx => ok x (by simp [hx])⟩⟩
theorem ways_open {w : World} {F : Fp} {v : Value} {ds : List Dg} (h : Ways w F v ds) : ∃ (A : Option Addr) (c : Nat) (xs : List Value), v = .slice A (List.length (α := Dg) ds) c ∧ List.length (α := Dg) ds ≤ c ∧ c ≤ maxLen ∧ (A = none → c = 0) ∧ (0 < List.length (α := Dg) ds → ∃ ad, A = some ad ∧ F ad.block ∧ Cells w ad xs) ∧ AllH (DigT.holds w F) xs ds := by
  obtain ⟨A, c, xs, hv, h1, h2, h3, h4, h5⟩ := h
  cases hv
  exact ⟨A, c, xs, rfl, h1, h2, h3, fun h => h4 (by intro e; rw [e] at h; exact absurd h (Nat.lt_irrefl _)), h5⟩
theorem digs_at {w w' : World} {F : Fp} {xs : List Value} {l : List Dg} {ad : Addr} {k : Nat} (hall : AllH (DigT.holds w F) xs l) (hc : Cells w' ad xs) (hk : k < l.length) : Cells w' (ad.add (k * 32)) (bv l[k]) ∧ List.length (α := UInt8) l[k] = 32 := by
  have h := AllH.elem hall hk
  obtain ⟨h1, h2⟩ := digT_iff.1 h
  have e : DigT.size = 32 := rfl
  rw [e] at h1
  have h3 := (hc.drop (k * 32)).take 32
  rw [h1] at h3
  exact ⟨h3, h2⟩
def OwnD (e : TypeId) (w : World) (v : Value) (ds : List Dg) : Prop := (∀ d ∈ ds, List.length (α := UInt8) d = 32) ∧ Own w e 32 v (List.length (α := Dg) ds) (ds.flatMap bv)
theorem OwnD.ext {e : TypeId} {w w' : World} {v : Value} {ds : List Dg} (h : OwnD e w v ds) (hx : Ext w w') : OwnD e w' v ds := ⟨h.1, h.2.ext hx⟩
theorem OwnD.lt {e : TypeId} {w : World} {v : Value} {ds : List Dg} (h : OwnD e w v ds) : ∀ g, v.ownBlock = some g → g < w.heap.size := fun g hg => (World.ownsRow.lt h.2 g hg).2
theorem OwnD.holds {e : TypeId} {w : World} {v : Value} {ds : List Dg} (h : OwnD e w v ds) : Ways w (fun b => v.ownBlock = some b) v ds := by
  obtain ⟨hok, h⟩ := h
  rcases h.2 with ⟨rfl, h0⟩ | ⟨g, cap, cur, rfl, _, hg, hnc, hcm, _, _⟩
  · obtain rfl : ds = [] := List.eq_nil_of_length_eq_zero h0
    exact ⟨none, 0, [], rfl, Nat.le_refl 0, by simp [maxLen], fun _ => rfl, fun h => absurd rfl h, rfl⟩
  · exact ⟨_, cap, _, rfl, hnc, hcm, by simp, fun _ => ⟨_, rfl, rfl, World.ownsRow.cells h rfl⟩, digs_iff.2 ⟨rfl, hok⟩⟩
/-- A signature's cells: the pieces, the key's number, the way. -/
def sigC (C : List Value) (key : Nat) (v : Value) : List Value := C ++ [.int .u32 (key : Int), v]
theorem sigC_len {C : List Value} (h : C.length = 1024) (key : Nat) (v : Value) : (sigC C key v).length = 1026 := by simp [sigC, h]
theorem sigC_take {C : List Value} (h : C.length = 1024) (key : Nat) (v : Value) : (sigC C key v).take 1024 = C := List.take_left' h
theorem sigC_key {C : List Value} (h : C.length = 1024) (key : Nat) (v : Value) : (sigC C key v)[1024]? = some (.int .u32 (key : Int)) := by rw [sigC, List.getElem?_append_right (by omega), h]; rfl
theorem sigC_way {C : List Value} (h : C.length = 1024) (key : Nat) (v : Value) : (sigC C key v)[1025]? = some v := by rw [sigC, List.getElem?_append_right (by omega), h]; rfl
theorem sigC_set {C : List Value} (h : C.length = 1024) (key : Nat) (v u : Value) : (sigC C key v).set 1025 u = sigC C key u := by rw [sigC, List.set_append_right _ _ (by omega), h]; rfl
theorem sigC_one {C : List Value} (h : ∀ u ∈ C, u.oneCell' = true) (key : Nat) (A : Option Addr) (n c : Nat) : ∀ u ∈ sigC C key (.slice A n c), u.oneCell' = true := by
  intro u hu
  rcases List.mem_append.1 hu with hu | hu
  · exact h u hu
  · simp only [List.mem_cons, List.not_mem_nil, or_false] at hu
    rcases hu with rfl | rfl <;> rfl
theorem src_at {w : World} {g : Nat} (hg : w.heap.size = g) (cs : List Value) (t : TypeId) (m : Nat) : Src (w.alloc (.cells cs.toArray t)) (some ⟨g, 0, none⟩) m cs := by
  subst hg; exact src_new w cs t m
theorem szInTo05 {n : Nat} (h : n = 1024) : (Try.prog.info? 84).map (·.size) = some n := by subst h; kernel_rfl
theorem szOutTo05 {n : Nat} (h : n = 1026) : (Try.prog.info? 70).map (·.size) = some n := by subst h; kernel_rfl
theorem szElTo05 {n : Nat} (h : n = 32) : (Try.prog.info? 28).map (·.size) = some n := by subst h; kernel_rfl
theorem szEbTo05 {n : Nat} (h : n = 32) : (Try.prog.info? 52).map (·.size) = some n := by subst h; kernel_rfl
theorem zElTo05 : (Try.prog.info? 28).bind (fun i => i.zero.map (·.cells)) = some (List.replicate 32 (Value.int .u8 0)).toArray := by kernel_rfl
theorem zEbTo05 : ((Try.prog.info? 52).bind (·.zero)).isSome = true := by kernel_rfl
theorem zOutTo05 : (Try.prog.info? 70).bind (fun i => i.zero.map (·.cells)) = some (List.replicate 1024 (Value.int .u8 0) ++ [Value.int .u32 0, Value.slice none 0 0]).toArray := by kernel_rfl
theorem fieldsTo05 : ∃ fields, Try.prog.underlying 70 = some (.struct fields) ∧ fields.toList.mapM (fun f => (Try.prog.info? f.type).map fun i => (f.offset, i.size)) = some [(0, 1024), (1024, 1), (1025, 1)] :=
  ⟨_, Try.underlying70, by kernel_rfl⟩
theorem partsTo05 : ∃ (i : TypeInfo) (z : Value), Try.prog.info? 52 = some i ∧ i.zero = some z ∧ i.size = 32 ∧ i.bytes = 32 ∧ z.cells.size = 32 := by
  have h : ((Try.prog.info? 52).bind fun i => i.zero.map fun z => (i.size, i.bytes, z.cells.size)) = some (32, 32, 32) := by kernel_rfl
  obtain ⟨i, hi, h2⟩ := Option.bind_eq_some_iff.1 h
  obtain ⟨z, hz, h3⟩ := Option.map_eq_some_iff.1 h2
  have h4 : i.size = 32 ∧ i.bytes = 32 ∧ z.cells.size = 32 := by simpa using h3
  exact ⟨i, z, hi, hz, h4⟩
end
section

/-- What two sums are known by. -/
def aboveM (a b : Dg) : Dg := sha (textM 3 [a, b])
theorem aboveM_length (a b : Dg) : List.length (α := UInt8) (aboveM a b) = 32 := sha_length _
theorem leafM_length (seed : List UInt8) (n : Nat) : (leafM seed n).length = 32 := leafOf_length _
/-- The row above. -/
def upM (l : List Dg) : List Dg := (List.range (l.length / 2)).map fun i => aboveM (l.getD (2 * i) []) (l.getD (2 * i + 1) [])
/-- The rows of a ring. -/
def levM (seed : List UInt8) (tall : Nat) : Nat → List Dg
  | 0 => (List.range (2 ^ tall)).map (leafM seed)
  | j + 1 => upM (levM seed tall j)
def levsM (seed : List UInt8) (tall : Nat) : List (List Dg) := (List.range (tall + 1)).map (levM seed tall)
theorem upM_length (l : List Dg) : (upM l).length = l.length / 2 := by simp [upM]
theorem levM_length (seed : List UInt8) (tall : Nat) : ∀ j, j ≤ tall → List.length (α := Dg) (levM seed tall j) = 2 ^ (tall - j)
  | 0, _ => by simp [levM]
  | j + 1, h => by
    rw [levM, upM_length, levM_length seed tall j (by omega), show tall - j = (tall - (j + 1)) + 1 by omega, Nat.pow_succ]
    omega
theorem levM_len (seed : List UInt8) (tall : Nat) : ∀ j, ∀ d ∈ levM seed tall j, List.length (α := UInt8) d = 32
  | 0, d, h => by
    simp only [levM, List.mem_map] at h
    obtain ⟨k, _, rfl⟩ := h
    exact leafM_length _ _
  | j + 1, d, h => by
    simp only [levM, upM, List.mem_map] at h
    obtain ⟨k, _, rfl⟩ := h
    exact aboveM_length _ _
theorem upM_at (l : List Dg) {i : Nat} (h : i < l.length / 2) : (upM l).getD i [] = aboveM (l.getD (2 * i) []) (l.getD (2 * i + 1) []) := by
  simp [upM, List.getD, h]
theorem lev0_at (seed : List UInt8) (tall : Nat) {i : Nat} (h : i < 2 ^ tall) : (levM seed tall 0).getD i [] = leafM seed i := by
  simp [levM, List.getD, h]
def rootM (seed : List UInt8) (tall : Nat) : Dg := (levM seed tall tall).getD 0 []
/-- The other one of two. -/
def sideM (k : Nat) : Nat := if k % 2 = 1 then k - 1 else k + 1
/-- The way up from a key. -/
def wayM (seed : List UInt8) (tall key : Nat) : List Dg := (List.range tall).map fun j => (levM seed tall j).getD (sideM (key / 2 ^ j)) []
theorem wayM_length (seed : List UInt8) (tall key : Nat) : List.length (α := Dg) (wayM seed tall key) = tall := by simp [wayM]
theorem wayM_take (seed : List UInt8) (tall key : Nat) {j : Nat} (h : j < tall) : (wayM seed tall key).take (j + 1) = (wayM seed tall key).take j ++ [(levM seed tall j).getD (sideM (key / 2 ^ j)) []] := by
  rw [List.take_add_one]
  congr 1
  simp [wayM, h]
/-- So far up. -/
def climbM (key : Nat) (x : Dg) (ds : List Dg) : Nat → Dg
  | 0 => x
  | i + 1 => if key / 2 ^ i % 2 = 1 then aboveM (ds.getD i []) (climbM key x ds i) else aboveM (climbM key x ds i) (ds.getD i [])
theorem climbM_length (key : Nat) {x : Dg} (ds : List Dg) (hx : List.length (α := UInt8) x = 32) : ∀ i, List.length (α := UInt8) (climbM key x ds i) = 32
  | 0 => hx
  | i + 1 => by
    rw [climbM]
    split <;> exact aboveM_length _ _
theorem climb_way (seed : List UInt8) (tall key : Nat) (hk : key < 2 ^ tall) : ∀ i, i ≤ tall → climbM key (leafM seed key) (wayM seed tall key) i = (levM seed tall i).getD (key / 2 ^ i) []
  | 0, _ => by rw [climbM, Nat.pow_zero, Nat.div_one, lev0_at seed tall hk]
  | i + 1, h => by
    have ih := climb_way seed tall key hk i (by omega)
    have hw : (wayM seed tall key).getD i [] = (levM seed tall i).getD (sideM (key / 2 ^ i)) [] := by
      simp [wayM, List.getD, show i < tall by omega]
    have hpos : 0 < 2 ^ i := Nat.two_pow_pos i
    have hlt : key / 2 ^ i < 2 ^ (tall - i) := by
      rw [Nat.div_lt_iff_lt_mul hpos, ← Nat.pow_add, show tall - i + i = tall by omega]
      exact hk
    have hdd : key / 2 ^ (i + 1) = key / 2 ^ i / 2 := by rw [Nat.pow_succ, Nat.div_div_eq_div_mul]
    have hl := levM_length seed tall i (by omega)
    have hhalf : key / 2 ^ i / 2 < List.length (α := Dg) (levM seed tall i) / 2 := by
      rw [hl, show tall - i = (tall - (i + 1)) + 1 by omega, Nat.pow_succ] at *
      omega
    rw [climbM, ih, hw, hdd]
    show _ = (upM (levM seed tall i)).getD _ []
    rw [upM_at _ hhalf]
    generalize key / 2 ^ i = m
    unfold sideM
    by_cases hm : m % 2 = 1
    · rw [if_pos hm, if_pos hm, show 2 * (m / 2) + 1 = m by omega, show 2 * (m / 2) = m - 1 by omega]
    · rw [if_neg hm, if_neg hm, show 2 * (m / 2) + 1 = m + 1 by omega, show 2 * (m / 2) = m by omega]
theorem climb_root (seed : List UInt8) (tall key : Nat) (hk : key < 2 ^ tall) : climbM key (leafM seed key) (wayM seed tall key) tall = rootM seed tall := by
  rw [climb_way seed tall key hk tall (Nat.le_refl _), Nat.div_eq_of_lt hk]; rfl
/-- Is a signature right? -/
def rightM (S : List UInt8) (keyS : Nat) (ds : List Dg) (root : Dg) (tall : Int) (key : Nat) (d : Dg) : Bool :=
  if tall < 0 ∨ ((List.length (α := Dg) ds : Nat) : Int) ≠ tall ∨ keyS ≠ key ∨ (tall < 32 ∧ key / 2 ^ tall.toNat ≠ 0) then false else decide (climbM key (fromS S d) ds (List.length (α := Dg) ds) = root)
theorem right_signed (seed : List UInt8) (tall key : Nat) (d : Dg) (hk : key < 2 ^ tall) : rightM (signM seed key d) key (wayM seed tall key) (rootM seed tall) (tall : Int) key d = true := by
  unfold rightM
  rw [if_neg, fromS_sign, wayM_length, climb_root seed tall key hk]
  · simp
  · rw [wayM_length, Int.toNat_natCast, Nat.div_eq_of_lt hk]
    omega
theorem levM_all (seed : List UInt8) (tall j i : Nat) (hj : j ≤ tall) (hi : i < 2 ^ (tall - j)) : List.length (α := UInt8) ((levM seed tall j).getD i []) = 32 := by
  have hl := levM_length seed tall j hj
  have hi' : i < List.length (α := Dg) (levM seed tall j) := by rw [hl]; exact hi
  have : (levM seed tall j).getD i [] = (levM seed tall j)[i] := by simp [List.getD, hi']
  rw [this]
  exact levM_len seed tall j _ (List.getElem_mem _)
theorem rootM_length (seed : List UInt8) (tall : Nat) : List.length (α := UInt8) (rootM seed tall) = 32 := levM_all seed tall tall 0 (Nat.le_refl _) (by simp)
end
section
open Go.RowKit

theorem two_parts {w : World} {a b : Value} {p q : List UInt8} {F G : Fp} {T : TypeId} (ha : (Ty.sl .u8).holds w F [a] p) (hF : ∀ x, F x → x < w.heap.size) (hb : (Ty.sl .u8).holds w G [b] q) (hG : ∀ x, G x → x < w.heap.size) :
    ∃ F', (Ty.sl (.sl .u8)).holds (w.alloc (.cells #[a, b] T)) F' [.slice (some ⟨w.heap.size, 0, none⟩) 2 2] [p, q] ∧ ∀ x, F' x → x < (w.alloc (.cells #[a, b] T)).heap.size := by
  refine ⟨_, parts_new (w := w) (vs := [a, b]) (F := fun x => F x ∨ G x) rfl rfl (by simp [maxLen]) ?_ ?_, ?_⟩
  · exact ⟨[a], [b], rfl, Ty.keep (fun _ _ => rfl) (fun _ h => .inl h) _ ha, [b], [], rfl, Ty.keep (fun _ _ => rfl) (fun _ h => .inr h) _ hb, rfl⟩
  · rintro x (h | h)
    · exact hF x h
    · exact hG x h
  · rintro x ((h | h) | rfl)
    · have := hF x h; simp; omega
    · have := hG x h; simp; omega
    · simp
theorem blk_slice {w : World} {g : Nat} {t : TypeId} {bs : List UInt8} (h : Blk w g t (bv bs)) {n : Nat} (hn : bs.length = n) (hm : n ≤ maxLen) : (Ty.sl .u8).holds w (fun b => b = g) [.slice (some ⟨g, 0, none⟩) n n] bs ∧ ∀ b, b = g → b < w.heap.size := by
  subst hn
  exact ⟨⟨_, _, bv bs, rfl, Nat.le_refl _, hm, by simp, fun _ => ⟨_, rfl, rfl, h.cells⟩, AllH.bytes.2 rfl⟩, by rintro b rfl; exact h.lt⟩
set_option maxRecDepth 100000 in
set_option maxHeartbeats 4000000 in
theorem Above (a b : Dg) (ha : List.length (α := UInt8) a = 32) (hb : List.length (α := UInt8) b = 32) (w : World) :
    Calls Try.prog 38 #[.agg (bv a).toArray, .agg (bv b).toArray] w fun e w' => e = .returned (.agg (bv (aboveM a b)).toArray) ∧ Ext w w' := by
  have hzd := digest_zero
  have hdl : (bv (List.replicate 32 0)).length = 32 := by simp
  generalize bv (List.replicate 32 0) = D at hzd hdl
  have hx0 : Ext w (((w.alloc (.cells (bv a).toArray 52)).alloc (.cells (bv b).toArray 52)).alloc (.cells D.toArray 52)).drew := ((((Ext.refl w).alloc _).alloc _).alloc _).trans (Ext.refl _).drew
  have hb0 : Blk (((w.alloc (.cells (bv a).toArray 52)).alloc (.cells (bv b).toArray 52)).alloc (.cells D.toArray 52)).drew w.heap.size 52 (bv a) := (((Blk.new _ _ _).keep ((Ext.refl _).alloc _) (by simp)).keep ((Ext.refl _).alloc _) (by simp)).keep (Ext.refl _).drew (by simp)
  have hb1 : Blk (((w.alloc (.cells (bv a).toArray 52)).alloc (.cells (bv b).toArray 52)).alloc (.cells D.toArray 52)).drew (w.heap.size + 1) 52 (bv b) := ((Blk.fresh (by simp) _ _).keep ((Ext.refl _).alloc _) (by simp)).keep (Ext.refl _).drew (by simp)
  have hb4 : Blk (((w.alloc (.cells (bv a).toArray 52)).alloc (.cells (bv b).toArray 52)).alloc (.cells D.toArray 52)).drew (w.heap.size + 2) 52 D := (Blk.fresh (by simp) _ _).keep (Ext.refl _).drew (by simp)
  have hsa : ∀ W, Ext (((w.alloc (.cells (bv a).toArray 52)).alloc (.cells (bv b).toArray 52)).alloc (.cells D.toArray 52)).drew W → (Ty.sl .u8).holds W (fun b => b = w.heap.size) [.slice (some ⟨w.heap.size, 0, none⟩) 32 32] a ∧ ∀ b, b = w.heap.size → b < W.heap.size := fun W hX => blk_slice (hb0.keep hX (by simp)) ha (by simp [maxLen])
  have hsb : ∀ W, Ext (((w.alloc (.cells (bv a).toArray 52)).alloc (.cells (bv b).toArray 52)).alloc (.cells D.toArray 52)).drew W → (Ty.sl .u8).holds W (fun b => b = w.heap.size + 1) [.slice (some ⟨w.heap.size + 1, 0, none⟩) 32 32] b ∧ ∀ b, b = w.heap.size + 1 → b < W.heap.size := fun W hX => blk_slice (hb1.keep hX (by simp)) hb (by simp [maxLen])
  have hbl : (List.flatMap blob [a, b]).length < 288230376151711744 := by simp [blob, be_length, ha, hb]
  have hrl : (bv (aboveM a b)).length = 32 := by rw [bv_length, aboveM_length]
  have hro := bv_one (aboveM a b)
  have hR : bv (sha (textM 3 [a, b])) = bv (aboveM a b) := rfl
  generalize bv (aboveM a b) = R at hrl hro hR ⊢
  have HSA := Lib.hid hsa
  have HSB := Lib.hid hsb
  have HBL := Lib.hid hbl
  have HR := Lib.hid hR
  have HRL := Lib.hid hrl
  have HDL := Lib.hid hdl
  have HB4 := Lib.hid hb4
  have HX0 := Lib.hid hx0
  clear hb0 hb1 hb4 hx0 hsa hsb hbl hR hrl hdl
  generalize bv a = AC at *
  generalize bv b = BC at *
  go_enter Try.func38, Try.ntmps38
  go_wp2_with (first
    | (refine wpList_alloc _ rfl 52 rfl _ hzd ?_)
    | fail)
  simp only [World.size_alloc]
  refine stab_store Ext ext_refl ext_trans [[0], [1], [0, 1, 2], [0, 1, 2, 3], [0, 1, 2, 3, 4]] (fun i v wv => match i with | 0 => v = .slice (some ⟨w.heap.size, 0, none⟩) 32 32 | 1 => v = .slice (some ⟨w.heap.size + 1, 0, none⟩) 32 32 | 2 => ∃ F, (Ty.sl (.sl .u8)).holds wv F [v] [a, b] ∧ ∀ b, F b → b < wv.heap.size | 3 => v = .agg R.toArray | _ => True) (by kernel_rfl) (by kernel_rfl) (by kernel_rfl) (by kernel_rfl) (by simp) ?_ ?_ ?_
  · intro i v w1 w2 h hx
    match i, h with
    | 0, h => exact h
    | 1, h => exact h
    | 2, h =>
      replace h : ∃ F, (Ty.sl (.sl .u8)).holds w1 F [v] [a, b] ∧ ∀ b, F b → b < w1.heap.size := h
      show ∃ F, (Ty.sl (.sl .u8)).holds w2 F [v] [a, b] ∧ ∀ b, F b → b < w2.heap.size
      obtain ⟨F, h1, h2⟩ := h
      exact ⟨F, hx.holds h2 h1, fun b hb => Nat.lt_of_lt_of_le (h2 b hb) hx.size⟩
    | 3, h => exact h
    | i + 4, h => trivial
  · intro i hi o ho
    match i, hi, ho with
    | 0, _, ho =>
      obtain rfl := Option.some.inj ho
      intro s W hX hd K hK
      rw [if_pos (wanted_plain rfl)]
      clear hd
      replace hK : ∀ (v : Value) (W' : World), Ext W W' → (v = .slice (some ⟨w.heap.size, 0, none⟩) 32 32) → _ := hK
      simp only [mkOf, List.map_cons, List.map_nil, Act.put, List.setIfInBounds_toArray, List.set_cons_succ, List.set_cons_zero, Nat.reduceAdd, Nat.zero_add] at hK ⊢
      go_simp
      exact hK _ _ (Ext.refl _) rfl
    | 1, _, ho =>
      obtain rfl := Option.some.inj ho
      intro s W hX hd K hK
      rw [if_pos (wanted_plain rfl)]
      clear hd
      replace hK : ∀ (v : Value) (W' : World), Ext W W' → (v = .slice (some ⟨w.heap.size + 1, 0, none⟩) 32 32) → _ := hK
      simp only [mkOf, List.map_cons, List.map_nil, Act.put, List.setIfInBounds_toArray, List.set_cons_succ, List.set_cons_zero, Nat.reduceAdd, Nat.zero_add] at hK ⊢
      go_simp
      exact hK _ _ (Ext.refl _) rfl
    | 2, _, ho =>
      obtain rfl := Option.some.inj ho
      intro s W hX hd K hK
      rw [if_pos (wanted_plain rfl)]
      have d5 : (s 0) = .slice (some ⟨w.heap.size, 0, none⟩) 32 32 := hd 0 (by decide) (by decide)
      have d6 : (s 1) = .slice (some ⟨w.heap.size + 1, 0, none⟩) 32 32 := hd 1 (by decide) (by decide)
      clear hd
      replace hK : ∀ (v : Value) (W' : World), Ext W W' → (∃ F, (Ty.sl (.sl .u8)).holds W' F [v] [a, b] ∧ ∀ b, F b → b < W'.heap.size) → _ := hK
      simp only [mkOf, List.map_cons, List.map_nil, Act.put, List.setIfInBounds_toArray, List.set_cons_succ, List.set_cons_zero, Nat.reduceAdd, Nat.zero_add] at hK ⊢
      simp only [d5, d6] at hK ⊢
      have h1 := HSA.out W hX
      have h2 := HSB.out W hX
      go_simp
      exact hK _ _ ((Ext.refl _).alloc _) (two_parts h1.1 h1.2 h2.1 h2.2)
    | 3, _, ho =>
      obtain rfl := Option.some.inj ho
      intro s W hX hd K hK
      rw [if_pos (wanted_plain rfl)]
      have d7 : ∃ F, (Ty.sl (.sl .u8)).holds W F [(s 2)] [a, b] ∧ ∀ b, F b → b < W.heap.size := hd 2 (by decide) (by decide)
      clear hd
      replace hK : ∀ (v : Value) (W' : World), Ext W W' → (v = .agg R.toArray) → _ := hK
      simp only [mkOf, List.map_cons, List.map_nil, Act.put, List.setIfInBounds_toArray, List.set_cons_succ, List.set_cons_zero, Nat.reduceAdd, Nat.zero_add] at hK ⊢
      obtain ⟨F, h1, h2⟩ := d7
      go_simp
      refine (For_i 3 3 rfl _ _ W F h1 h2 HBL.out).mono ?_
      rintro e w' ⟨rfl, hx⟩
      exact hK _ _ hx (by rw [HR.out])
    | i + 4, hi, _ => exact absurd hi (by simp)
  · intro o ho
    obtain rfl := Option.some.inj ho
    intro s W hX hd K hK
    rw [if_pos (wanted_plain rfl)]
    have d5 : (s 0) = .slice (some ⟨w.heap.size, 0, none⟩) 32 32 := hd 0 (by decide)
    have d6 : (s 1) = .slice (some ⟨w.heap.size + 1, 0, none⟩) 32 32 := hd 1 (by decide)
    have d7 : ∃ F, (Ty.sl (.sl .u8)).holds W F [(s 2)] [a, b] ∧ ∀ b, F b → b < W.heap.size := hd 2 (by decide)
    have d8 : (s 3) = .agg R.toArray := hd 3 (by decide)
    clear hd
    simp only [mkOf, List.map_cons, List.map_nil, Act.put, List.setIfInBounds_toArray, List.set_cons_succ, List.set_cons_zero, Nat.reduceAdd, Nat.zero_add]
    have hB := HB4.out.keep hX (by simp)
    refine wp_store_row 52 (.tmp 4) (.tmp 8) rfl (w.heap.size + 2) (by simp [Act.eval]) D R _ (by simpa [Act.eval] using d8) hB (digest_size HRL.out) (by rw [HRL.out, HDL.out]) hro ?_
    refine hK _ _ ?_
    have hxw : Ext w (W.setRow (w.heap.size + 2) R.toArray) := setRow_grown (HX0.out.trans hX) _ _ (by omega)
    have hc : Cells (W.setRow (w.heap.size + 2) R.toArray) ⟨w.heap.size + 2, 0, none⟩ R := Blk.cells (t := 52) (setRow_at hB)
    (try simp only [Exit.then])
    go_wp2_with fail
    (try simp only [Exit.inBlock, Exit.then])
    refine bodyPost_ret (results_agg rfl _ _ _ _ _ rfl Try.underlying52 rfl (digest_size HRL.out) hc) rfl ?_
    exact ⟨rfl, hxw⟩
end
section
open Go.RowKit

theorem rsz {n : Nat} (h : n = 1026) : (Try.prog.info? 70).map (·.size) = some n := by subst h; kernel_rfl
theorem tsig_size5 {n : Nat} (h : n = 1024) : (Try.prog.info? 67).map (·.size) = some n := by subst h; kernel_rfl
theorem and_one_u32 (m : Nat) (h : m < 4294967296) : bits .and .u32 (m : Int) 1 = ((m % 2 : Nat) : Int) := by
  have h1 := (bits_u32 m 1 h (by decide)).1
  rw [Nat.and_one_is_mod] at h1
  exact h1
theorem eqD_any (D E : List UInt8) (hD : D.length = 32) (hE : E.length = 32) : (∀ (x y : Operand) (w : World), (eqGuard .eql 52 x y (.agg (bv D).toArray) (.agg (bv E).toArray)).run Try.prog w = .ok () w) ∧ ∀ w, (binOp .eql 52 (.agg (bv D).toArray) (.agg (bv E).toArray)).run Try.prog w = .ok (.bool (D == E)) w :=
  ⟨fun x y w => run_eqGuard w .eql 52 x y _ _ (.inl rfl) (by kernel_rfl), fun w => run_eqD w 52 5 32 Try.underlying52 Try.underlying5 (by kernel_rfl) D E hD hE⟩
theorem shr_one (P : Program) (t : TypeId) (m : Nat) (w : World) : (binOp .shr t (.int .u32 (m : Int)) (.int .u64 1)).run P w = .ok (.int .u32 ((m / 2 : Nat) : Int)) w := by
  have h : (m : Int).fdiv (2 ^ min (Int.toNat 1) IntKind.u32.bits) = ((m / 2 : Nat) : Int) := by
    rw [Int.fdiv_eq_ediv_of_nonneg _ (by decide)]
    rfl
  show Sem.run P (Op.shift .shr .u32 (m : Int) .u64 1) w = _
  unfold Op.shift
  rw [if_neg (by decide)]
  show Sem.run P (pure (Value.int .u32 ((m : Int).fdiv (2 ^ min (Int.toNat 1) IntKind.u32.bits)))) w = _
  rw [h, Sem.run_pure]
theorem wpList_bin2 {P : Program} {w : World} {ops : Array Oper} {rest : List Oper} {o : Oper} {a : Act} {Q : Exit → Act → World → Prop} (hgd : o.guard = none) (op : BinOp) (t : TypeId) {t' : TypeId} (x y : Operand) (ho : o.op = .binOp op t x y t') (u v : Value) {r : Value} (hx : a.eval x = u) (hy : a.eval y = v)
    (hg : (eqGuard op t x y u v).run P w = .ok () w) (hb : (binOp op t u v).run P w = .ok r w) (h : wpList P ops Q rest (a.put o.dst r) w) : wpList P ops Q (o :: rest) a w :=
  wpList_plain hgd fun K hK => wp_bin2 op t x y ho u v hx hy hg hb (hK _ _ h)
set_option maxRecDepth 100000 in
set_option maxHeartbeats 8000000 in
theorem RightGood (S : List UInt8) (hS : S.length = 1024) (key : Nat) (u : Value) (ds : List Dg) (root : Dg) (hroot : List.length (α := UInt8) root = 32) (d : Dg) (hd : List.length (α := UInt8) d = 32) (F : Fp) (w : World)
    (hc : Ways w F u ds) (hF : ∀ b, F b → b < w.heap.size) (hlen : List.length (α := Dg) ds ≤ 1099511627776) (hkey : (Lit.int .u32 (key : Int)).wf = true) (hsh : List.length (α := Dg) ds < 32 → key / 2 ^ List.length (α := Dg) ds = 0) :
    Calls Try.prog 45 #[.agg (sigC (bv S) key u).toArray, .agg (bv root).toArray, .int .i64 ((List.length (α := Dg) ds : Nat) : Int), .int .u32 (key : Int), .agg (bv d).toArray] w fun e w' => e = .returned (.bool (climbM key (fromS S d) ds (List.length (α := Dg) ds) == root)) ∧ Ext w w' := by
  obtain ⟨A, c, xs, rfl, hlc, hcm, hA, hcell, hall⟩ := ways_open hc
  clear hc
  unfold maxLen at hcm
  have hk32 : key < 4294967296 := by have := bounds_u32 hkey; omega
  have hC : (bv S).length = 1024 := by rw [bv_length]; exact hS
  have hsl := sigC_way hC key (.slice A (List.length (α := Dg) ds) c)
  have hky := sigC_key hC key (.slice A (List.length (α := Dg) ds) c)
  have htk := sigC_take hC key (.slice A (List.length (α := Dg) ds) c)
  have hsl9 := sigC_len hC key (.slice A (List.length (α := Dg) ds) c)
  have hfr := fun W => From S hS d hd W
  have hcm0 := climbM_length key ds (show List.length (α := UInt8) (fromS S d) = 32 from leafOf_length _)
  generalize sigC (bv S) key (.slice A (List.length (α := Dg) ds) c) = SC at *
  have hzd := digest_zero
  have hdl : (bv (List.replicate 32 0)).length = 32 := by simp
  generalize bv (List.replicate 32 0) = Z at hzd hdl
  have hrl : (bv root).length = 32 := by rw [bv_length]; exact hroot
  have hdgl : (bv d).length = 32 := by rw [bv_length]; exact hd
  have hx0 : Ext w (((w.alloc (.cells SC.toArray 70)).alloc (.cells (bv root).toArray 52)).alloc (.cells (bv d).toArray 52)) := (((Ext.refl w).alloc _).alloc _).alloc _
  have hb0 : Blk (((w.alloc (.cells SC.toArray 70)).alloc (.cells (bv root).toArray 52)).alloc (.cells (bv d).toArray 52)) w.heap.size 70 SC := ((Blk.new _ _ _).keep ((Ext.refl _).alloc _) (by simp)).keep ((Ext.refl _).alloc _) (by simp)
  have hb1 : Blk (((w.alloc (.cells SC.toArray 70)).alloc (.cells (bv root).toArray 52)).alloc (.cells (bv d).toArray 52)) (w.heap.size + 1) 52 (bv root) := (Blk.fresh (by simp) _ _).keep ((Ext.refl _).alloc _) (by simp)
  have hb2 : Blk (((w.alloc (.cells SC.toArray 70)).alloc (.cells (bv root).toArray 52)).alloc (.cells (bv d).toArray 52)) (w.heap.size + 2) 52 (bv d) := Blk.fresh (by simp) _ _
  have c1025 : (((w.alloc (.cells SC.toArray 70)).alloc (.cells (bv root).toArray 52)).alloc (.cells (bv d).toArray 52)).cell? ⟨w.heap.size, 1025, none⟩ = some (.slice A (List.length (α := Dg) ds) c) := (hb0.cell 1025).trans hsl
  have c1024 : (((w.alloc (.cells SC.toArray 70)).alloc (.cells (bv root).toArray 52)).alloc (.cells (bv d).toArray 52)).cell? ⟨w.heap.size, 1024, none⟩ = some (.int .u32 (key : Int)) := (hb0.cell 1024).trans hky
  have hcs : Cells (((w.alloc (.cells SC.toArray 70)).alloc (.cells (bv root).toArray 52)).alloc (.cells (bv d).toArray 52)) ⟨w.heap.size, 0, none⟩ (bv S) := by have h := hb0.cells.take 1024; rw [htk] at h; exact h
  have hcd := hb2.cells
  generalize hFS : fromS S d = FS at *
  have HFR := Lib.hid hfr
  have HCM := Lib.hid hcm0
  have HX0 := Lib.hid hx0
  have HB0 := Lib.hid hb0
  have HB1 := Lib.hid hb1
  have HDL := Lib.hid hdl
  have HCL := Lib.hid hC
  have HRL := Lib.hid hrl
  have HDG := Lib.hid hdgl
  have HSL := Lib.hid hsl
  have HALL := Lib.hid hall
  have HRT := Lib.hid hroot
  clear hfr hcm0 hx0 hb0 hb1 hb2 hdl hC hrl hdgl hsl hky htk hsl9 hall hFS hroot hd
  generalize hn : List.length (α := Dg) ds = n at *
  generalize bv S = C at *
  generalize bv d = DC at *
  have HN := Lib.hid hn
  clear hn
  have hz : n < 32 → (key : Int) / 2 ^ n = 0 := fun h => by
    have e : (key : Int) / 2 ^ n = ((key / 2 ^ n : Nat) : Int) := by rw [Int.natCast_ediv, Int.natCast_pow]; rfl
    rw [e, hsh h]; rfl
  clear hsh
  obtain (⟨hz, h32⟩ | ⟨hz, h32⟩) : ((key : Int) / 2 ^ n = 0 ∧ n < 32) ∨ (True ∧ 32 ≤ n) := by
    rcases Nat.lt_or_ge n 32 with h | h
    · exact .inl ⟨hz h, h⟩
    · exact .inr ⟨trivial, h⟩
  all_goals
    go_enter Try.func45, Try.ntmps45
    go_wp2_with (first
      | (refine wpList_load_agg _ rfl 67 (.tmp 40) rfl _ rfl C _ Try.underlying67 rfl (tsig_size5 HCL.out) hcs ?_)
      | (refine wpList_load_agg _ rfl 52 (.tmp 9) rfl _ rfl DC _ Try.underlying52 rfl (digest_size HDG.out) hcd ?_)
      | fail)
  all_goals
    refine (HFR.out _).mono ?_
    rintro e w1 ⟨rfl, hx1⟩
    have hx2 : Ext _ (w1.alloc (.cells (bv FS).toArray 52)) := hx1.alloc _
    have hb0 := HB0.out.keep hx2 (by simp)
    have hb1 := HB1.out.keep hx2 (by simp)
    have hbx : Blk (w1.alloc (.cells (bv FS).toArray 52)) w1.heap.size 52 (bv FS) := Blk.new _ _ _
    have hxx := HX0.out.trans hx2
    have hfl : (bv FS).length = 32 := by rw [bv_length]; exact HCM.out 0
    have c2 : (w1.alloc (.cells (bv FS).toArray 52)).cell? ⟨w.heap.size, 1025, none⟩ = some (.slice A n c) := (hb0.cell 1025).trans HSL.out
    have hxg : w.heap.size + 2 < w1.heap.size := by have := hx1.size; simp at this; omega
    have HFL := Lib.hid hfl
    have HB1b := Lib.hid hb1
    have HBX := Lib.hid hbx
    have HXX := Lib.hid hxx
    clear hx1 hx2 hb0 hb1 hbx hxx hfl c1024 c1025 hcs hcd HB0 HB1 HX0
    go_wp2_with (first
      | (refine wpList_alloc _ rfl 52 rfl _ hzd ?_)
      | ((with_reducible refine wpSto 11 43 rfl ?_); refine wpList_storeN rfl 52 (.tmp 11) (.tmp 43) rfl w1 rfl Z (bv FS) 52 rfl rfl (digest_size HFL.out) (by rw [HFL.out, HDL.out]) (bv_one _) ?_)
      | fail)
    generalize w1.alloc (.cells (bv FS).toArray 52) = w2 at *
    go_loopw [12, 14, 48] (fun at_ y i wr => ∃ k : Nat, k ≤ n ∧ i = .int .i64 k ∧ at_ = .int .u32 ((key / 2 ^ k : Nat) : Int) ∧ Ext w wr ∧ Blk wr w1.heap.size 52 (bv (climbM key FS ds k)) ∧ Blk wr (w.heap.size + 1) 52 (bv root) ∧ ∃ q, y = q) (fun _ _ i _ => n - (intOf i).toNat)
    case atStart => exact ⟨0, by omega, rfl, by simp, HXX.out, HBX.out, HB1b.out, _, rfl⟩
    case round =>
      clear HXX HBX HB1b c2
      obtain ⟨k, hk, rfl, rfl, hx, hbx, hb1, q, rfl⟩ := hrel
      by_cases hlt : k < n
      · obtain ⟨ad, rfl, hf, hcells⟩ := hcell (by omega)
        have hkl : k < List.length (α := Dg) ds := by rw [HN.out]; exact hlt
        obtain ⟨hcc, hdl⟩ := digs_at HALL.out (hcells.keep (hx.same hF _ hf)) hkl
        have hst : climbM key FS ds (k + 1) = if key / 2 ^ k % 2 = 1 then aboveM ds[k] (climbM key FS ds k) else aboveM (climbM key FS ds k) ds[k] := by
          rw [climbM, show ds.getD k [] = ds[k] by simp [List.getD, hkl]]
        have hxl := HCM.out k
        have hm1 : key / 2 ^ k < 4294967296 := Nat.lt_of_le_of_lt (Nat.div_le_self _ _) hk32
        have hm2 : key / 2 ^ (k + 1) = key / 2 ^ k / 2 := by rw [Nat.pow_succ, Nat.div_div_eq_div_mul]
        obtain ⟨X1, hX1e⟩ : ∃ X1, X1 = climbM key FS ds (k + 1) := ⟨_, rfl⟩
        rw [← hX1e] at hst
        generalize climbM key FS ds k = X at *
        generalize ds[k] = Y at *
        obtain ⟨m2, hm2e⟩ : ∃ m2, m2 = key / 2 ^ (k + 1) := ⟨_, rfl⟩
        rw [← hm2e] at hm2
        have HX1E := Lib.hid hX1e
        have HM2E := Lib.hid hm2e
        clear hX1e hm2e
        generalize key / 2 ^ k = m at *
        have hyl : (bv Y).length = 32 := by rw [bv_length]; exact hdl
        have hxxl : (bv X).length = 32 := by rw [bv_length]; exact hxl
        have hby : Blk (wr.alloc (.cells (bv Y).toArray 52)) wr.heap.size 52 (bv Y) := Blk.new _ _ _
        have hbx2 := hbx.keep ((Ext.refl wr).alloc (.cells (bv Y).toArray 52)) (by simp)
        have hxy := hbx.lt
        have hx2 := hx.alloc (.cells (bv Y).toArray 52)
        have hb12 := hb1.keep ((Ext.refl wr).alloc (.cells (bv Y).toArray 52)) (by simp)
        have hand := and_one_u32 m hm1
        have HYL := Lib.hid hyl
        have HXL := Lib.hid hxxl
        have HBY := Lib.hid hby
        have HX2 := Lib.hid hx2
        have HB12 := Lib.hid hb12
        have HST := Lib.hid hst
        have HM2 := Lib.hid hm2
        have HYD := Lib.hid hdl
        have HXD := Lib.hid hxl
        have hcy := hby.cells
        have hcx := hbx2.cells
        clear hyl hxxl hby hx2 hb12 hst hm2 hx hbx hb1 hdl hxl
        have hne : w1.heap.size ≠ wr.heap.size := by omega
        have hw1 : w.heap.size + 2 < w1.heap.size := hxg
        have hx1l : (bv X1).length = 32 := by
          rw [bv_length, HST.out]
          split <;> exact aboveM_length _ _
        have HX1L := Lib.hid hx1l
        clear hx1l
        obtain hm | hm : m % 2 = 1 ∨ m % 2 = 0 := by omega
        · rw [hm] at hand
          rw [if_pos hm] at HST
          have hb5x : Blk ((wr.alloc (.cells (bv Y).toArray 52)).setRow w1.heap.size (bv Y).toArray) w1.heap.size 52 (bv Y) := setRow_at hbx2
          have hb5y : Blk ((wr.alloc (.cells (bv Y).toArray 52)).setRow w1.heap.size (bv Y).toArray) wr.heap.size 52 (bv Y) := HBY.out.keep (setRow_only _) (by simp; omega)
          have hb6x : Blk (((wr.alloc (.cells (bv Y).toArray 52)).setRow w1.heap.size (bv Y).toArray).setRow wr.heap.size (bv X).toArray) w1.heap.size 52 (bv Y) := Blk.keep hb5x (setRow_only _) (by simp; omega)
          have hb6y : Blk (((wr.alloc (.cells (bv Y).toArray 52)).setRow w1.heap.size (bv Y).toArray).setRow wr.heap.size (bv X).toArray) wr.heap.size 52 (bv X) := setRow_at hb5y
          have hb61 : Blk (((wr.alloc (.cells (bv Y).toArray 52)).setRow w1.heap.size (bv Y).toArray).setRow wr.heap.size (bv X).toArray) (w.heap.size + 1) 52 (bv root) := (HB12.out.keep (setRow_only (g := w1.heap.size) (bv Y).toArray) (by simp; omega)).keep (setRow_only _) (by have := HX2.out.size; simp; omega)
          have hx6 : Ext w (((wr.alloc (.cells (bv Y).toArray 52)).setRow w1.heap.size (bv Y).toArray).setRow wr.heap.size (bv X).toArray) := setRow_grown (setRow_grown HX2.out _ _ (by omega)) _ _ (by omega)
          have HC6X := Lib.hid hb6x.cells
          have HC6Y := Lib.hid hb6y.cells
          have HX6 := Lib.hid hx6
          have HB61 := Lib.hid hb61
          have HB6X := Lib.hid hb6x
          have HCC := Lib.hid hcc
          have HCY := Lib.hid hcy
          have HCX := Lib.hid hcx
          have HBX2 := Lib.hid hbx2
          have HB5Y := Lib.hid hb5y
          clear hb61 hx6 hb6x hb6y hcc hcy hcx hbx2 hb5y hb5x
          go_wp2_with (first
            | ((with_reducible refine wpDst 51 rfl ?_); refine wpList_load_agg _ rfl 52 (.tmp 50) rfl _ rfl (bv Y) _ Try.underlying52 rfl (digest_size HYL.out) (by exact HCC.out) ?_)
            | ((with_reducible refine wpDst 14 rfl ?_); refine wpList_alloc _ rfl 52 rfl _ hzd ?_)
            | ((with_reducible refine wpSto 14 51 rfl ?_); refine wpList_storeN rfl 52 (.tmp 14) (.tmp 51) rfl wr rfl Z (bv Y) 52 rfl rfl (digest_size HYL.out) (by rw [HYL.out, HDL.out]) (bv_one _) ?_)
            | ((with_reducible refine wpDst 55 rfl ?_); refine wpList_load_agg _ rfl 52 (.tmp 14) rfl _ rfl (bv Y) _ Try.underlying52 rfl (digest_size HYL.out) (by exact HCY.out) ?_)
            | ((with_reducible refine wpDst 56 rfl ?_); refine wpList_load_agg _ rfl 52 (.tmp 11) rfl _ rfl (bv X) _ Try.underlying52 rfl (digest_size HXL.out) (by exact HCX.out) ?_)
            | ((with_reducible refine wpSto 11 55 rfl ?_); refine wpList_store_row _ rfl 52 (.tmp 11) (.tmp 55) rfl w1.heap.size rfl (bv X) (bv Y) 52 rfl (by exact HBX2.out) (digest_size HYL.out) (by rw [HYL.out, HXL.out]) (bv_one _) ?_)
            | ((with_reducible refine wpSto 14 56 rfl ?_); refine wpList_store_row _ rfl 52 (.tmp 14) (.tmp 56) rfl wr.heap.size rfl (bv Y) (bv X) 52 rfl (by exact HB5Y.out) (digest_size HXL.out) (by rw [HYL.out, HXL.out]) (bv_one _) ?_)
            | ((with_reducible refine wpDst 57 rfl ?_); refine wpList_load_agg _ rfl 52 (.tmp 11) rfl _ rfl (bv Y) _ Try.underlying52 rfl (digest_size HYL.out) (by exact HC6X.out) ?_)
            | ((with_reducible refine wpDst 58 rfl ?_); refine wpList_load_agg _ rfl 52 (.tmp 14) rfl _ rfl (bv X) _ Try.underlying52 rfl (digest_size HXL.out) (by exact HC6Y.out) ?_)
            | (go_at_call 38; refine (Above Y X HYD.out HXD.out _).mono ?_; rintro e w6 ⟨rfl, hx6⟩; rw [← HST.out]; have hb6 := HB6X.out.keep hx6 (by simp))
            | ((with_reducible refine wpSto 11 59 rfl ?_); refine wpList_store_row _ rfl 52 (.tmp 11) (.tmp 59) rfl w1.heap.size rfl (bv Y) (bv X1) 52 rfl (by exact hb6) (digest_size HX1L.out) (by rw [HX1L.out, HYL.out]) (bv_one _) ?_)
            | ((with_reducible refine wpDst 61 rfl ?_); refine wpList_bin2 rfl .shr 22 (.tmp 60) _ rfl _ _ rfl rfl rfl (shr_one _ _ m _) ?_)
            | fail)
          go_roundw
          case rel =>
            have hx7 : Ext w (w6.setRow w1.heap.size (bv X1).toArray) := setRow_grown (HX6.out.trans hx6) _ _ (by omega)
            exact ⟨k + 1, by omega, by go_num, by rw [← HM2E.out, HM2.out]; rfl, hx7, (by rw [← HX1E.out]; exact setRow_at hb6), (HB61.out.keep hx6 (by simp)).keep (setRow_only _) (by simp; omega), _, rfl⟩
          case measure => simp [intOf]; omega

        · rw [hm] at hand
          rw [if_neg (by omega)] at HST
          have HCC := Lib.hid hcc
          have HCY := Lib.hid hcy
          have HCX := Lib.hid hcx
          have HBX2 := Lib.hid hbx2
          clear hcc hcy hcx hbx2
          go_wp2_with (first
            | ((with_reducible refine wpDst 51 rfl ?_); refine wpList_load_agg _ rfl 52 (.tmp 50) rfl _ rfl (bv Y) _ Try.underlying52 rfl (digest_size HYL.out) (by exact HCC.out) ?_)
            | ((with_reducible refine wpDst 14 rfl ?_); refine wpList_alloc _ rfl 52 rfl _ hzd ?_)
            | ((with_reducible refine wpSto 14 51 rfl ?_); refine wpList_storeN rfl 52 (.tmp 14) (.tmp 51) rfl wr rfl Z (bv Y) 52 rfl rfl (digest_size HYL.out) (by rw [HYL.out, HDL.out]) (bv_one _) ?_)
            | ((with_reducible refine wpDst 57 rfl ?_); refine wpList_load_agg _ rfl 52 (.tmp 11) rfl _ rfl (bv X) _ Try.underlying52 rfl (digest_size HXL.out) (by exact HCX.out) ?_)
            | ((with_reducible refine wpDst 58 rfl ?_); refine wpList_load_agg _ rfl 52 (.tmp 14) rfl _ rfl (bv Y) _ Try.underlying52 rfl (digest_size HYL.out) (by exact HCY.out) ?_)
            | (go_at_call 38; refine (Above X Y HXD.out HYD.out _).mono ?_; rintro e w6 ⟨rfl, hx6⟩; rw [← HST.out]; have hb6 := HBX2.out.keep hx6 (by simp))
            | ((with_reducible refine wpSto 11 59 rfl ?_); refine wpList_store_row _ rfl 52 (.tmp 11) (.tmp 59) rfl w1.heap.size rfl (bv X) (bv X1) 52 rfl (by exact hb6) (digest_size HX1L.out) (by rw [HX1L.out, HXL.out]) (bv_one _) ?_)
            | ((with_reducible refine wpDst 61 rfl ?_); refine wpList_bin2 rfl .shr 22 (.tmp 60) _ rfl _ _ rfl rfl rfl (shr_one _ _ m _) ?_)
            | fail)
          go_roundw
          case rel =>
            have hx7 : Ext w (w6.setRow w1.heap.size (bv X1).toArray) := setRow_grown (HX2.out.trans hx6) _ _ (by omega)
            exact ⟨k + 1, by omega, by go_num, by rw [← HM2E.out, HM2.out]; rfl, hx7, (by rw [← HX1E.out]; exact setRow_at hb6), (HB12.out.keep hx6 (by simp)).keep (setRow_only _) (by simp; omega), _, rfl⟩
          case measure => simp [intOf]; omega

      · obtain rfl : k = n := by omega
        have hcx := hbx.cells
        have hcr := hb1.cells
        have hxl : (bv (climbM key FS ds k)).length = 32 := by rw [bv_length]; exact HCM.out k
        have heq := eqD_any (climbM key FS ds k) root (HCM.out k) HRT.out
        obtain ⟨X, hXe⟩ : ∃ X, X = climbM key FS ds k := ⟨_, rfl⟩
        rw [← hXe] at hcx hxl heq
        have HXE := Lib.hid hXe
        clear hXe
        have HX := Lib.hid hx
        have HXL := Lib.hid hxl
        have HCX := Lib.hid hcx
        have HCR := Lib.hid hcr
        have HEQ := Lib.hid heq
        clear hx hxl hcx hcr heq hbx hb1
        go_wp2_with (first
          | ((with_reducible refine wpDst 63 rfl ?_); refine wpList_load_agg _ rfl 52 (.tmp 11) rfl _ rfl (bv X) _ Try.underlying52 rfl (digest_size HXL.out) (by exact HCX.out) ?_)
          | ((with_reducible refine wpDst 64 rfl ?_); refine wpList_load_agg _ rfl 52 (.tmp 6) rfl _ rfl (bv root) _ Try.underlying52 rfl (digest_size HRL.out) (by exact HCR.out) ?_)
          | ((with_reducible refine wpDst 65 rfl ?_); refine wpList_bin2 rfl .eql 52 (.tmp 63) (.tmp 64) rfl _ _ rfl rfl (HEQ.out.1 _ _ _) (HEQ.out.2 _) ?_)
          | fail)
        go_ret
        exact ⟨by rw [HXE.out]; rfl, HX.out⟩
end
section
open Go.RowKit

set_option maxRecDepth 100000 in
set_option maxHeartbeats 8000000 in
theorem RightBad (S : List UInt8) (hS : S.length = 1024) (keyS : Nat) (A : Option Addr) (n c : Nat) (hnm : n ≤ 1099511627776) (R D : List Value) (tall : Int) (htall : (Lit.int .i64 tall).wf = true) (key : Nat) (hkey : (Lit.int .u32 (key : Int)).wf = true) (hkeyS : (Lit.int .u32 (keyS : Int)).wf = true) (w : World)
    (hbad : tall < 0 ∨ (n : Int) ≠ tall ∨ keyS ≠ key ∨ (tall < 32 ∧ key / 2 ^ tall.toNat ≠ 0)) :
    Calls Try.prog 45 #[.agg (sigC (bv S) keyS (.slice A n c)).toArray, .agg R.toArray, .int .i64 tall, .int .u32 (key : Int), .agg D.toArray] w fun e w' => e = .returned (.bool false) ∧ Ext w w' := by
  have hC : (bv S).length = 1024 := by rw [bv_length]; exact hS
  have hsl := sigC_way hC keyS (.slice A n c)
  have hky := sigC_key hC keyS (.slice A n c)
  generalize sigC (bv S) keyS (.slice A n c) = SC at *
  have hx0 : Ext w (((w.alloc (.cells SC.toArray 70)).alloc (.cells R.toArray 52)).alloc (.cells D.toArray 52)) := (((Ext.refl w).alloc _).alloc _).alloc _
  have hb0 : Blk (((w.alloc (.cells SC.toArray 70)).alloc (.cells R.toArray 52)).alloc (.cells D.toArray 52)) w.heap.size 70 SC := ((Blk.new _ _ _).keep ((Ext.refl _).alloc _) (by simp)).keep ((Ext.refl _).alloc _) (by simp)
  have c1025 : (((w.alloc (.cells SC.toArray 70)).alloc (.cells R.toArray 52)).alloc (.cells D.toArray 52)).cell? ⟨w.heap.size, 1025, none⟩ = some (.slice A n c) := (hb0.cell 1025).trans hsl
  have c1024 : (((w.alloc (.cells SC.toArray 70)).alloc (.cells R.toArray 52)).alloc (.cells D.toArray 52)).cell? ⟨w.heap.size, 1024, none⟩ = some (.int .u32 (keyS : Int)) := (hb0.cell 1024).trans hky
  have HX0 := Lib.hid hx0
  clear hx0 hb0 hsl hky hC hS
  have hk32 : key < 4294967296 := by have := bounds_u32 hkey; omega
  by_cases h1 : tall < 0
  · clear hbad
    go_enter Try.func45, Try.ntmps45
    go_wp2_with fail
    go_ret
    exact ⟨rfl, HX0.out⟩
  obtain ⟨m, rfl⟩ : ∃ m : Nat, tall = m := ⟨tall.toNat, by omega⟩
  by_cases h2 : n = m
  case neg =>
    have h2' : (n : Int) ≠ (m : Int) := by omega
    clear hbad h2
    go_enter Try.func45, Try.ntmps45
    go_wp2_with fail
    go_ret
    exact ⟨rfl, HX0.out⟩
  subst h2
  by_cases h3 : keyS = key
  case neg =>
    have h3' : (keyS : Int) ≠ (key : Int) := by omega
    clear hbad h3
    go_enter Try.func45, Try.ntmps45
    go_wp2_with fail
    go_ret
    exact ⟨rfl, HX0.out⟩
  subst h3
  obtain ⟨h32, h4⟩ : n < 32 ∧ keyS / 2 ^ n ≠ 0 := by
    rcases hbad with h | h | h | ⟨h, h4⟩
    · exact absurd h h1
    · exact absurd rfl h
    · exact absurd rfl h
    · exact ⟨by omega, by rwa [Int.toNat_natCast] at h4⟩
  have h4' : (keyS : Int) / 2 ^ n ≠ 0 := by
    have e : (keyS : Int) / 2 ^ n = ((keyS / 2 ^ n : Nat) : Int) := by rw [Int.natCast_ediv, Int.natCast_pow]; rfl
    rw [e]; omega
  clear hbad h4
  go_enter Try.func45, Try.ntmps45
  go_wp2_with fail
  go_ret
  exact ⟨rfl, HX0.out⟩
theorem Right (S : List UInt8) (hS : S.length = 1024) (keyS : Nat) (u : Value) (ds : List Dg) (root : Dg) (hroot : List.length (α := UInt8) root = 32) (d : Dg) (hd : List.length (α := UInt8) d = 32) (F : Fp) (w : World)
    (hc : Ways w F u ds) (hF : ∀ b, F b → b < w.heap.size) (hlen : List.length (α := Dg) ds ≤ 1099511627776) (hkeyS : (Lit.int .u32 (keyS : Int)).wf = true) (tall : Int) (htall : (Lit.int .i64 tall).wf = true) (key : Nat) (hkey : (Lit.int .u32 (key : Int)).wf = true) :
    Calls Try.prog 45 #[.agg (sigC (bv S) keyS u).toArray, .agg (bv root).toArray, .int .i64 tall, .int .u32 (key : Int), .agg (bv d).toArray] w fun e w' => e = .returned (.bool (rightM S keyS ds root tall key d)) ∧ Ext w w' := by
  by_cases hbad : tall < 0 ∨ ((List.length (α := Dg) ds : Nat) : Int) ≠ tall ∨ keyS ≠ key ∨ (tall < 32 ∧ key / 2 ^ tall.toNat ≠ 0)
  · obtain ⟨A, c, xs, rfl, -⟩ := ways_open hc
    have h := RightBad S hS keyS A _ c hlen (bv root) (bv d) tall htall key hkey hkeyS w hbad
    rw [rightM, if_pos hbad]
    exact h
  · rw [rightM, if_neg hbad]
    have h1 : ((List.length (α := Dg) ds : Nat) : Int) = tall := Classical.byContradiction fun h => hbad (.inr (.inl h))
    have h2 : keyS = key := Classical.byContradiction fun h => hbad (.inr (.inr (.inl h)))
    have h3 : List.length (α := Dg) ds < 32 → key / 2 ^ List.length (α := Dg) ds = 0 := fun h => Classical.byContradiction fun h' => hbad (.inr (.inr (.inr (by
      refine ⟨by omega, ?_⟩
      rw [← h1, Int.toNat_natCast]; exact h'))))
    subst h2
    rw [← h1]
    have h := RightGood S hS keyS u ds root hroot d hd F w hc hF hlen hkey h3
    rw [show (climbM keyS (fromS S d) ds (List.length (α := Dg) ds) == root) = decide (climbM keyS (fromS S d) ds (List.length (α := Dg) ds) = root) from Bool.eq_iff_iff.2 (by simp)] at h
    exact h
end
end Go.Proofs.Ytmicjaiiinaipaa

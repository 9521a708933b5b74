/- Walks and plain laws, put together in build order. Conditions: what each of them names. -/
import Derived.Test.YtpdkmapogncgmaaW28f913bc43
set_option linter.unusedVariables false
set_option linter.unusedSimpArgs false
set_option linter.unnecessarySimpa false
namespace Go.Proofs.Ytpdkmapogncgmaa
section
open Go.RowKit

theorem rsig_zero : (Try.prog.info? 26).bind (fun i => i.zero.map (·.cells)) = some (List.replicate 1024 (Value.int .u8 0)).toArray := by kernel_rfl
set_option maxRecDepth 100000 in
set_option maxHeartbeats 4000000 in
theorem RSign (seed : List UInt8) (hs : seed.length = 32) (n : Nat) (hn : n < 4294967296) (d : List UInt8) (hd : d.length = 32) (w : World) :
    Calls Try.prog 47 #[.agg tabsC.toArray, .agg (bv seed).toArray, .int .u32 (n : Int), .agg (bv d).toArray] w fun e w' => e = .returned (.agg (bv (signM seed n d)).toArray) ∧ Ext w w' := by
  obtain ⟨Z, hz, hzl, hzo⟩ : ∃ Z : List Value, (Try.prog.info? 26).bind (fun i => i.zero.map (·.cells)) = some Z.toArray ∧ Z.length = 1024 ∧ ∀ u ∈ Z, u.oneCell' = true := ⟨_, rsig_zero, List.length_replicate, fun u hu => by rw [List.eq_of_mem_replicate hu]; rfl⟩
  have hC : (bv (signM seed n d)).length = 1024 := by rw [bv_length, signM_length]
  have hone := bv_one (signM seed n d)
  have hop := fun k (h : k < 32) => sign_open seed n d h
  have hot := fun k (h : k < 32) => sign_other seed n d h
  have hdl : (bv d).length = 32 := by rw [bv_length]; exact hd
  have hsl : (bv seed).length = 32 := by rw [bv_length]; exact hs
  have hsec := fun (k : Nat) (hk : k < 32) (bt : Nat) (hbt : bt < 2) W => RSecret seed hs n hn k hk bt hbt W
  have hcov := fun (p : List UInt8) (hp : p.length = 16) W => RCover p hp W
  have hbit := fun (k : Nat) (hk : k < 32) W => RBit d hd k hk W
  have hts : (Try.prog.info? 44).map (·.size) = some tabsC.length := tabs_size rfl
  generalize tabsC = TB at *
  generalize bv (signM seed n d) = C at *
  have hb0 : Blk (((((w.alloc (.cells TB.toArray 44)).alloc (.cells (bv seed).toArray 31)).alloc (.cells (bv d).toArray 31)).alloc (.cells Z.toArray 26)).alloc (.cells Z.toArray 26)) w.heap.size 44 TB := ((((Blk.new _ _ _).keep ((Ext.refl _).alloc _) (by simp)).keep ((Ext.refl _).alloc _) (by simp)).keep ((Ext.refl _).alloc _) (by simp)).keep ((Ext.refl _).alloc _) (by simp)
  have hb1 : Blk (((((w.alloc (.cells TB.toArray 44)).alloc (.cells (bv seed).toArray 31)).alloc (.cells (bv d).toArray 31)).alloc (.cells Z.toArray 26)).alloc (.cells Z.toArray 26)) (w.heap.size + 1) 31 (bv seed) := (((Blk.fresh (by simp) _ _).keep ((Ext.refl _).alloc _) (by simp)).keep ((Ext.refl _).alloc _) (by simp)).keep ((Ext.refl _).alloc _) (by simp)
  have hb2 : Blk (((((w.alloc (.cells TB.toArray 44)).alloc (.cells (bv seed).toArray 31)).alloc (.cells (bv d).toArray 31)).alloc (.cells Z.toArray 26)).alloc (.cells Z.toArray 26)) (w.heap.size + 1 + 1) 31 (bv d) := ((Blk.fresh (by simp) _ _).keep ((Ext.refl _).alloc _) (by simp)).keep ((Ext.refl _).alloc _) (by simp)
  have hb3 : Blk (((((w.alloc (.cells TB.toArray 44)).alloc (.cells (bv seed).toArray 31)).alloc (.cells (bv d).toArray 31)).alloc (.cells Z.toArray 26)).alloc (.cells Z.toArray 26)) (w.heap.size + 1 + 1 + 1) 26 Z := (Blk.fresh (by simp) _ _).keep ((Ext.refl _).alloc _) (by simp)
  have hb4 : Blk (((((w.alloc (.cells TB.toArray 44)).alloc (.cells (bv seed).toArray 31)).alloc (.cells (bv d).toArray 31)).alloc (.cells Z.toArray 26)).alloc (.cells Z.toArray 26)) (w.heap.size + 1 + 1 + 1 + 1) 26 Z := Blk.fresh (by simp) _ _
  have hx0 : Ext w (((((w.alloc (.cells TB.toArray 44)).alloc (.cells (bv seed).toArray 31)).alloc (.cells (bv d).toArray 31)).alloc (.cells Z.toArray 26)).alloc (.cells Z.toArray 26)) := (((((Ext.refl w).alloc _).alloc _).alloc _).alloc _).alloc _
  generalize bv d = DC at *
  generalize bv seed = SC at *
  have HB0 := Lib.hid hb0
  have HB1 := Lib.hid hb1
  have HB2 := Lib.hid hb2
  have HB3 := Lib.hid hb3
  have HB4 := Lib.hid hb4
  have HX0 := Lib.hid hx0
  have HCL := Lib.hid hC
  have HZL := Lib.hid hzl
  have HDL := Lib.hid hdl
  have HSL := Lib.hid hsl
  have HOP := Lib.hid hop
  have HOT := Lib.hid hot
  have HSEC := Lib.hid hsec
  have HCOV := Lib.hid hcov
  have HBIT := Lib.hid hbit
  have HTS := Lib.hid hts
  clear hb0 hb1 hb2 hb3 hb4 hx0 hC hzl hdl hsl hop hot hsec hcov hbit hts
  go_enter Try.func47, Try.ntmps47
  go_wp2_with (first
    | (refine wpList_alloc _ rfl 26 rfl _ hz ?_)
    | fail)
  go_loopw [10, 11] (fun i q wr => ∃ k : Nat, k ≤ 32 ∧ i = .int .i64 k ∧ Ext w wr ∧ Blk wr w.heap.size 44 TB ∧ Blk wr (w.heap.size + 1) 31 SC ∧ Blk wr (w.heap.size + 1 + 1) 31 DC ∧ Blk wr (w.heap.size + 1 + 1 + 1) 26 Z ∧ Blk wr (w.heap.size + 1 + 1 + 1 + 1) 26 (mixAt C Z k)) (fun i _ _ => 32 - (intOf i).toNat)
  case atStart => exact ⟨0, by omega, rfl, HX0.out, HB0.out, HB1.out, HB2.out, HB3.out, by rw [mixAt_zero C Z HCL.out HZL.out]; exact HB4.out⟩
  case round =>
    clear HX0 HB0 HB1 HB2 HB3 HB4
    obtain ⟨k, hk, rfl, hx, hb0, hb1, hb2, hb3, hb4⟩ := hrel
    by_cases hlt : k < 32
    · have hcd := hb2.cells
      have hbl := bitM_lt d k
      have hp1 : (bv (openM seed n d k)).length = 16 := by rw [bv_length]; exact secretM_length _ _ _ _
      have hp2 : (bv (otherM seed n d k)).length = 16 := by rw [bv_length]; exact coverM_length _
      have ho1 := bv_one (openM seed n d k)
      have ho2 := bv_one (otherM seed n d k)
      have hst := mixAt_step C Z HCL.out HZL.out k hlt
      rw [HOP.out k hlt, HOT.out k hlt] at hst
      have hsc := fun W => HSEC.out k hlt (bitM d k) hbl W
      have hsc2 := fun W => HSEC.out k hlt (1 - bitM d k) (by omega) W
      have hcv := fun W => HCOV.out (secretM seed n k (1 - bitM d k)) (secretM_length _ _ _ _) W
      have e1 : secretM seed n k (bitM d k) = openM seed n d k := rfl
      have e2 : coverM (secretM seed n k (1 - bitM d k)) = otherM seed n d k := rfl
      rw [e1] at hsc
      rw [e2] at hcv
      have hbt := fun W => HBIT.out k hlt W
      have hbc : bitM d k + (1 - bitM d k) = 1 := by omega
      generalize bv (secretM seed n k (1 - bitM d k)) = S2 at *
      generalize 1 - bitM d k = c at *
      generalize bitM d k = b at *
      generalize bv (openM seed n d k) = P1 at *
      generalize bv (otherM seed n d k) = P2 at *
      have HX := Lib.hid hx
      have HB0r := Lib.hid hb0
      have HB1r := Lib.hid hb1
      have HB2r := Lib.hid hb2
      have HB3r := Lib.hid hb3
      have HB4r := Lib.hid hb4
      have HP1 := Lib.hid hp1
      have HP2 := Lib.hid hp2
      have HST := Lib.hid hst
      have HSC := Lib.hid hsc
      have HSC2 := Lib.hid hsc2
      have HCV := Lib.hid hcv
      have HBT := Lib.hid hbt
      have HBC := Lib.hid hbc
      have HWR : Hid (IntKind.i64.wrap (1 - (b : Int)) = (c : Int)) := Lib.hid (by simp [IntKind.wrap, IntKind.bits, IntKind.signed]; omega)
      clear hx hb0 hb1 hb2 hb3 hb4 hp1 hp2 hst hsc hsc2 hcv hbt hbl hbc e1 e2
      go_wp2_with (first
        | (refine wpList_load_agg _ rfl 31 (.tmp 7) rfl _ rfl DC _ Try.underlying31 rfl (arr_size HDL.out) hcd ?_)
        | (go_at_call 68; refine (HBT.out _).mono ?_; rintro e w1 ⟨rfl, hx1⟩; have hk0 := (HB0r.out.keep hx1 (by simp)).cells; have hk1 := (HB1r.out.keep hx1 (by simp)).cells)
        | (refine wpList_load_agg _ rfl 44 (.tmp 4) rfl _ rfl TB _ Try.underlying44 rfl HTS.out hk0 ?_)
        | (refine wpList_load_agg _ rfl 31 (.tmp 5) rfl _ rfl SC _ Try.underlying31 rfl (arr_size HSL.out) hk1 ?_)
        | fail)
      refine (HSC.out _).mono ?_
      rintro e w2 ⟨rfl, hx2⟩
      have hx12 := hx1.trans hx2
      have hm2 : w2.heap[w.heap.size + 1 + 1 + 1 + 1]? = some (.cells (mixAt C Z k).toArray 26 (0, 0)) := HB4r.out.keep hx12 (by simp)
      have kk : ∀ {g : Nat} {t : TypeId} {cs : List Value}, Blk wr g t cs → g < w.heap.size + 1 + 1 + 1 + 1 → Blk (w2.setRow (w.heap.size + 1 + 1 + 1 + 1) (putAt (mixAt C Z k) (k * 16) P1).toArray).drew g t cs := fun h hg => ((h.keep hx12 (by simp)).keep (setRow_only _) (by simp; omega)).keep (Ext.refl _).drew (by simp)
      have HB0 := Lib.hid (kk HB0r.out (by omega))
      have HB1 := Lib.hid (kk HB1r.out (by omega))
      have HB2 := Lib.hid (kk HB2r.out (by omega))
      have HB3 := Lib.hid (kk HB3r.out (by omega))
      have HB4 : Hid (Blk (w2.setRow (w.heap.size + 1 + 1 + 1 + 1) (putAt (mixAt C Z k) (k * 16) P1).toArray).drew (w.heap.size + 1 + 1 + 1 + 1) 26 (putAt (mixAt C Z k) (k * 16) P1)) := Lib.hid (Blk.keep (t := 26) (setRow_at hm2) (Ext.refl _).drew (by simp))
      have HX3 : Hid (Ext w (w2.setRow (w.heap.size + 1 + 1 + 1 + 1) (putAt (mixAt C Z k) (k * 16) P1).toArray).drew) := Lib.hid ((setRow_grown (HX.out.trans hx12) _ _ (by omega)).trans (Ext.refl _).drew)
      clear hx1 hx2 hx12 hcd hk0 hk1 kk HB0r HB1r HB2r HB3r HB4r
      go_wp2_with (first
        | (refine wpList_store_part _ rfl 23 (.tmp 27) (.tmp 25) rfl (w.heap.size + 1 + 1 + 1 + 1) (k * 16) rfl (mixAt C Z k) P1 _ rfl hm2 (rpiece_size HP1.out) (by rw [mixAt_len, HP1.out]; omega) ho1 ?_)
        | fail)
      clear hm2
      generalize (w2.setRow (w.heap.size + 1 + 1 + 1 + 1) (putAt (mixAt C Z k) (k * 16) P1).toArray) = V at *
      generalize hg : w.heap.size + 1 + 1 + 1 + 1 = g at *
      have HG := Lib.hid hg
      have hdk : decide ((k : Int) < 32) = true := by rw [decide_eq_true_iff]; omega
      (try simp only [hdk])
      clear hg hdk
      refine stab_store Ext ext_refl ext_trans [[0], [1], [2], [3], [4], [5], [6], [6, 7], [2, 3, 4, 5, 6, 7, 8], [1, 2, 3, 4, 5, 6, 7, 8, 9], [10], [0, 1, 2, 3, 4, 5, 6, 7, 8, 9, 10, 11], [0, 1, 2, 3, 4, 5, 6, 7, 8, 9, 10, 11, 12]] (fun i v wv => match i with | 0 => v = .int .i64 (k : Int) | 1 => v = .agg TB.toArray | 2 => v = .agg TB.toArray | 3 => v = .agg SC.toArray | 4 => v = .int .u32 (n : Int) | 5 => v = .int .i64 (k : Int) | 6 => v = .int .i64 (b : Int) | 7 => v = .int .i64 (c : Int) | 8 => v = .agg S2.toArray | 9 => v = .agg P2.toArray | 10 => v = .pointer (some ⟨g, 512, none⟩) | 11 => v = .pointer (some ⟨g, 512 + k * 16, none⟩) | _ => True) (by kernel_rfl) (by kernel_rfl) (by kernel_rfl) (by kernel_rfl) (by simp) ?_ ?_ ?_
      · intro i v w1 w2 h hx
        match i, h with
        | 0, h => exact h
        | 1, h => exact h
        | 2, h => exact h
        | 3, h => exact h
        | 4, h => exact h
        | 5, h => exact h
        | 6, h => exact h
        | 7, h => exact h
        | 8, h => exact h
        | 9, h => exact h
        | 10, h => exact h
        | 11, h => exact h
        | i + 12, h => trivial
      · intro i hi o ho
        match i, hi, ho with
        | 0, _, ho =>
          obtain rfl := Option.some.inj ho
          intro s W hX hd K hK
          rw [if_pos (wanted_plain rfl)]
          clear hd
          replace hK : ∀ (v : Value) (W' : World), Ext W W' → (v = .int .i64 (k : Int)) → _ := hK
          simp only [mkOf, List.map_cons, List.map_nil, Act.put, List.setIfInBounds_toArray, List.set_cons_succ, List.set_cons_zero, Nat.reduceAdd, Nat.zero_add] at hK ⊢
          go_simp
          exact hK _ _ (Ext.refl _) rfl
        | 1, _, ho =>
          obtain rfl := Option.some.inj ho
          intro s W hX hd K hK
          rw [if_pos (wanted_plain rfl)]
          clear hd
          replace hK : ∀ (v : Value) (W' : World), Ext W W' → (v = .agg TB.toArray) → _ := hK
          simp only [mkOf, List.map_cons, List.map_nil, Act.put, List.setIfInBounds_toArray, List.set_cons_succ, List.set_cons_zero, Nat.reduceAdd, Nat.zero_add] at hK ⊢
          refine wp_load_agg 44 (.tmp 4) rfl _ rfl TB _ Try.underlying44 rfl (HTS.out) (HB0.out.keep hX (by simp)).cells ?_
          exact hK _ _ (Ext.refl _) rfl
        | 2, _, ho =>
          obtain rfl := Option.some.inj ho
          intro s W hX hd K hK
          rw [if_pos (wanted_plain rfl)]
          clear hd
          replace hK : ∀ (v : Value) (W' : World), Ext W W' → (v = .agg TB.toArray) → _ := hK
          simp only [mkOf, List.map_cons, List.map_nil, Act.put, List.setIfInBounds_toArray, List.set_cons_succ, List.set_cons_zero, Nat.reduceAdd, Nat.zero_add] at hK ⊢
          refine wp_load_agg 44 (.tmp 4) rfl _ rfl TB _ Try.underlying44 rfl (HTS.out) (HB0.out.keep hX (by simp)).cells ?_
          exact hK _ _ (Ext.refl _) rfl
        | 3, _, ho =>
          obtain rfl := Option.some.inj ho
          intro s W hX hd K hK
          rw [if_pos (wanted_plain rfl)]
          clear hd
          replace hK : ∀ (v : Value) (W' : World), Ext W W' → (v = .agg SC.toArray) → _ := hK
          simp only [mkOf, List.map_cons, List.map_nil, Act.put, List.setIfInBounds_toArray, List.set_cons_succ, List.set_cons_zero, Nat.reduceAdd, Nat.zero_add] at hK ⊢
          refine wp_load_agg 31 (.tmp 5) rfl _ rfl SC _ Try.underlying31 rfl (arr_size HSL.out) (HB1.out.keep hX (by simp)).cells ?_
          exact hK _ _ (Ext.refl _) rfl
        | 4, _, ho =>
          obtain rfl := Option.some.inj ho
          intro s W hX hd K hK
          rw [if_pos (wanted_plain rfl)]
          clear hd
          replace hK : ∀ (v : Value) (W' : World), Ext W W' → (v = .int .u32 (n : Int)) → _ := hK
          simp only [mkOf, List.map_cons, List.map_nil, Act.put, List.setIfInBounds_toArray, List.set_cons_succ, List.set_cons_zero, Nat.reduceAdd, Nat.zero_add] at hK ⊢
          go_simp
          exact hK _ _ (Ext.refl _) rfl
        | 5, _, ho =>
          obtain rfl := Option.some.inj ho
          intro s W hX hd K hK
          rw [if_pos (wanted_plain rfl)]
          clear hd
          replace hK : ∀ (v : Value) (W' : World), Ext W W' → (v = .int .i64 (k : Int)) → _ := hK
          simp only [mkOf, List.map_cons, List.map_nil, Act.put, List.setIfInBounds_toArray, List.set_cons_succ, List.set_cons_zero, Nat.reduceAdd, Nat.zero_add] at hK ⊢
          go_simp
          exact hK _ _ (Ext.refl _) rfl
        | 6, _, ho =>
          obtain rfl := Option.some.inj ho
          intro s W hX hd K hK
          rw [if_pos (wanted_plain rfl)]
          clear hd
          replace hK : ∀ (v : Value) (W' : World), Ext W W' → (v = .int .i64 (b : Int)) → _ := hK
          simp only [mkOf, List.map_cons, List.map_nil, Act.put, List.setIfInBounds_toArray, List.set_cons_succ, List.set_cons_zero, Nat.reduceAdd, Nat.zero_add] at hK ⊢
          go_simp
          exact hK _ _ (Ext.refl _) rfl
        | 7, _, ho =>
          obtain rfl := Option.some.inj ho
          intro s W hX hd K hK
          rw [if_pos (wanted_plain rfl)]
          have d34 : (s 6) = .int .i64 (b : Int) := hd 6 (by decide) (by decide)
          clear hd
          replace hK : ∀ (v : Value) (W' : World), Ext W W' → (v = .int .i64 (c : Int)) → _ := hK
          simp only [mkOf, List.map_cons, List.map_nil, Act.put, List.setIfInBounds_toArray, List.set_cons_succ, List.set_cons_zero, Nat.reduceAdd, Nat.zero_add] at hK ⊢
          simp only [d34] at hK ⊢
          go_simp
          exact hK _ _ (Ext.refl _) (by rw [HWR.out])
        | 8, _, ho =>
          obtain rfl := Option.some.inj ho
          intro s W hX hd K hK
          rw [if_pos (wanted_plain rfl)]
          have d30 : (s 2) = .agg TB.toArray := hd 2 (by decide) (by decide)
          have d31 : (s 3) = .agg SC.toArray := hd 3 (by decide) (by decide)
          have d32 : (s 4) = .int .u32 (n : Int) := hd 4 (by decide) (by decide)
          have d33 : (s 5) = .int .i64 (k : Int) := hd 5 (by decide) (by decide)
          have d35 : (s 7) = .int .i64 (c : Int) := hd 7 (by decide) (by decide)
          clear hd
          replace hK : ∀ (v : Value) (W' : World), Ext W W' → (v = .agg S2.toArray) → _ := hK
          simp only [mkOf, List.map_cons, List.map_nil, Act.put, List.setIfInBounds_toArray, List.set_cons_succ, List.set_cons_zero, Nat.reduceAdd, Nat.zero_add] at hK ⊢
          simp only [d30, d31, d32, d33, d35] at hK ⊢
          go_simp
          refine (HSC2.out W).mono ?_
          rintro e w' ⟨rfl, hx⟩
          exact hK _ _ hx rfl
        | 9, _, ho =>
          obtain rfl := Option.some.inj ho
          intro s W hX hd K hK
          rw [if_pos (wanted_plain rfl)]
          have d29 : (s 1) = .agg TB.toArray := hd 1 (by decide) (by decide)
          have d36 : (s 8) = .agg S2.toArray := hd 8 (by decide) (by decide)
          clear hd
          replace hK : ∀ (v : Value) (W' : World), Ext W W' → (v = .agg P2.toArray) → _ := hK
          simp only [mkOf, List.map_cons, List.map_nil, Act.put, List.setIfInBounds_toArray, List.set_cons_succ, List.set_cons_zero, Nat.reduceAdd, Nat.zero_add] at hK ⊢
          simp only [d29, d36] at hK ⊢
          go_simp
          refine (HCV.out W).mono ?_
          rintro e w' ⟨rfl, hx⟩
          exact hK _ _ hx rfl
        | 10, _, ho =>
          obtain rfl := Option.some.inj ho
          intro s W hX hd K hK
          rw [if_pos (wanted_plain rfl)]
          clear hd
          replace hK : ∀ (v : Value) (W' : World), Ext W W' → (v = .pointer (some ⟨g, 512, none⟩)) → _ := hK
          simp only [mkOf, List.map_cons, List.map_nil, Act.put, List.setIfInBounds_toArray, List.set_cons_succ, List.set_cons_zero, Nat.reduceAdd, Nat.zero_add] at hK ⊢
          go_simp
          exact hK _ _ (Ext.refl _) rfl
        | 11, _, ho =>
          obtain rfl := Option.some.inj ho
          intro s W hX hd K hK
          rw [if_pos (wanted_plain rfl)]
          have d28 : (s 0) = .int .i64 (k : Int) := hd 0 (by decide) (by decide)
          have d38 : (s 10) = .pointer (some ⟨g, 512, none⟩) := hd 10 (by decide) (by decide)
          clear hd
          replace hK : ∀ (v : Value) (W' : World), Ext W W' → (v = .pointer (some ⟨g, 512 + k * 16, none⟩)) → _ := hK
          simp only [mkOf, List.map_cons, List.map_nil, Act.put, List.setIfInBounds_toArray, List.set_cons_succ, List.set_cons_zero, Nat.reduceAdd, Nat.zero_add] at hK ⊢
          simp only [d28, d38] at hK ⊢
          go_simp
          exact hK _ _ (Ext.refl _) rfl
        | i + 12, hi, _ => exact absurd hi (by simp)
      · intro o ho
        obtain rfl := Option.some.inj ho
        intro s W hX hd K hK
        rw [if_pos (wanted_plain rfl)]
        have d28 : (s 0) = .int .i64 (k : Int) := hd 0 (by decide)
        have d29 : (s 1) = .agg TB.toArray := hd 1 (by decide)
        have d30 : (s 2) = .agg TB.toArray := hd 2 (by decide)
        have d31 : (s 3) = .agg SC.toArray := hd 3 (by decide)
        have d32 : (s 4) = .int .u32 (n : Int) := hd 4 (by decide)
        have d33 : (s 5) = .int .i64 (k : Int) := hd 5 (by decide)
        have d34 : (s 6) = .int .i64 (b : Int) := hd 6 (by decide)
        have d35 : (s 7) = .int .i64 (c : Int) := hd 7 (by decide)
        have d36 : (s 8) = .agg S2.toArray := hd 8 (by decide)
        have d37 : (s 9) = .agg P2.toArray := hd 9 (by decide)
        have d38 : (s 10) = .pointer (some ⟨g, 512, none⟩) := hd 10 (by decide)
        have d39 : (s 11) = .pointer (some ⟨g, 512 + k * 16, none⟩) := hd 11 (by decide)
        clear hd
        simp only [mkOf, List.map_cons, List.map_nil, Act.put, List.setIfInBounds_toArray, List.set_cons_succ, List.set_cons_zero, Nat.reduceAdd, Nat.zero_add]
        refine wp_store_part W 23 (.tmp 39) (.tmp 37) rfl g (512 + k * 16) (by simpa [Act.eval] using d39) (putAt (mixAt C Z k) (k * 16) P1) P2 _ (by simpa [Act.eval] using d37) (HB4.out.keep hX (by simp)) (rpiece_size HP2.out) (by rw [putAt_len (by rw [mixAt_len, HP1.out]; omega), mixAt_len, HP2.out]; omega) ho2 ?_
        refine hK _ _ ?_
        have kk : ∀ {h : Nat} {t : TypeId} {cs : List Value}, Blk V.drew h t cs → h < g → Blk (W.setRow g (putAt (putAt (mixAt C Z k) (k * 16) P1) (512 + k * 16) P2).toArray) h t cs := fun h hg => (h.keep hX (by simp)).keep (setRow_only _) (by simp; omega)
        have hge := HG.out
        have HB90 := Lib.hid (kk HB0.out (by omega))
        have HB91 := Lib.hid (kk HB1.out (by omega))
        have HB92 := Lib.hid (kk HB2.out (by omega))
        have HB93 := Lib.hid (kk HB3.out (by omega))
        have HB94 : Hid (Blk (W.setRow g (putAt (putAt (mixAt C Z k) (k * 16) P1) (512 + k * 16) P2).toArray) g 26 (mixAt C Z (k + 1))) := Lib.hid (by rw [← HST.out]; exact setRow_at (HB4.out.keep hX (by simp)))
        have HX9 : Hid (Ext w (W.setRow g (putAt (putAt (mixAt C Z k) (k * 16) P1) (512 + k * 16) P2).toArray)) := Lib.hid (setRow_grown (HX3.out.trans hX) _ _ (by omega))
        generalize W.setRow g (putAt (putAt (mixAt C Z k) (k * 16) P1) (512 + k * 16) P2).toArray = V2 at *
        subst hge
        clear hX hK kk
        (try simp only [Exit.then])
        go_wp2_with fail
        go_roundw
        case rel => exact ⟨k + 1, by omega, by go_num, HX9.out, HB90.out, HB91.out, HB92.out, HB93.out, HB94.out⟩
        case measure => simp [intOf]; omega
    · obtain rfl : k = 32 := by omega
      rw [mixAt_all C Z HCL.out HZL.out] at hb4
      have hcm := hb4.cells
      have hr2 : wr.heap[w.heap.size + 1 + 1 + 1]? = some (.cells Z.toArray 26 (0, 0)) := hb3
      have HX := Lib.hid hx
      clear hx hb0 hb1 hb2 hb3 hb4
      go_wp2_with (first
        | (refine wpList_load_agg _ rfl 26 (.tmp 9) rfl _ rfl C _ Try.underlying26 rfl (rsig_size HCL.out) hcm ?_)
        | (refine wpList_store_row _ rfl 26 (.tmp 8) (.tmp 40) rfl (w.heap.size + 1 + 1 + 1) rfl Z C _ rfl hr2 (rsig_size HCL.out) (by rw [HCL.out, HZL.out]) hone ?_)
        | fail)
      have hc9 := Blk.cells (t := 26) (setRow_at (cs' := C.toArray) hr2)
      (try simp only [Exit.inBlock, Exit.then])
      refine bodyPost_ret (results_agg rfl _ _ _ _ _ rfl Try.underlying26 rfl (rsig_size HCL.out) hc9) rfl ?_
      exact ⟨rfl, setRow_grown HX.out _ _ (by omega)⟩
end
section
open Go.RowKit

def halfM (seed : List UInt8) (n m : Nat) : List UInt8 := coverM (secretM seed n (m / 2) (m % 2))
theorem half_rows (seed : List UInt8) (n : Nat) : ∀ k, piecesM (halfM seed n) (2 * k) = piecesM (rowM seed n) k
  | 0 => by simp [piecesM]
  | k + 1 => by
    rw [show 2 * (k + 1) = 2 * k + 1 + 1 by omega, piecesM_succ, piecesM_succ, half_rows seed n k, piecesM_succ, List.append_assoc]
    unfold halfM rowM
    rw [show 2 * k / 2 = k by omega, show 2 * k % 2 = 0 by omega, show (2 * k + 1) / 2 = k by omega, show (2 * k + 1) % 2 = 1 by omega]
set_option maxRecDepth 100000 in
set_option maxHeartbeats 8000000 in
theorem RLeaf (seed : List UInt8) (hs : seed.length = 32) (n : Nat) (hn : n < 4294967296) (w : World) :
    Calls Try.prog 46 #[.agg tabsC.toArray, .agg (bv seed).toArray, .int .u32 (n : Int)] w fun e w' => e = .returned (.agg (bv (leafM seed n)).toArray) ∧ Ext w w' := by
  obtain ⟨i0, hi, hz0, hz1, hz2⟩ := info_parts u8_info
  obtain ⟨Z, hz, hzl⟩ : ∃ Z : List Value, (Try.prog.info? 23).bind (fun i => i.zero.map (·.cells)) = some Z.toArray ∧ Z.length = 16 := ⟨_, rpiece_zero, by simp⟩
  obtain ⟨D, hzd, hdl0⟩ : ∃ D : List Value, (Try.prog.info? 31).bind (fun i => i.zero.map (·.cells)) = some D.toArray ∧ D.length = 32 := ⟨_, arr_zero, by simp⟩
  have hsl : (bv seed).length = 32 := by rw [bv_length]; exact hs
  have hpl : ∀ m, (piecesM (halfM seed n) m).length = 16 * m := piecesM_length (f := halfM seed n) (fun _ => coverM_length _)
  have hall : piecesM (halfM seed n) 64 = allM seed n := half_rows seed n 32
  have hsec := fun (k : Nat) (hk : k < 32) (bt : Nat) (hbt : bt < 2) W => RSecret seed hs n hn k hk bt hbt W
  have hcov := fun (p : List UInt8) (hp : p.length = 16) W => RCover p hp W
  have hal : (allM seed n).length = 1024 := piecesM_length (f := rowM seed n) (fun k => rowM_length _ _ _) 32
  have hfor := fun v W F hp2 hF => RFor 2 2 rfl [allM seed n] (by simp [blob, be_length, hal]) v W F hp2 hF
  have hlm : sha (textM 2 [allM seed n]) = leafM seed n := rfl
  rw [hlm] at hfor
  have hrl : (bv (leafM seed n)).length = 32 := by rw [bv_length]; exact leafOf_length _
  have hro := bv_one (leafM seed n)
  have hts : (Try.prog.info? 44).map (·.size) = some tabsC.length := tabs_size rfl
  generalize tabsC = TB at *
  generalize bv (leafM seed n) = R at *
  have hb0 : Blk (((w.alloc (.cells TB.toArray 44)).alloc (.cells (bv seed).toArray 31)).alloc (.cells D.toArray 31)) w.heap.size 44 TB := ((Blk.new _ _ _).keep ((Ext.refl _).alloc _) (by simp)).keep ((Ext.refl _).alloc _) (by simp)
  have hb1 : Blk (((w.alloc (.cells TB.toArray 44)).alloc (.cells (bv seed).toArray 31)).alloc (.cells D.toArray 31)) (w.heap.size + 1) 31 (bv seed) := (Blk.fresh (by simp) _ _).keep ((Ext.refl _).alloc _) (by simp)
  have hb2 : Blk (((w.alloc (.cells TB.toArray 44)).alloc (.cells (bv seed).toArray 31)).alloc (.cells D.toArray 31)) (w.heap.size + 1 + 1) 31 D := Blk.fresh (by simp) _ _
  have hx0 : Ext w (((w.alloc (.cells TB.toArray 44)).alloc (.cells (bv seed).toArray 31)).alloc (.cells D.toArray 31)) := (((Ext.refl w).alloc _).alloc _).alloc _
  generalize bv seed = SC at *
  have HB0 := Lib.hid hb0
  have HB1 := Lib.hid hb1
  have HB2 := Lib.hid hb2
  have HX0 := Lib.hid hx0
  have HSL := Lib.hid hsl
  have HZL := Lib.hid hzl
  have HDL0 := Lib.hid hdl0
  have HPL := Lib.hid hpl
  have HALL := Lib.hid hall
  have HSEC := Lib.hid hsec
  have HCOV := Lib.hid hcov
  have HFOR := Lib.hid hfor
  have HRL := Lib.hid hrl
  have HTS := Lib.hid hts
  clear hb0 hb1 hb2 hx0 hsl hzl hdl0 hpl hall hsec hcov hfor hrl hts hlm hal
  go_enter Try.func46, Try.ntmps46
  go_wp2_with (first
    | (refine wpList_alloc _ rfl 31 rfl _ hzd ?_)
    | fail)
  go_loopw [7, 8, 9, 10] (fun u i j p wr => ∃ k : Nat, k ≤ 32 ∧ i = .int .i64 k ∧ OwnB wr u (piecesM (halfM seed n) (2 * k)) ∧ Ext w wr ∧ Blk wr w.heap.size 44 TB ∧ Blk wr (w.heap.size + 1) 31 SC ∧ Blk wr (w.heap.size + 1 + 1) 31 D ∧ ∀ b, u.ownBlock = some b → w.heap.size + 1 + 1 + 1 ≤ b) (fun _ i _ _ _ => 32 - (intOf i).toNat)
  case atStart => exact ⟨0, by omega, rfl, Own.nil _ _ _, HX0.out, HB0.out, HB1.out, HB2.out, fun b hb => by simp [Value.ownBlock] at hb⟩
  case round =>
    clear HX0 HB0 HB1 HB2
    obtain ⟨k, hk, rfl, hou, hx, hb0, hb1, hb2, hne⟩ := hrel
    obtain ⟨wo, hwo⟩ : ∃ wo, wo = wr := ⟨_, rfl⟩
    by_cases hlt : k < 32
    · subst hwo
      have HO := Lib.hid hou
      have HX := Lib.hid hx
      have HB0 := Lib.hid hb0
      have HB1 := Lib.hid hb1
      have HB2 := Lib.hid hb2
      have HNE := Lib.hid hne
      clear hou hx hb0 hb1 hb2 hne
      go_wp2_with fail
      have hdk0 : decide ((k : Int) < 32) = true := by rw [decide_eq_true_iff]; omega
      (try simp only [hdk0])
      clear hdk0
      go_loopw [7, 9, 10] (fun u i p wr => ∃ j : Nat, j ≤ 2 ∧ i = .int .i64 j ∧ OwnB wr u (piecesM (halfM seed n) (2 * k + j)) ∧ Ext w wr ∧ Blk wr w.heap.size 44 TB ∧ Blk wr (w.heap.size + 1) 31 SC ∧ Blk wr (w.heap.size + 1 + 1) 31 D ∧ ∀ b, u.ownBlock = some b → w.heap.size + 1 + 1 + 1 ≤ b) (fun _ i _ _ => 2 - (intOf i).toNat)
      case atStart => exact ⟨0, by omega, rfl, HO.out, HX.out, HB0.out, HB1.out, HB2.out, HNE.out⟩
      case round =>
        clear HO HX HB0 HB1 HB2 HNE
        obtain ⟨j, hj, rfl, hou, hx, hb0, hb1, hb2, hne⟩ := hrel
        by_cases hlj : j < 2
        · have hsc := fun W => HSEC.out k hlt j hlj W
          have hcv := fun W => HCOV.out (secretM seed n k j) (secretM_length _ _ _ _) W
          have hcl : (bv (coverM (secretM seed n k j))).length = 16 := by rw [bv_length, coverM_length]
          have hco := bv_one (coverM (secretM seed n k j))
          have hst : piecesM (halfM seed n) (2 * k + (j + 1)) = piecesM (halfM seed n) (2 * k + j) ++ coverM (secretM seed n k j) := by
            rw [← Nat.add_assoc, piecesM_succ]
            unfold halfM
            rw [show (2 * k + j) / 2 = k by omega, show (2 * k + j) % 2 = j by omega]
          have hpk := HPL.out (2 * k + j)
          have hcvl := coverM_length (secretM seed n k j)
          generalize bv (secretM seed n k j) = S1 at *
          generalize hcvb : coverM (secretM seed n k j) = CB at *
          generalize hCV : bv CB = CV at *
          have HSC := Lib.hid hsc
          have HCV := Lib.hid hcv
          have HCL := Lib.hid hcl
          have HST := Lib.hid hst
          have HPK := Lib.hid hpk
          have HCVE := Lib.hid hCV
          have HCBL := Lib.hid hcvl
          have HOUr := Lib.hid hou
          have HX := Lib.hid hx
          have HB0 : Hid (Blk wr.drew w.heap.size 44 TB) := Lib.hid hb0
          have HB1 : Hid (Blk wr.drew (w.heap.size + 1) 31 SC) := Lib.hid hb1
          have HB2 : Hid (Blk wr.drew (w.heap.size + 1 + 1) 31 D) := Lib.hid hb2
          have HNE := Lib.hid hne
          have HLTU := Lib.hid (OwnB.lt hou)
          clear hsc hcv hcl hst hpk hCV hcvl hou hx hb0 hb1 hb2 hne hcvb
          go_wp2_with fail
          have hdk : decide ((k : Int) < 32) = true := by rw [decide_eq_true_iff]; omega
          have hdj : decide ((j : Int) < 2) = true := by rw [decide_eq_true_iff]; omega
          (try simp only [hdk])
          (try simp only [hdj])
          clear hdk hdj
          refine stab_store Ext ext_refl ext_trans [[0], [1], [2], [3], [4], [5], [1, 2, 3, 4, 5, 6], [0, 1, 2, 3, 4, 5, 6, 7], [8], [0, 1, 2, 3, 4, 5, 6, 7, 8, 9]] (fun i v wv => match i with | 0 => v = .agg TB.toArray | 1 => v = .agg TB.toArray | 2 => v = .agg SC.toArray | 3 => v = .int .u32 (n : Int) | 4 => v = .int .i64 (k : Int) | 5 => v = .int .i64 (j : Int) | 6 => v = .agg S1.toArray | 7 => v = .agg CV.toArray | 8 => ∃ g, v = .pointer (some ⟨g, 0, none⟩) ∧ wr.heap.size ≤ g ∧ Blk wv g 23 Z | _ => True) (by kernel_rfl) (by kernel_rfl) (by kernel_rfl) (by kernel_rfl) (by simp) ?_ ?_ ?_
          · intro i v w1 w2 h hx
            match i, h with
            | 0, h => exact h
            | 1, h => exact h
            | 2, h => exact h
            | 3, h => exact h
            | 4, h => exact h
            | 5, h => exact h
            | 6, h => exact h
            | 7, h => exact h
            | 8, h =>
              replace h : ∃ g, v = .pointer (some ⟨g, 0, none⟩) ∧ wr.heap.size ≤ g ∧ Blk w1 g 23 Z := h
              show ∃ g, v = .pointer (some ⟨g, 0, none⟩) ∧ wr.heap.size ≤ g ∧ Blk w2 g 23 Z
              obtain ⟨g, h1, h2, h3⟩ := h
              exact ⟨g, h1, h2, h3.keep hx (by simp)⟩
            | i + 9, h => trivial
          · intro i hi o ho
            match i, hi, ho with
            | 0, _, ho =>
              obtain rfl := Option.some.inj ho
              intro s W hX hd K hK
              rw [if_pos (wanted_plain rfl)]
              clear hd
              replace hK : ∀ (v : Value) (W' : World), Ext W W' → (v = .agg TB.toArray) → _ := hK
              simp only [mkOf, List.map_cons, List.map_nil, Act.put, List.setIfInBounds_toArray, List.set_cons_succ, List.set_cons_zero, Nat.reduceAdd, Nat.zero_add] at hK ⊢
              refine wp_load_agg 44 (.tmp 3) rfl _ rfl TB _ Try.underlying44 rfl HTS.out (HB0.out.keep hX (by simp)).cells ?_
              exact hK _ _ (Ext.refl _) rfl
            | 1, _, ho =>
              obtain rfl := Option.some.inj ho
              intro s W hX hd K hK
              rw [if_pos (wanted_plain rfl)]
              clear hd
              replace hK : ∀ (v : Value) (W' : World), Ext W W' → (v = .agg TB.toArray) → _ := hK
              simp only [mkOf, List.map_cons, List.map_nil, Act.put, List.setIfInBounds_toArray, List.set_cons_succ, List.set_cons_zero, Nat.reduceAdd, Nat.zero_add] at hK ⊢
              refine wp_load_agg 44 (.tmp 3) rfl _ rfl TB _ Try.underlying44 rfl HTS.out (HB0.out.keep hX (by simp)).cells ?_
              exact hK _ _ (Ext.refl _) rfl
            | 2, _, ho =>
              obtain rfl := Option.some.inj ho
              intro s W hX hd K hK
              rw [if_pos (wanted_plain rfl)]
              clear hd
              replace hK : ∀ (v : Value) (W' : World), Ext W W' → (v = .agg SC.toArray) → _ := hK
              simp only [mkOf, List.map_cons, List.map_nil, Act.put, List.setIfInBounds_toArray, List.set_cons_succ, List.set_cons_zero, Nat.reduceAdd, Nat.zero_add] at hK ⊢
              refine wp_load_agg 31 (.tmp 4) rfl _ rfl SC _ Try.underlying31 rfl (arr_size HSL.out) (HB1.out.keep hX (by simp)).cells ?_
              exact hK _ _ (Ext.refl _) rfl
            | 3, _, ho =>
              obtain rfl := Option.some.inj ho
              intro s W hX hd K hK
              rw [if_pos (wanted_plain rfl)]
              clear hd
              replace hK : ∀ (v : Value) (W' : World), Ext W W' → (v = .int .u32 (n : Int)) → _ := hK
              simp only [mkOf, List.map_cons, List.map_nil, Act.put, List.setIfInBounds_toArray, List.set_cons_succ, List.set_cons_zero, Nat.reduceAdd, Nat.zero_add] at hK ⊢
              go_simp
              exact hK _ _ (Ext.refl _) rfl
            | 4, _, ho =>
              obtain rfl := Option.some.inj ho
              intro s W hX hd K hK
              rw [if_pos (wanted_plain rfl)]
              clear hd
              replace hK : ∀ (v : Value) (W' : World), Ext W W' → (v = .int .i64 (k : Int)) → _ := hK
              simp only [mkOf, List.map_cons, List.map_nil, Act.put, List.setIfInBounds_toArray, List.set_cons_succ, List.set_cons_zero, Nat.reduceAdd, Nat.zero_add] at hK ⊢
              go_simp
              exact hK _ _ (Ext.refl _) rfl
            | 5, _, ho =>
              obtain rfl := Option.some.inj ho
              intro s W hX hd K hK
              rw [if_pos (wanted_plain rfl)]
              clear hd
              replace hK : ∀ (v : Value) (W' : World), Ext W W' → (v = .int .i64 (j : Int)) → _ := hK
              simp only [mkOf, List.map_cons, List.map_nil, Act.put, List.setIfInBounds_toArray, List.set_cons_succ, List.set_cons_zero, Nat.reduceAdd, Nat.zero_add] at hK ⊢
              go_simp
              exact hK _ _ (Ext.refl _) rfl
            | 6, _, ho =>
              obtain rfl := Option.some.inj ho
              intro s W hX hd K hK
              rw [if_pos (wanted_plain rfl)]
              have d20 : (s 1) = .agg TB.toArray := hd 1 (by decide) (by decide)
              have d21 : (s 2) = .agg SC.toArray := hd 2 (by decide) (by decide)
              have d22 : (s 3) = .int .u32 (n : Int) := hd 3 (by decide) (by decide)
              have d23 : (s 4) = .int .i64 (k : Int) := hd 4 (by decide) (by decide)
              have d24 : (s 5) = .int .i64 (j : Int) := hd 5 (by decide) (by decide)
              clear hd
              replace hK : ∀ (v : Value) (W' : World), Ext W W' → (v = .agg S1.toArray) → _ := hK
              simp only [mkOf, List.map_cons, List.map_nil, Act.put, List.setIfInBounds_toArray, List.set_cons_succ, List.set_cons_zero, Nat.reduceAdd, Nat.zero_add] at hK ⊢
              simp only [d20, d21, d22, d23, d24] at hK ⊢
              go_simp
              refine (HSC.out W).mono ?_
              rintro e w' ⟨rfl, hx⟩
              exact hK _ _ hx rfl
            | 7, _, ho =>
              obtain rfl := Option.some.inj ho
              intro s W hX hd K hK
              rw [if_pos (wanted_plain rfl)]
              have d19 : (s 0) = .agg TB.toArray := hd 0 (by decide) (by decide)
              have d25 : (s 6) = .agg S1.toArray := hd 6 (by decide) (by decide)
              clear hd
              replace hK : ∀ (v : Value) (W' : World), Ext W W' → (v = .agg CV.toArray) → _ := hK
              simp only [mkOf, List.map_cons, List.map_nil, Act.put, List.setIfInBounds_toArray, List.set_cons_succ, List.set_cons_zero, Nat.reduceAdd, Nat.zero_add] at hK ⊢
              simp only [d19, d25] at hK ⊢
              go_simp
              refine (HCV.out W).mono ?_
              rintro e w' ⟨rfl, hx⟩
              exact hK _ _ hx rfl
            | 8, _, ho =>
              obtain rfl := Option.some.inj ho
              intro s W hX hd K hK
              rw [if_pos (wanted_plain rfl)]
              clear hd
              replace hK : ∀ (v : Value) (W' : World), Ext W W' → (∃ g, v = .pointer (some ⟨g, 0, none⟩) ∧ wr.heap.size ≤ g ∧ Blk W' g 23 Z) → _ := hK
              simp only [mkOf, List.map_cons, List.map_nil, Act.put, List.setIfInBounds_toArray, List.set_cons_succ, List.set_cons_zero, Nat.reduceAdd, Nat.zero_add] at hK ⊢
              refine wp_alloc_agg 23 rfl Z hz ?_
              exact hK _ _ ((Ext.refl _).alloc _) ⟨_, rfl, by have := hX.size; simpa using this, Blk.new _ _ _⟩
            | i + 9, hi, _ => exact absurd hi (by simp)
          · intro o ho
            obtain rfl := Option.some.inj ho
            intro s W hX hd K hK
            rw [if_pos (wanted_plain rfl)]
            have d19 : (s 0) = .agg TB.toArray := hd 0 (by decide)
            have d20 : (s 1) = .agg TB.toArray := hd 1 (by decide)
            have d21 : (s 2) = .agg SC.toArray := hd 2 (by decide)
            have d22 : (s 3) = .int .u32 (n : Int) := hd 3 (by decide)
            have d23 : (s 4) = .int .i64 (k : Int) := hd 4 (by decide)
            have d24 : (s 5) = .int .i64 (j : Int) := hd 5 (by decide)
            have d25 : (s 6) = .agg S1.toArray := hd 6 (by decide)
            have d26 : (s 7) = .agg CV.toArray := hd 7 (by decide)
            have d10 : ∃ g, (s 8) = .pointer (some ⟨g, 0, none⟩) ∧ wr.heap.size ≤ g ∧ Blk W g 23 Z := hd 8 (by decide)
            clear hd
            simp only [mkOf, List.map_cons, List.map_nil, Act.put, List.setIfInBounds_toArray, List.set_cons_succ, List.set_cons_zero, Nat.reduceAdd, Nat.zero_add]
            obtain ⟨g, hg, hgb, hB⟩ := d10
            rw [hg]
            refine wp_store_row 23 (.tmp 10) (.tmp 26) rfl g rfl Z CV _ (by simpa [Act.eval] using d26) hB (rpiece_size HCL.out) (by rw [HCL.out, HZL.out]) hco ?_
            refine hK _ _ ?_
            have hV : Ext wr (W.setRow g CV.toArray) := setRow_grown ((Ext.refl wr).drew.trans hX) _ _ hgb
            have hgV : Blk (W.setRow g CV.toArray) g 23 CV := setRow_at hB
            generalize W.setRow g CV.toArray = V at *
            have HVX := Lib.hid hV
            have HCG := Lib.hid hgV.cells
            have HOU := Lib.hid (HOUr.out.ext hV)
            clear hK hX hV hgV hB d19 d20 d21 d22 d23 d24 d25 d26
            (try simp only [Exit.then])
            go_wp2_with (first
              | (at_builtin
                 refine wpList_app _ rfl (.tmp 27) (.tmp 28) _ _ rfl 5 5 i0 _ 1 1 Try.underlying62 Try.underlying62 hi hz0 hz1 hz2 rfl (by decide) u7 _ _ rfl HOU.out _ 16 16 CV rfl (by rw [HCL.out]) (fun _ => ⟨_, rfl, HCG.out⟩) hco (by rw [HPK.out]; unfold maxLen; omega) (by rw [HPK.out]; omega) ?_
                 intro v9 w9 ho9 hm9)
              | fail)
            have hfr : ∀ b, u7.ownBlock = some b → w.heap.size ≤ b := fun b hb => by have := HNE.out b hb; omega
            have hx9 : Ext w w9 := grown_then (HX.out.trans HVX.out) hm9.grown (.inr hfr)
            have kk : ∀ {h : Nat} {t : TypeId} {cs : List Value}, Blk wr h t cs → h < w.heap.size + 1 + 1 + 1 → Blk w9 h t cs := fun h hg => (h.keep HVX.out (by simp)).keep hm9.grown (fun e => by have := HNE.out _ e.symm; omega)
            have HB90 := Lib.hid (kk (t := 44) HB0.out (by omega))
            have HB91 := Lib.hid (kk (t := 31) HB1.out (by omega))
            have HB92 := Lib.hid (kk (t := 31) HB2.out (by omega))
            have HN9 : Hid (∀ b, v9.ownBlock = some b → w.heap.size + 1 + 1 + 1 ≤ b) := Lib.hid fun b hb => by
              rcases hm9.at_ with e | hn
              · exact HNE.out b (e.symm.trans hb)
              · have h1 := hn b hb
                have h2 := HVX.out.size
                have h3 := Blk.lt (w := wr) (t := 31) HB2.out
                omega
            have HO9 : Hid (OwnB w9 v9 (piecesM (halfM seed n) (2 * k + (j + 1)))) := Lib.hid (by
              rw [HST.out]
              unfold OwnB
              rw [bv_append, HCVE.out, List.length_append, HCBL.out]
              exact ho9)
            have HX9 := Lib.hid hx9
            clear hx9 kk ho9 hm9 hfr
            go_wp2_with fail
            go_roundw
            case rel => exact ⟨j + 1, by omega, by go_num, HO9.out, HX9.out, HB90.out, HB91.out, HB92.out, HN9.out⟩
            case measure => simp [intOf]; omega
        · obtain rfl : j = 2 := by omega
          have HO9 := Lib.hid hou
          have HX9 := Lib.hid hx
          have HB90 := Lib.hid hb0
          have HB91 := Lib.hid hb1
          have HB92 := Lib.hid hb2
          have HN9 := Lib.hid hne
          clear hou hx hb0 hb1 hb2 hne
          go_wp2_with fail
          go_roundw
          case rel => exact ⟨k + 1, by omega, by go_num, by rw [show 2 * (k + 1) = 2 * k + 2 by omega]; exact HO9.out, HX9.out, HB90.out, HB91.out, HB92.out, HN9.out⟩
          case measure => simp [intOf]; omega
    · obtain rfl : k = 32 := by omega
      rw [show 2 * 32 = 64 from rfl, HALL.out] at hou
      obtain ⟨A, c, hv⟩ := OwnB.form hou
      subst hv
      have h1 := hou.holds
      have hlt1 := OwnB.lt hou
      obtain ⟨F, hp9, hF9⟩ := one_part (T := 62) h1 hlt1
      have hct := hb0.cells
      have HF9 := Lib.hid (HFOR.out _ _ F hp9 hF9)
      have HX := Lib.hid (hx.alloc (.cells #[Value.slice A (allM seed n).length c] 62))
      have HB3 := Lib.hid (hb2.keep ((Ext.refl wr).alloc (.cells #[Value.slice A (allM seed n).length c] 62)) (by simp))
      clear hx hb0 hb1 hb2 hou h1 hlt1 hp9 hF9 hne
      generalize (allM seed n).length = m at *
      clear hwo
      go_wp2_with (first
        | (refine wpList_load_agg _ rfl 44 (.tmp 3) rfl _ rfl TB _ Try.underlying44 rfl HTS.out hct ?_)
        | fail)
      refine (HF9.out).mono ?_
      rintro e w4 ⟨rfl, hx4⟩
      have hr4 : w4.heap[w.heap.size + 1 + 1]? = some (.cells D.toArray 31 (0, 0)) := HB3.out.keep hx4 (by simp)
      have hx5 := HX.out.trans hx4
      go_wp2_with (first
        | (refine wpList_store_row _ rfl 31 (.tmp 6) (.tmp 33) rfl (w.heap.size + 1 + 1) rfl D R _ rfl hr4 (arr_size HRL.out) (by rw [HRL.out, HDL0.out]) hro ?_)
        | fail)
      have hc9 := Blk.cells (t := 31) (setRow_at (cs' := R.toArray) hr4)
      (try simp only [Exit.inBlock, Exit.then])
      refine bodyPost_ret (results_agg rfl _ _ _ _ _ rfl Try.underlying31 rfl (arr_size HRL.out) hc9) rfl ?_
      exact ⟨rfl, setRow_grown hx5 _ _ (by omega)⟩
end
section
open Go.RowKit

set_option maxHeartbeats 400000 in
theorem RRight (tall : Int) (w : World) : Calls Try.prog 22 #[.int .i64 tall] w fun e w' => e = .returned (.bool (decide (0 ≤ tall ∧ tall ≤ 8))) ∧ w = w' := by
  by_cases h1 : 0 ≤ tall
  · by_cases h2 : tall ≤ 8
    · go_enter Try.func22, Try.ntmps22
      go_wp2
      go_ret
      exact ⟨by simp [h1, h2], rfl⟩
    · go_enter Try.func22, Try.ntmps22
      go_wp2
      go_ret
      exact ⟨by simp; omega, rfl⟩
  · go_enter Try.func22, Try.ntmps22
    go_wp2
    go_ret
    exact ⟨by simp; omega, rfl⟩
set_option maxHeartbeats 400000 in
theorem RPower (n : Nat) (hn : n ≤ 8) (w : World) : Calls Try.prog 25 #[.int .i64 (n : Int)] w fun e w' => e = .returned (.int .i64 ((2 ^ n : Nat) : Int)) ∧ w = w' := by
  go_enter Try.func25, Try.ntmps25
  go_wp2
  go_loopw [3, 4] (fun p i wr => wr = w ∧ ∃ k m : Nat, k ≤ n ∧ i = .int .i64 k ∧ p = .int .i64 (m : Int) ∧ Hid (m = 2 ^ k)) (fun _ i _ => n - (intOf i).toNat)
  case atStart => exact ⟨rfl, 0, 1, by omega, rfl, rfl, Lib.hid rfl⟩
  case round =>
    obtain ⟨rfl, k, m, hk, rfl, rfl, hm⟩ := hrel
    have hm256 : m ≤ 256 := by rw [hm.out]; exact (pow_low (tall := k) (by omega)).2
    by_cases hlt : k < n
    · go_wp2
      go_roundw
      case rel => exact ⟨trivial, k + 1, 2 * m, by omega, by go_num, by go_num, Lib.hid (by rw [hm.out, Nat.pow_succ]; omega)⟩
      case measure => simp [intOf]; omega
    · obtain rfl : k = n := by omega
      have hm := hm.out
      subst hm
      go_wp2
      go_ret
      exact ⟨rfl, rfl⟩
theorem partsRowR : ∃ (i : TypeInfo) (z : Value), Try.prog.info? 28 = some i ∧ i.zero = some z ∧ i.size = 1 ∧ i.bytes = 24 ∧ z.cells.size = 1 := by
  have h : ((Try.prog.info? 28).bind fun i => i.zero.map fun z => (i.size, i.bytes, z.cells.size)) = some (1, 24, 1) := by kernel_rfl
  obtain ⟨i, hi, h2⟩ := Option.bind_eq_some_iff.1 h
  obtain ⟨z, hz, h3⟩ := Option.map_eq_some_iff.1 h2
  have h4 : i.size = 1 ∧ i.bytes = 24 ∧ z.cells.size = 1 := by simpa using h3
  exact ⟨i, z, hi, hz, h4⟩
/-- The document's rows so far: their slice's own row, and their sums, all new. -/
structure RowsR (W : World) (b0 : Nat) (rv : Value) (Fr : Fp) (ls : List (List Dg)) : Prop where
  own : ∃ vals, Own W 28 1 rv ls.length vals ∧ AllH ((Ty.sl DigT).holds W Fr) vals ls
  fr : ∀ b, Fr b → b0 ≤ b ∧ b < W.heap.size ∧ rv.ownBlock ≠ some b
  rb : ∀ b, rv.ownBlock = some b → b0 ≤ b
theorem RowsR.keep {W W' : World} {b0 : Nat} {rv : Value} {Fr : Fp} {ls : List (List Dg)} {row : Option Nat} (h : RowsR W b0 rv Fr ls) (hg : W.grownBy W' row) (h1 : ∀ b, Fr b → some b ≠ row) (h2 : rv.ownBlock = none ∨ rv.ownBlock ≠ row) : RowsR W' b0 rv Fr ls := by
  obtain ⟨⟨vals, ho, ha⟩, hf, hr⟩ := h
  exact ⟨⟨vals, ho.keep hg h2, AllH.mono (fun c a _ hc => Ty.keep (fun b hb => hg.block b (hf b hb).2.1 (h1 b hb)) (fun _ h => h) _ hc) ha⟩, fun b hb => ⟨(hf b hb).1, Nat.lt_of_lt_of_le (hf b hb).2.1 hg.size, (hf b hb).2.2⟩, hr⟩
theorem RowsR.ext {W W' : World} {b0 : Nat} {rv : Value} {Fr : Fp} {ls : List (List Dg)} (h : RowsR W b0 rv Fr ls) (hx : Ext W W') : RowsR W' b0 rv Fr ls := h.keep hx (by simp) (by cases hb : rv.ownBlock with | none => exact .inl rfl | some b => exact .inr (by simp))
theorem RowsR.holds {W : World} {b0 : Nat} {rv : Value} {Fr : Fp} {ls : List (List Dg)} (h : RowsR W b0 rv Fr ls) : Levs W (fun b => Fr b ∨ rv.ownBlock = some b) rv ls := by
  obtain ⟨⟨vals, ho, ha⟩, hf, hr⟩ := h
  have ha' : AllH ((Ty.sl DigT).holds W (fun b => Fr b ∨ rv.ownBlock = some b)) vals ls := AllH.mono (fun c a _ hc => Ty.keep (fun _ _ => rfl) (fun _ h => .inl h) _ hc) ha
  rcases ho.2 with ⟨rfl, h0⟩ | ⟨g, cap, cur, rfl, _, hg, hnc, hcm, _, _⟩
  · obtain rfl : ls = [] := List.eq_nil_of_length_eq_zero h0
    exact ⟨none, 0, [], rfl, Nat.le_refl 0, by simp [maxLen], fun _ => rfl, fun h => absurd rfl h, rfl⟩
  · exact ⟨_, cap, _, rfl, hnc, hcm, by simp, fun _ => ⟨_, rfl, .inr rfl, World.ownsRow.cells ho rfl⟩, ha'⟩
/-- A row more. -/
theorem RowsR.app {W W' : World} {b0 : Nat} {rv rv' nv : Value} {Fr : Fp} {ls : List (List Dg)} {l : List Dg} (h : RowsR W b0 rv Fr ls) (hm : Moved W W' rv rv') {vals : List Value} (hv : AllH ((Ty.sl DigT).holds W Fr) vals ls) (ho : Own W' 28 1 rv' (ls.length + 1) (vals ++ [nv])) (hn : Ways W (fun b => nv.ownBlock = some b) nv l)
    (hnb : ∀ b, nv.ownBlock = some b → b0 ≤ b ∧ b < W.heap.size ∧ rv.ownBlock ≠ some b) (hb0 : b0 ≤ W.heap.size) : RowsR W' b0 rv' (fun b => Fr b ∨ nv.ownBlock = some b) (ls ++ [l]) := by
  have hk : ∀ b, (Fr b ∨ nv.ownBlock = some b) → b0 ≤ b ∧ b < W.heap.size ∧ rv.ownBlock ≠ some b := fun b hb => hb.elim (h.fr b) (hnb b)
  have hs : ∀ b, (Fr b ∨ nv.ownBlock = some b) → W'.heap[b]? = W.heap[b]? := fun b hb => hm.grown.block b (hk b hb).2.1 (fun e => (hk b hb).2.2 e.symm)
  refine ⟨⟨vals ++ [nv], by rw [List.length_append]; exact ho, AllH.append (AllH.mono (fun c a _ hc => Ty.keep (fun b hb => hs b (.inl hb)) (fun _ h => .inl h) _ hc) hv) (AllH.one (R := (Ty.sl DigT).holds _ _) (Ty.keep (t := .sl DigT) (fun b hb => hs b (.inr hb)) (fun _ h => .inr h) hn))⟩, fun b hb => ⟨(hk b hb).1, Nat.lt_of_lt_of_le (hk b hb).2.1 hm.grown.size, fun e => ?_⟩, fun b hb => ?_⟩
  · rcases hm.at_ with e2 | hnew
    · exact (hk b hb).2.2 (e2.symm.trans e)
    · have := hnew b e; have := (hk b hb).2.1; omega
  · rcases hm.at_ with e2 | hnew
    · exact h.rb b (e2.symm.trans hb)
    · exact Nat.le_trans hb0 (hnew b hb)
set_option maxRecDepth 100000 in
set_option maxHeartbeats 8000000 in
theorem RRows (seed : List UInt8) (hs : seed.length = 32) (n : Nat) (hn : n ≤ 8) (w : World) :
    Calls Try.prog 23 #[.agg tabsC.toArray, .agg (bv seed).toArray, .int .i64 (n : Int)] w fun e w' => ∃ R F, e = .returned R ∧ Levs w' F R (levsM seed n) ∧ Ext w w' ∧ ∀ b, F b → w.heap.size ≤ b ∧ b < w'.heap.size := by
  obtain ⟨i1, z1, hi1, hz1, hi2, hi3, hi4⟩ := partsFrom05
  have hsl : (bv seed).length = 32 := by rw [bv_length]; exact hs
  have hpl := pow_low hn
  have hll := fun j (h : j ≤ n) => levM_length seed n j h
  have hlf := fun (k : Nat) (h : k < 2 ^ n) W => RLeaf seed hs k (by omega) W
  have hl0 := fun (k : Nat) (h : k < 2 ^ n) => lev0_take seed n h
  have hpw := fun W => RPower n hn W
  have hrf3 := fun ps hb v W F hp hf => RFor 3 3 rfl ps hb v W F hp hf
  have hts : (Try.prog.info? 44).map (·.size) = some tabsC.length := tabs_size rfl
  obtain ⟨N, hNe⟩ : ∃ N, N = 2 ^ n := ⟨_, rfl⟩
  rw [← hNe] at hpl hlf hl0 hpw
  have HNE := Lib.hid hNe
  generalize tabsC = TB at *
  generalize bv seed = SC at *
  have hx0 : Ext w ((w.alloc (.cells TB.toArray 44)).alloc (.cells SC.toArray 31)) := ((Ext.refl w).alloc _).alloc _
  have hbt : Blk ((w.alloc (.cells TB.toArray 44)).alloc (.cells SC.toArray 31)) w.heap.size 44 TB := (Blk.new _ _ _).keep ((Ext.refl _).alloc _) (by simp)
  have hbs : Blk ((w.alloc (.cells TB.toArray 44)).alloc (.cells SC.toArray 31)) (w.heap.size + 1) 31 SC := Blk.fresh (by simp) _ _
  have hwz : ((w.alloc (.cells TB.toArray 44)).alloc (.cells SC.toArray 31)).heap.size = w.heap.size + 2 := by simp
  have HSL := Lib.hid hsl
  have HN := Lib.hid hpl.2
  have HX0 := Lib.hid hx0
  have HBT := Lib.hid hbt
  have HBS := Lib.hid hbs
  have HLL := Lib.hid hll
  have HLF := Lib.hid hlf
  have HL0 := Lib.hid hl0
  have HPW := Lib.hid hpw
  have HRF3 := Lib.hid hrf3
  have HTS := Lib.hid hts
  have HWZ := Lib.hid hwz
  clear hsl hx0 hbs hbt hll hlf hl0 hpw hrf3 hts hwz hNe hs
  go_enter Try.func23, Try.ntmps23
  go_wp2_with fail
  generalize ((w.alloc (.cells TB.toArray 44)).alloc (.cells SC.toArray 31)) = W at *
  go_loopw [7, 8] (fun v i wr => ∃ k : Nat, k ≤ N ∧ i = .int .i64 k ∧ Ext W wr ∧ OwnD 31 wr v ((levM seed n 0).take k) ∧ (∀ b, v.ownBlock = some b → W.heap.size ≤ b)) (fun _ i _ => N - (intOf i).toNat)
  case atStart => exact ⟨0, by omega, rfl, Ext.refl W, ⟨by simp, Own.nil _ _ _⟩, by simp [Value.ownBlock]⟩
  case round =>
    obtain ⟨k, hk, rfl, hx, hov, hfar⟩ := hrel
    by_cases hlt : k < N
    · have hbs2 := (HBS.out.keep hx (by simp))
      have hbt2 := (HBT.out.keep hx (by simp))
      have hlf := fun W => HLF.out k hlt W
      have hl0 := HL0.out k hlt
      have hlk : List.length (α := Dg) ((levM seed n 0).take k) = k := by rw [List.length_take, HLL.out 0 (by omega), Nat.sub_zero, ← HNE.out]; omega
      have hyl : (bv (leafM seed k)).length = 32 := by rw [bv_length]; exact leafM_length _ _
      have hyo := bv_one (leafM seed k)
      have hyd := leafM_length seed k
      have hwk : IntKind.u32.wrap (k : Int) = (k : Int) := by simp [IntKind.wrap, IntKind.bits, IntKind.signed]; have := HN.out; omega
      obtain ⟨Yd, hYd⟩ : ∃ Yd : Dg, Yd = leafM seed k := ⟨_, rfl⟩
      rw [← hYd] at hlf hl0 hyl hyo hyd
      obtain ⟨Y, hY⟩ : ∃ Y, Y = bv Yd := ⟨_, rfl⟩
      rw [← hY] at hlf hyl hyo
      have how : Own wr 31 32 u7 k (((levM seed n 0).take k).flatMap bv) := by have h := hov.2; rw [hlk] at h; exact h
      have HOW := Lib.hid how
      have HY := Lib.hid hY
      have HLFK := Lib.hid hlf
      have HL0K := Lib.hid hl0
      have HLK := Lib.hid hlk
      have HYL := Lib.hid hyl
      have HYD := Lib.hid hyd
      have HBS2 := Lib.hid hbs2
      have HBT2 := Lib.hid hbt2
      have HX := Lib.hid hx
      have HOV := Lib.hid hov
      have HFAR := Lib.hid hfar
      clear hbs2 hbt2 hlf hl0 hlk hyl hyd hYd hY how hx hov hfar
      go_wp2_with (first
        | (go_at_call 25; refine (HPW.out _).mono ?_; rintro e w2 ⟨rfl, rfl⟩)
        | ((with_reducible refine wpDst 19 rfl ?_); refine wpList_load_agg _ rfl 44 (.tmp 3) rfl _ rfl TB _ Try.underlying44 rfl HTS.out (by exact HBT2.out.cells) ?_)
        | ((with_reducible refine wpDst 20 rfl ?_); refine wpList_load_agg _ rfl 31 (.tmp 4) rfl _ rfl SC _ Try.underlying31 rfl (szElTo05 HSL.out) (by exact HBS2.out.cells) ?_)
        | (go_at_call 46; refine (HLFK.out _).mono ?_; rintro e w3 ⟨rfl, hx3⟩; have HXA := Lib.hid (hx3.alloc (.cells Y.toArray 31)))
        | ((with_reducible refine wpDst 24 rfl ?_); refine wpList_one _ rfl 28 (.tmp 23) rfl 31 Y Try.underlying28 rfl (szEbFrom05 HYL.out) zEbFrom05 (by rw [HYL.out]; decide) (by rw [HYL.out]; decide) ?_)
        | ((with_reducible refine wpDst 25 rfl ?_)
           go_must (refine wpList_app _ rfl (.tmp 18) (.tmp 24) _ _ rfl 31 31 i1 z1 32 32 Try.underlying28 Try.underlying28 hi1 hz1 hi2 hi3 hi4 (by decide) u7 _ _ rfl (HOW.out.ext HXA.out) _ 1 1 Y rfl (by rw [HYL.out]) (src_at rfl Y _ 1) hyo (by have := HN.out; unfold maxLen; omega) (by have := HN.out; omega) ?_)
           intro v7 w7 ho7 hm7
           obtain ⟨A7, c7, hv7⟩ := Own.form ho7
           subst hv7)
        | fail)
      have far7 : ∀ b, (Value.slice A7 (k + 1) c7).ownBlock = some b → W.heap.size ≤ b := fun b hb => by
        rcases hm7.at_ with e | hn
        · exact HFAR.out b (e.symm.trans hb)
        · have h1 := hn b hb
          have h2 := HX.out.size
          have h3 := HXA.out.size
          omega
      have hx9 : Ext W w7 := grown_then (HX.out.trans HXA.out) hm7.grown (.inr fun x hx => HFAR.out x hx)
      have ho9 : OwnD 31 w7 (.slice A7 (k + 1) c7) ((levM seed n 0).take (k + 1)) := by
        rw [HL0K.out]
        refine ⟨fun d hd => ?_, ?_⟩
        · rcases List.mem_append.1 hd with hd | hd
          · exact HOV.out.1 d hd
          · rw [List.mem_singleton.1 hd]; exact HYD.out
        · have e1 : (((levM seed n 0).take k) ++ [Yd]).flatMap bv = (((levM seed n 0).take k)).flatMap bv ++ Y := by rw [HY.out]; simp
          have e2 : List.length (α := Dg) (((levM seed n 0).take k) ++ [Yd]) = k + 1 := by rw [List.length_append, HLK.out]; rfl
          rw [e1, e2]
          exact ho7
      have HX9 := Lib.hid hx9
      have HO9 := Lib.hid ho9
      have HF9 := Lib.hid far7
      clear hx9 ho9 far7
      go_roundw
      case rel => exact ⟨k + 1, by omega, by go_num, HX9.out, HO9.out, HF9.out⟩
      case measure => simp [intOf]; omega
    · obtain rfl : k = N := by omega
      have htk : (levM seed n 0).take k = levM seed n 0 := List.take_of_length_le (by rw [HLL.out 0 (by omega), Nat.sub_zero, ← HNE.out]; exact Nat.le_refl _)
      rw [htk] at hov
      have hl0k : List.length (α := Dg) (levM seed n 0) = k := by rw [HLL.out 0 (by omega), Nat.sub_zero, ← HNE.out]
      obtain ⟨A8, c8, hv8⟩ := hov.2.form
      rw [hl0k] at hv8
      subst hv8
      have hwsz := hx.size
      have hxa : Ext W (wr.alloc (.cells #[Value.slice A8 k c8] 28)) := hx.alloc _
      have hro : RowsR (wr.alloc (.cells #[Value.slice A8 k c8] 28)) W.heap.size (.slice (some ⟨wr.heap.size, 0, none⟩) 1 1) (fun b => (Value.slice A8 k c8).ownBlock = some b) [levM seed n 0] := by
        refine ⟨⟨[Value.slice A8 k c8], own_row1 _ _ _, AllH.one (R := (Ty.sl DigT).holds _ _) (hov.ext ((Ext.refl wr).alloc _)).holds⟩, fun b hb => ⟨hfar b hb, by have := hov.lt b hb; simp; omega, fun e => by have := hov.lt b hb; simp [Value.ownBlock] at e; omega⟩, fun b hb => by simp [Value.ownBlock] at hb; omega⟩
      have hwy : Ways (wr.alloc (.cells #[Value.slice A8 k c8] 28)) (fun b => (Value.slice A8 k c8).ownBlock = some b) (.slice A8 k c8) (levM seed n 0) := (hov.ext ((Ext.refl wr).alloc (.cells #[Value.slice A8 k c8] 28))).holds
      have HRO := Lib.hid hro
      have HWY := Lib.hid hwy
      have HX2 := Lib.hid hxa
      clear hro hwy hxa hov hfar hx htk hl0k
      go_wp2_with (first
        | (go_at_call 25; refine (HPW.out _).mono ?_; rintro e w2 ⟨rfl, rfl⟩)
        | fail)
      generalize wr.alloc (.cells #[Value.slice A8 k c8] 28) = w5 at *
      go_loopw [7, 9, 10, 11] (fun row out nx ix wr2 => ∃ (j : Nat) (rv : Value) (Fr : Fp), j ≤ n ∧ out = rv ∧ Ways wr2 Fr row (levM seed n j) ∧ Ext W wr2 ∧ RowsR wr2 W.heap.size rv Fr ((levsM seed n).take (j + 1)) ∧ (∃ q, nx = q) ∧ ∃ q, ix = q) (fun row _ _ _ _ => lenOf row)
      case atStart => exact ⟨0, _, _, by omega, rfl, HWY.out, HX2.out, by rw [levs_take seed n 0 (by omega)]; exact HRO.out, ⟨_, rfl⟩, _, rfl⟩
      case round =>
        clear HRO HWY HX2
        obtain ⟨j, rv, Fr, hj, rfl, hwy, hx, hro, ⟨q, rfl⟩, q2, rfl⟩ := hrel
        obtain ⟨Aj, cj, xs, rfl, hlc, hcm, hAj, hcj, hallj⟩ := ways_open hwy
        have hfrl := fun b hb => (hro.fr b hb).2.1
        have hlj : List.length (α := Dg) (levM seed n j) = 2 ^ (n - j) := HLL.out j hj
        unfold maxLen at hcm
        obtain ⟨wo, rfl⟩ : ∃ wo, wo = wr := ⟨_, rfl⟩
        by_cases hjn : j < n
        · obtain ⟨L, hL⟩ : ∃ L, L = 2 ^ (n - (j + 1)) := ⟨_, rfl⟩
          have hpos : 0 < L := by rw [hL]; exact Nat.two_pow_pos _
          have h2L : 2 ^ (n - j) = 2 * L := by rw [hL, show n - j = n - (j + 1) + 1 by omega, Nat.pow_succ]; omega
          have hL256 : L ≤ 256 := by rw [hL]; exact Nat.pow_le_pow_right (n := 2) (by decide) (show n - (j + 1) ≤ 8 by omega)
          obtain ⟨LL, hLL⟩ : ∃ LL, LL = 2 * L := ⟨_, rfl⟩
          rw [h2L, ← hLL] at hlj
          rw [hlj] at hlc hcj ⊢
          obtain ⟨ad, rfl, hFad, hcells⟩ := hcj (by omega)
          have hkk : 0 < LL := by omega
          have hadl : ad.block < wo.heap.size := hfrl _ hFad
          have hrow : ∀ (W' : World), (∀ b, b < wo.heap.size → W'.heap[b]? = wo.heap[b]?) → ∀ p, p < LL → Cells W' (ad.add (p * 32)) (bv ((levM seed n j).getD p [])) ∧ List.length (α := UInt8) ((levM seed n j).getD p []) = 32 := fun W' hW p hp => by
            have hp' : p < List.length (α := Dg) (levM seed n j) := by rw [hlj]; exact hp
            have := digs_at (w' := W') hallj (hcells.keep (hW _ hadl)) hp'
            rw [show (levM seed n j).getD p [] = (levM seed n j)[p] by simp [List.getD, hp']]
            exact this
          have hup := fun i (h : i < L) => up_take (levM seed n j) (show i < List.length (α := Dg) (levM seed n j) / 2 by rw [hlj]; omega)
          have hul : List.length (α := Dg) (levM seed n (j + 1)) = L := by rw [HLL.out (j + 1) (by omega), hL]
          have hwo : w.heap.size + 2 ≤ wo.heap.size := by have h1 := HWZ.out; have h2 := hx.size; omega
          have HADL := Lib.hid hadl
          have HROW := Lib.hid hrow
          have HUP := Lib.hid hup
          have HUL := Lib.hid hul
          have HLLE := Lib.hid hLL
          have HX := Lib.hid hx
          have HRO := Lib.hid hro
          have HL := Lib.hid hL256
          have HPOS := Lib.hid hpos
          have HWO := Lib.hid hwo
          have hgt : (1 : Int) < (LL : Int) := by omega
          have hLLm : LL ≤ 512 := by omega
          clear hrow hup hul hLL hx hro hL256 hpos hL h2L hadl hFad hcells hfrl hallj hcj hwo
          go_wp2_with fail
          go_loopw [10, 11] (fun nx ix wr3 => ∃ (i p : Nat), i ≤ L ∧ Hid (p = 2 * i) ∧ ix = .int .i64 (p : Int) ∧ Ext wo wr3 ∧ OwnD 31 wr3 nx ((levM seed n (j + 1)).take i) ∧ (∀ b, nx.ownBlock = some b → wo.heap.size ≤ b)) (fun _ ix _ => LL - (intOf ix).toNat)
          case atStart => exact ⟨0, 0, by omega, Lib.hid rfl, rfl, Ext.refl wo, ⟨by simp, Own.nil _ _ _⟩, by simp [Value.ownBlock]⟩
          case round =>
            obtain ⟨i, p, hi, hp, rfl, hx, hov, hfar⟩ := hrel
            by_cases hlt : i < L
            · have hpl2 : p + 1 < LL := by rw [hp.out, HLLE.out]; omega
              have hsame : ∀ b, b < wo.heap.size → wr.drew.heap[b]? = wo.heap[b]? := fun b hb => hx.block b hb (by simp)
              have hr1 := HROW.out wr.drew hsame p (by omega)
              have hr2 := HROW.out wr.drew hsame (p + 1) hpl2
              have hup := HUP.out i hlt
              rw [← hp.out] at hup
              have hlk : List.length (α := Dg) ((levM seed n (j + 1)).take i) = i := by rw [List.length_take, HUL.out]; omega
              have hlev : upM (levM seed n j) = levM seed n (j + 1) := rfl
              rw [hlev] at hup
              generalize (levM seed n j).getD p [] = d1 at *
              generalize (levM seed n j).getD (p + 1) [] = d2 at *
              have hfor : ∀ v W F, (Ty.sl (.sl .u8)).holds W F [v] [d1, d2] → (∀ b, F b → b < W.heap.size) → Calls Try.prog 40 #[.agg TB.toArray, .int .u8 3, v] W fun e w' => e = .returned (.agg (bv (aboveM d1 d2)).toArray) ∧ Ext W w' := fun v W F hp hf =>
                HRF3.out [d1, d2] (by have h1 := hr1.2; have h2 := hr2.2; simp [blob, be_length, h1, h2]) v W F hp hf
              have hyl : (bv (aboveM d1 d2)).length = 32 := by rw [bv_length]; exact aboveM_length _ _
              have hyo := bv_one (aboveM d1 d2)
              have hyd := aboveM_length d1 d2
              obtain ⟨Yd, hYd⟩ : ∃ Yd : Dg, Yd = aboveM d1 d2 := ⟨_, rfl⟩
              rw [← hYd] at hfor hup hyl hyo hyd
              obtain ⟨Y, hY⟩ : ∃ Y, Y = bv Yd := ⟨_, rfl⟩
              rw [← hY] at hfor hyl hyo
              have hadw : ad.block < wr.drew.heap.size := Nat.lt_of_lt_of_le HADL.out hx.size
              have hs1 := slice_at hr1.1 hr1.2 (by rw [add_block]; exact hadw)
              have hs2 := slice_at hr2.1 hr2.2 (by rw [add_block]; exact hadw)
              have how : Own wr.drew 31 32 u10 i (((levM seed n (j + 1)).take i).flatMap bv) := by have h := (hov.ext (Ext.refl wr).drew).2; rw [hlk] at h; exact h
              have htc : Cells wr.drew ⟨w.heap.size, 0, none⟩ TB := (HBT.out.keep ((HX.out.trans hx).drew) (by simp)).cells
              have HOW := Lib.hid how
              have HTC := Lib.hid htc
              have HY := Lib.hid hY
              have HFOR := Lib.hid hfor
              have HUPK := Lib.hid hup
              have HLK := Lib.hid hlk
              have HYL := Lib.hid hyl
              have HYD := Lib.hid hyd
              have HS1 := Lib.hid hs1
              have HS2 := Lib.hid hs2
              have HX3 : Hid (Ext wo wr.drew) := Lib.hid hx.drew
              have HOV := Lib.hid hov
              have HFAR := Lib.hid hfar
              clear how htc hY hup hlk hyl hyd hr1 hr2 hx hov hfar hYd hfor hsame hlev hs1 hs2 hadw
              go_wp2_with fail
              refine startM (KeepB fun b => b < wo.heap.size) (by kernel_rfl) ?_
              (try simp only [Act.put, List.setIfInBounds_toArray, List.set_cons_succ, List.set_cons_zero])
              generalize wr.drew = w0 at *
              refine takeK 0 rfl (by kernel_rfl) (by kernel_rfl) (by kernel_rfl) rfl (fun _ _ _ _ h => h) rfl (fun K hK => ?_)
              go_big_quiet_op
              first | refine hK _ ?_ | refine ⟨_, fun _ _ => rfl, hK _ ?_⟩
              clear hK K
              refine takeK 1 rfl (by kernel_rfl) (by kernel_rfl) (by kernel_rfl) rfl (fun _ _ _ _ h => h) rfl (fun K hK => ?_)
              refine quiet_agg 44 (.tmp 3) rfl _ rfl TB _ Try.underlying44 rfl HTS.out (fun W' h => KeepB.cells h HTC.out (by have := HWO.out; show w.heap.size < wo.heap.size; omega)) ?_
              refine hK _ ?_
              simp only [Act.put, List.setIfInBounds_toArray, List.set_cons_succ, List.set_cons_zero]
              clear hK K
              refine takeK 2 rfl (by kernel_rfl) (by kernel_rfl) (by kernel_rfl) rfl (fun _ _ _ _ h => h) rfl (fun K hK => ?_)
              go_big_quiet_op
              first | refine hK _ ?_ | refine ⟨_, fun _ _ => rfl, hK _ ?_⟩
              clear hK K
              refine takeK 3 rfl (by kernel_rfl) (by kernel_rfl) (by kernel_rfl) rfl (fun _ _ _ _ h => h) rfl (fun K hK => ?_)
              go_big_quiet_op
              first | refine hK _ ?_ | refine ⟨_, fun _ _ => rfl, hK _ ?_⟩
              clear hK K
              refine takeK 4 rfl (by kernel_rfl) (by kernel_rfl) (by kernel_rfl) rfl (fun _ _ _ _ h => h) rfl (fun K hK => ?_)
              go_big_quiet_op
              first | refine hK _ ?_ | refine ⟨_, fun _ _ => rfl, hK _ ?_⟩
              clear hK K
              refine takeK 5 rfl (by kernel_rfl) (by kernel_rfl) (by kernel_rfl) rfl (fun _ _ _ _ h => h) rfl (fun K hK => ?_)
              go_big_quiet_op
              first | refine hK _ ?_ | refine ⟨_, fun _ _ => rfl, hK _ ?_⟩
              clear hK K
              refine takeK 6 rfl (by kernel_rfl) (by kernel_rfl) (by kernel_rfl) rfl (fun _ _ _ _ h => h) rfl (fun K hK => ?_)
              go_big_quiet_op
              first | refine hK _ ?_ | refine ⟨_, fun _ _ => rfl, hK _ ?_⟩
              clear hK K
              refine takeK 7 rfl (by kernel_rfl) (by kernel_rfl) (by kernel_rfl) rfl (fun _ _ _ _ h => h) rfl (fun K hK => ?_)
              go_big_quiet_op
              first | refine hK _ ?_ | refine ⟨_, fun _ _ => rfl, hK _ ?_⟩
              clear hK K
              refine takeK 8 rfl (by kernel_rfl) (by kernel_rfl) (by kernel_rfl) rfl (fun _ _ _ _ h => h) rfl (fun K hK => ?_)
              go_big_quiet_op
              first | refine hK _ ?_ | refine ⟨_, fun _ _ => rfl, hK _ ?_⟩
              clear hK K
              refine takeK 9 rfl (by kernel_rfl) (by kernel_rfl) (by kernel_rfl) rfl (fun _ _ _ _ h => h) rfl (fun K hK => ?_)
              go_big_quiet_op
              first | refine hK _ ?_ | refine ⟨_, fun _ _ => rfl, hK _ ?_⟩
              clear hK K
              refine takeK 10 rfl (by kernel_rfl) (by kernel_rfl) (by kernel_rfl) rfl (fun _ _ _ _ h => h) rfl (fun K hK => ?_)
              go_big_quiet_op
              first | refine hK _ ?_ | refine ⟨_, fun _ _ => rfl, hK _ ?_⟩
              clear hK K
              refine stepM 11 rfl (by kernel_rfl) rfl (fun K hK => ?_)
              go_simp
              refine hK _ _ (fun b hb => ((Ext.refl _).alloc _).block b (Nat.lt_of_lt_of_le hb HX3.out.size) (by simp)) ?_
              clear hK K
              refine stepM 12 rfl (by kernel_rfl) rfl (fun K hK => ?_)
              go_simp
              obtain ⟨F2, hp2, hf2⟩ := two_parts (T := 62) HS1.out.1 HS1.out.2 HS2.out.1 HS2.out.2
              refine (HFOR.out _ _ F2 hp2 hf2).mono ?_
              rintro e w6 ⟨rfl, hx6⟩
              refine hK _ _ (fun b hb => hx6.block b (Nat.lt_of_lt_of_le hb (Nat.le_trans HX3.out.size (by simp))) (by simp)) ?_
              clear hK K
              refine stepM 13 rfl (by kernel_rfl) rfl (fun K hK => ?_)
              refine wp_one w6 28 (.tmp 49) rfl 31 Y Try.underlying28 rfl (szEbFrom05 HYL.out) zEbFrom05 (by rw [HYL.out]; decide) (by rw [HYL.out]; decide) ?_
              refine hK _ _ (fun b hb => ((Ext.refl w6).alloc _).block b (Nat.lt_of_lt_of_le hb (Nat.le_trans HX3.out.size (Nat.le_trans (by simp) hx6.size))) (by simp)) ?_
              clear hK K
              (try simp only [Act.put, List.setIfInBounds_toArray, List.set_cons_succ, List.set_cons_zero])
              refine stepM 14 rfl (by kernel_rfl) rfl (fun K hK => ?_)
              refine wp_app _ (.tmp 37) (.tmp 50) _ _ rfl 31 31 i1 z1 32 32 Try.underlying28 Try.underlying28 hi1 hz1 hi2 hi3 hi4 (by decide) u10 _ _ rfl (((HOW.out.ext ((Ext.refl w0).alloc _)).ext hx6).ext ((Ext.refl w6).alloc _)) _ 1 1 Y rfl (by rw [HYL.out]) (src_at rfl Y _ 1) hyo (by have := HL.out; unfold maxLen; omega) (by have := HL.out; omega) ?_
              intro v7 w7 ho7 hm7
              obtain ⟨A7, c7, hv7⟩ := Own.form ho7
              subst hv7
              refine hK _ _ (fun b hb => hm7.grown.block b (by have hb2 : b < wo.heap.size := hb; have h1 := HX3.out.size; have h2 := hx6.size; simp at h2 ⊢; omega) (fun e => by have h9 := HFAR.out b e.symm; omega)) ?_
              clear hK K
              (try simp only [Act.put, List.setIfInBounds_toArray, List.set_cons_succ, List.set_cons_zero])
              refine takeK 15 rfl (by kernel_rfl) (by kernel_rfl) (by kernel_rfl) rfl (fun _ _ _ _ h => h) rfl (fun K hK => ?_)
              go_big_quiet_op
              first | refine hK _ ?_ | refine ⟨_, fun _ _ => rfl, hK _ ?_⟩
              clear hK K
              refine doneM (by kernel_rfl) ?_ _
              have far7 : ∀ b, (Value.slice A7 (i + 1) c7).ownBlock = some b → wo.heap.size ≤ b := fun b hb => by
                rcases hm7.at_ with e | hn
                · exact HFAR.out b (e.symm.trans hb)
                · have h1 := hn b hb
                  have h2 := HX3.out.size
                  have h3 := hx6.size
                  simp at h1 h3
                  omega
              have hx9 : Ext wo w7 := grown_then (((HX3.out.alloc _).trans hx6).alloc _) hm7.grown (.inr fun x hx => HFAR.out x hx)
              have ho9 : OwnD 31 w7 (.slice A7 (i + 1) c7) ((levM seed n (j + 1)).take (i + 1)) := by
                rw [HUPK.out]
                refine ⟨fun d hd => ?_, ?_⟩
                · rcases List.mem_append.1 hd with hd | hd
                  · exact HOV.out.1 d hd
                  · rw [List.mem_singleton.1 hd]; exact HYD.out
                · have e1 : (((levM seed n (j + 1)).take i) ++ [Yd]).flatMap bv = (((levM seed n (j + 1)).take i)).flatMap bv ++ Y := by rw [HY.out]; simp
                  have e2 : List.length (α := Dg) (((levM seed n (j + 1)).take i) ++ [Yd]) = i + 1 := by rw [List.length_append, HLK.out]; rfl
                  rw [e1, e2]
                  exact ho7
              have HX9 := Lib.hid hx9
              have HO9 := Lib.hid ho9
              have HF9 := Lib.hid far7
              clear hx9 ho9 far7 hm7 ho7 hx6
              (try simp only [Exit.inBlock, Exit.then])
              go_wp2_with fail
              go_roundw
              case rel => exact ⟨i + 1, p + 2, by omega, Lib.hid (by rw [hp.out]; omega), by go_num, HX9.out, HO9.out, HF9.out⟩
              case measure => simp [intOf]; omega
            · obtain rfl : i = L := by omega
              have hpe : p = LL := by rw [hp.out, HLLE.out]
              subst hpe
              have htk : (levM seed n (j + 1)).take i = levM seed n (j + 1) := List.take_of_length_le (by rw [HUL.out]; exact Nat.le_refl _)
              rw [htk] at hov
              obtain ⟨A9, c9, hv9⟩ := hov.2.form
              rw [HUL.out] at hv9
              subst hv9
              obtain ⟨i2, z2, hq1, hq2, hq3, hq4, hq5⟩ := partsRowR
              have hxa : Ext wo (wr.alloc (.cells #[Value.slice A9 i c9] 28)) := hx.alloc _
              have hro6 := HRO.out.ext hxa
              obtain ⟨vals, hown, hvals⟩ := hro6.own
              have hlen : ((levsM seed n).take (j + 1)).length = j + 1 := by simp [levsM]; omega
              rw [hlen] at hown
              have HOWN := Lib.hid hown
              have HVALS := Lib.hid hvals
              have HRO6 := Lib.hid hro6
              have HXA := Lib.hid hxa
              have HOV := Lib.hid hov
              have HFAR := Lib.hid hfar
              have HXI := Lib.hid hx
              clear hown hvals hro6 hxa hov hfar htk hlen hx
              go_wp2_with (first
                | ((with_reducible refine wpDst 56 rfl ?_)
                   go_must (refine wpList_app _ rfl (.tmp 53) (.tmp 55) _ _ rfl 28 28 i2 z2 1 24 Try.underlying64 Try.underlying64 hq1 hq2 hq3 hq4 hq5 (by decide) u9 _ _ rfl HOWN.out _ 1 1 [Value.slice A9 i c9] rfl rfl (src_at rfl [Value.slice A9 i c9] _ 1) (by simp [Value.oneCell']) (by unfold maxLen; omega) (by omega) ?_)
                   intro v7 w7 ho7 hm7
                   obtain ⟨A7, c7, hv7⟩ := Own.form ho7
                   subst hv7
                   have HM7 := Lib.hid hm7
                   have HO7 := Lib.hid ho7
                   clear hm7 ho7)
                | fail)
              have hnv : ∀ b, (Value.slice A9 i c9).ownBlock = some b → W.heap.size ≤ b ∧ b < (wr.alloc (.cells #[Value.slice A9 i c9] 28)).heap.size ∧ u9.ownBlock ≠ some b := fun b hb => by
                have h1 := HFAR.out b hb
                have h2 := HOV.out.lt b hb
                have h3 := HX.out.size
                refine ⟨by omega, by simp; omega, fun e => ?_⟩
                have h4 := World.ownsRow.lt HRO.out.own.choose_spec.1 b e
                have h5 := h4.2
                omega
              have hro7 := HRO6.out.app HM7.out HVALS.out (by rw [show ((levsM seed n).take (j + 1)).length = j + 1 by simp [levsM]; omega]; exact HO7.out) ((HOV.out.ext ((Ext.refl wr).alloc (.cells #[Value.slice A9 i c9] 28))).holds) hnv (by have h1 := HX.out.size; have h2 := HXI.out.size; simp; omega)
              rw [← levs_succ seed n j hjn] at hro7
              have hwy7 : Ways w7 (fun b => Fr b ∨ (Value.slice A9 i c9).ownBlock = some b) (.slice A9 i c9) (levM seed n (j + 1)) :=
                Ty.keep (t := .sl DigT) (fun b hb => HM7.out.grown.block b (hnv b hb).2.1 (fun e => (hnv b hb).2.2 e.symm)) (fun _ h => .inr h) ((HOV.out.ext ((Ext.refl wr).alloc (.cells #[Value.slice A9 i c9] 28))).holds)
              have hx8 : Ext W w7 := grown_then (HX.out.trans HXA.out) HM7.out.grown (.inr fun b hb => by have h1 := HRO6.out.rb b hb; omega)
              have HRO8 := Lib.hid hro7
              have HWY8 := Lib.hid hwy7
              have HX8 := Lib.hid hx8
              clear hnv hro7 hwy7 hx8
              go_roundw
              case rel => exact ⟨j + 1, _, _, by omega, rfl, HWY8.out, HX8.out, HRO8.out, ⟨_, rfl⟩, _, rfl⟩
              case measure => simp [lenOf]; have := HLLE.out; omega
        · obtain rfl : j = n := by omega
          rw [Nat.sub_self, Nat.pow_zero] at hlj
          rw [hlj]
          have hls : (levsM seed j).take (j + 1) = levsM seed j := List.take_of_length_le (by simp [levsM])
          rw [hls] at hro
          have hrl : ∀ b, u9.ownBlock = some b → b < wo.heap.size := fun b hb => (World.ownsRow.lt hro.own.choose_spec.1 b hb).2
          have hwz := HWZ.out
          have hall : ∀ b, (Fr b ∨ u9.ownBlock = some b) → w.heap.size ≤ b ∧ b < wo.heap.size := fun b hb => by
            rcases hb with hb | hb
            · have := hro.fr b hb; omega
            · have := hro.rb b hb; have := hrl b hb; omega
          have HHO := Lib.hid hro.holds
          have HALL := Lib.hid hall
          have HX := Lib.hid (HX0.out.trans hx)
          clear hall hx hro hwy hls hrl hfrl hallj hcj hwz
          go_wp2_with fail
          go_ret
          exact ⟨u9, _, rfl, HHO.out, HX.out, HALL.out⟩
end
end Go.Proofs.Ytpdkmapogncgmaa

/- Walks and plain laws, put together in build order. Conditions: what each of them names. -/
import Derived.Test.YtfoomnibfibfnaaWe52d91ca65
set_option linter.unusedVariables false
set_option linter.unusedSimpArgs false
set_option linter.unnecessarySimpa false
namespace Go.Proofs.Ytfoomnibfibfnaa
section
open Go.RowKit

theorem rsig_zero : (Try.prog.info? 38).bind (fun i => i.zero.map (·.cells)) = some (List.replicate 1024 (Value.int .u8 0)).toArray := by kernel_rfl
set_option maxRecDepth 100000 in
set_option maxHeartbeats 4000000 in
theorem RSign (seed : List UInt8) (hs : seed.length = 32) (n : Nat) (hn : n < 4294967296) (d : List UInt8) (hd : d.length = 32) (w : World) :
    Calls Try.prog 15 #[.agg tabsC.toArray, .agg (bv seed).toArray, .int .u32 (n : Int), .agg (bv d).toArray] w fun e w' => e = .returned (.agg (bv (signM seed n d)).toArray) ∧ Ext w w' := by
  obtain ⟨Z, hz, hzl, hzo⟩ : ∃ Z : List Value, (Try.prog.info? 38).bind (fun i => i.zero.map (·.cells)) = some Z.toArray ∧ Z.length = 1024 ∧ ∀ u ∈ Z, u.oneCell' = true := ⟨_, rsig_zero, List.length_replicate, fun u hu => by rw [List.eq_of_mem_replicate hu]; rfl⟩
  have hC : (bv (signM seed n d)).length = 1024 := by rw [bv_length, signM_length]
  have hone := bv_one (signM seed n d)
  have hop := fun k (h : k < 32) => sign_open seed n d h
  have hot := fun k (h : k < 32) => sign_other seed n d h
  have hdl : (bv d).length = 32 := by rw [bv_length]; exact hd
  have hsl : (bv seed).length = 32 := by rw [bv_length]; exact hs
  have hsec := fun (k : Nat) (hk : k < 32) (bt : Nat) (hbt : bt < 2) W => RSecret seed hs n hn k hk bt hbt W
  have hcov := fun (p : List UInt8) (hp : p.length = 16) W => RCover p hp W
  have hbit := fun (k : Nat) (hk : k < 32) W => RBit d hd k hk W
  have hts : (Try.prog.info? 25).map (·.size) = some tabsC.length := tabs_size rfl
  generalize tabsC = TB at *
  generalize bv (signM seed n d) = C at *
  have hb0 : Blk (((((w.alloc (.cells TB.toArray 25)).alloc (.cells (bv seed).toArray 22)).alloc (.cells (bv d).toArray 22)).alloc (.cells Z.toArray 38)).alloc (.cells Z.toArray 38)) w.heap.size 25 TB := ((((Blk.new _ _ _).keep ((Ext.refl _).alloc _) (by simp)).keep ((Ext.refl _).alloc _) (by simp)).keep ((Ext.refl _).alloc _) (by simp)).keep ((Ext.refl _).alloc _) (by simp)
  have hb1 : Blk (((((w.alloc (.cells TB.toArray 25)).alloc (.cells (bv seed).toArray 22)).alloc (.cells (bv d).toArray 22)).alloc (.cells Z.toArray 38)).alloc (.cells Z.toArray 38)) (w.heap.size + 1) 22 (bv seed) := (((Blk.fresh (by simp) _ _).keep ((Ext.refl _).alloc _) (by simp)).keep ((Ext.refl _).alloc _) (by simp)).keep ((Ext.refl _).alloc _) (by simp)
  have hb2 : Blk (((((w.alloc (.cells TB.toArray 25)).alloc (.cells (bv seed).toArray 22)).alloc (.cells (bv d).toArray 22)).alloc (.cells Z.toArray 38)).alloc (.cells Z.toArray 38)) (w.heap.size + 1 + 1) 22 (bv d) := ((Blk.fresh (by simp) _ _).keep ((Ext.refl _).alloc _) (by simp)).keep ((Ext.refl _).alloc _) (by simp)
  have hb3 : Blk (((((w.alloc (.cells TB.toArray 25)).alloc (.cells (bv seed).toArray 22)).alloc (.cells (bv d).toArray 22)).alloc (.cells Z.toArray 38)).alloc (.cells Z.toArray 38)) (w.heap.size + 1 + 1 + 1) 38 Z := (Blk.fresh (by simp) _ _).keep ((Ext.refl _).alloc _) (by simp)
  have hb4 : Blk (((((w.alloc (.cells TB.toArray 25)).alloc (.cells (bv seed).toArray 22)).alloc (.cells (bv d).toArray 22)).alloc (.cells Z.toArray 38)).alloc (.cells Z.toArray 38)) (w.heap.size + 1 + 1 + 1 + 1) 38 Z := Blk.fresh (by simp) _ _
  have hx0 : Ext w (((((w.alloc (.cells TB.toArray 25)).alloc (.cells (bv seed).toArray 22)).alloc (.cells (bv d).toArray 22)).alloc (.cells Z.toArray 38)).alloc (.cells Z.toArray 38)) := (((((Ext.refl w).alloc _).alloc _).alloc _).alloc _).alloc _
  generalize bv d = DC at *
  generalize bv seed = SC at *
  have HB0 := Lib.hid hb0
  have HB1 := Lib.hid hb1
  have HB2 := Lib.hid hb2
  have HB3 := Lib.hid hb3
  have HB4 := Lib.hid hb4
  have HX0 := Lib.hid hx0
  have HCL := Lib.hid hC
  have HZL := Lib.hid hzl
  have HDL := Lib.hid hdl
  have HSL := Lib.hid hsl
  have HOP := Lib.hid hop
  have HOT := Lib.hid hot
  have HSEC := Lib.hid hsec
  have HCOV := Lib.hid hcov
  have HBIT := Lib.hid hbit
  have HTS := Lib.hid hts
  clear hb0 hb1 hb2 hb3 hb4 hx0 hC hzl hdl hsl hop hot hsec hcov hbit hts
  go_enter Try.func15, Try.ntmps15
  go_wp2_with (first
    | (refine wpList_alloc _ rfl 38 rfl _ hz ?_)
    | fail)
  go_loopw [10, 11] (fun i q wr => ∃ k : Nat, k ≤ 32 ∧ i = .int .i64 k ∧ Ext w wr ∧ Blk wr w.heap.size 25 TB ∧ Blk wr (w.heap.size + 1) 22 SC ∧ Blk wr (w.heap.size + 1 + 1) 22 DC ∧ Blk wr (w.heap.size + 1 + 1 + 1) 38 Z ∧ Blk wr (w.heap.size + 1 + 1 + 1 + 1) 38 (mixAt C Z k)) (fun i _ _ => 32 - (intOf i).toNat)
  case atStart => exact ⟨0, by omega, rfl, HX0.out, HB0.out, HB1.out, HB2.out, HB3.out, by rw [mixAt_zero C Z HCL.out HZL.out]; exact HB4.out⟩
  case round =>
    clear HX0 HB0 HB1 HB2 HB3 HB4
    obtain ⟨k, hk, rfl, hx, hb0, hb1, hb2, hb3, hb4⟩ := hrel
    by_cases hlt : k < 32
    · have hcd := hb2.cells
      have hbl := bitM_lt d k
      have hp1 : (bv (openM seed n d k)).length = 16 := by rw [bv_length]; exact secretM_length _ _ _ _
      have hp2 : (bv (otherM seed n d k)).length = 16 := by rw [bv_length]; exact coverM_length _
      have ho1 := bv_one (openM seed n d k)
      have ho2 := bv_one (otherM seed n d k)
      have hst := mixAt_step C Z HCL.out HZL.out k hlt
      rw [HOP.out k hlt, HOT.out k hlt] at hst
      have hsc := fun W => HSEC.out k hlt (bitM d k) hbl W
      have hsc2 := fun W => HSEC.out k hlt (1 - bitM d k) (by omega) W
      have hcv := fun W => HCOV.out (secretM seed n k (1 - bitM d k)) (secretM_length _ _ _ _) W
      have e1 : secretM seed n k (bitM d k) = openM seed n d k := rfl
      have e2 : coverM (secretM seed n k (1 - bitM d k)) = otherM seed n d k := rfl
      rw [e1] at hsc
      rw [e2] at hcv
      have hbt := fun W => HBIT.out k hlt W
      have hbc : bitM d k + (1 - bitM d k) = 1 := by omega
      generalize bv (secretM seed n k (1 - bitM d k)) = S2 at *
      generalize 1 - bitM d k = c at *
      generalize bitM d k = b at *
      generalize bv (openM seed n d k) = P1 at *
      generalize bv (otherM seed n d k) = P2 at *
      have HX := Lib.hid hx
      have HB0r := Lib.hid hb0
      have HB1r := Lib.hid hb1
      have HB2r := Lib.hid hb2
      have HB3r := Lib.hid hb3
      have HB4r := Lib.hid hb4
      have HP1 := Lib.hid hp1
      have HP2 := Lib.hid hp2
      have HST := Lib.hid hst
      have HSC := Lib.hid hsc
      have HSC2 := Lib.hid hsc2
      have HCV := Lib.hid hcv
      have HBT := Lib.hid hbt
      have HBC := Lib.hid hbc
      have HWR : Hid (IntKind.i64.wrap (1 - (b : Int)) = (c : Int)) := Lib.hid (by simp [IntKind.wrap, IntKind.bits, IntKind.signed]; omega)
      clear hx hb0 hb1 hb2 hb3 hb4 hp1 hp2 hst hsc hsc2 hcv hbt hbl hbc e1 e2
      go_wp2_with (first
        | (refine wpList_load_agg _ rfl 22 (.tmp 7) rfl _ rfl DC _ Try.underlying22 rfl (arr_size HDL.out) hcd ?_)
        | (go_at_call 19; refine (HBT.out _).mono ?_; rintro e w1 ⟨rfl, hx1⟩; have hk0 := (HB0r.out.keep hx1 (by simp)).cells; have hk1 := (HB1r.out.keep hx1 (by simp)).cells)
        | (refine wpList_load_agg _ rfl 25 (.tmp 4) rfl _ rfl TB _ Try.underlying25 rfl HTS.out hk0 ?_)
        | (refine wpList_load_agg _ rfl 22 (.tmp 5) rfl _ rfl SC _ Try.underlying22 rfl (arr_size HSL.out) hk1 ?_)
        | fail)
      refine (HSC.out _).mono ?_
      rintro e w2 ⟨rfl, hx2⟩
      have hx12 := hx1.trans hx2
      have hm2 : w2.heap[w.heap.size + 1 + 1 + 1 + 1]? = some (.cells (mixAt C Z k).toArray 38 (0, 0)) := HB4r.out.keep hx12 (by simp)
      have kk : ∀ {g : Nat} {t : TypeId} {cs : List Value}, Blk wr g t cs → g < w.heap.size + 1 + 1 + 1 + 1 → Blk (w2.setRow (w.heap.size + 1 + 1 + 1 + 1) (putAt (mixAt C Z k) (k * 16) P1).toArray).drew g t cs := fun h hg => ((h.keep hx12 (by simp)).keep (setRow_only _) (by simp; omega)).keep (Ext.refl _).drew (by simp)
      have HB0 := Lib.hid (kk HB0r.out (by omega))
      have HB1 := Lib.hid (kk HB1r.out (by omega))
      have HB2 := Lib.hid (kk HB2r.out (by omega))
      have HB3 := Lib.hid (kk HB3r.out (by omega))
      have HB4 : Hid (Blk (w2.setRow (w.heap.size + 1 + 1 + 1 + 1) (putAt (mixAt C Z k) (k * 16) P1).toArray).drew (w.heap.size + 1 + 1 + 1 + 1) 38 (putAt (mixAt C Z k) (k * 16) P1)) := Lib.hid (Blk.keep (t := 38) (setRow_at hm2) (Ext.refl _).drew (by simp))
      have HX3 : Hid (Ext w (w2.setRow (w.heap.size + 1 + 1 + 1 + 1) (putAt (mixAt C Z k) (k * 16) P1).toArray).drew) := Lib.hid ((setRow_grown (HX.out.trans hx12) _ _ (by omega)).trans (Ext.refl _).drew)
      clear hx1 hx2 hx12 hcd hk0 hk1 kk HB0r HB1r HB2r HB3r HB4r
      go_wp2_with (first
        | (refine wpList_store_part _ rfl 35 (.tmp 27) (.tmp 25) rfl (w.heap.size + 1 + 1 + 1 + 1) (k * 16) rfl (mixAt C Z k) P1 _ rfl hm2 (rpiece_size HP1.out) (by rw [mixAt_len, HP1.out]; omega) ho1 ?_)
        | fail)
      clear hm2
      generalize (w2.setRow (w.heap.size + 1 + 1 + 1 + 1) (putAt (mixAt C Z k) (k * 16) P1).toArray) = V at *
      generalize hg : w.heap.size + 1 + 1 + 1 + 1 = g at *
      have HG := Lib.hid hg
      have hdk : decide ((k : Int) < 32) = true := by rw [decide_eq_true_iff]; omega
      (try simp only [hdk])
      clear hg hdk
      refine stab_store Ext ext_refl ext_trans [[0], [1], [2], [3], [4], [5], [6], [6, 7], [2, 3, 4, 5, 6, 7, 8], [1, 2, 3, 4, 5, 6, 7, 8, 9], [10], [0, 1, 2, 3, 4, 5, 6, 7, 8, 9, 10, 11], [0, 1, 2, 3, 4, 5, 6, 7, 8, 9, 10, 11, 12]] (fun i v wv => match i with | 0 => v = .int .i64 (k : Int) | 1 => v = .agg TB.toArray | 2 => v = .agg TB.toArray | 3 => v = .agg SC.toArray | 4 => v = .int .u32 (n : Int) | 5 => v = .int .i64 (k : Int) | 6 => v = .int .i64 (b : Int) | 7 => v = .int .i64 (c : Int) | 8 => v = .agg S2.toArray | 9 => v = .agg P2.toArray | 10 => v = .pointer (some ⟨g, 512, none⟩) | 11 => v = .pointer (some ⟨g, 512 + k * 16, none⟩) | _ => True) (by kernel_rfl) (by kernel_rfl) (by kernel_rfl) (by kernel_rfl) (by simp) ?_ ?_ ?_
      · intro i v w1 w2 h hx
        match i, h with
        | 0, h => exact h
        | 1, h => exact h
        | 2, h => exact h
        | 3, h => exact h
        | 4, h => exact h
        | 5, h => exact h
        | 6, h => exact h
        | 7, h => exact h
        | 8, h => exact h
        | 9, h => exact h
        | 10, h => exact h
        | 11, h => exact h
        | i + 12, h => trivial
      · intro i hi o ho
        match i, hi, ho with
        | 0, _, ho =>
          obtain rfl := Option.some.inj ho
          intro s W hX hd K hK
          rw [if_pos (wanted_plain rfl)]
          clear hd
          replace hK : ∀ (v : Value) (W' : World), Ext W W' → (v = .int .i64 (k : Int)) → _ := hK
          simp only [mkOf, List.map_cons, List.map_nil, Act.put, List.setIfInBounds_toArray, List.set_cons_succ, List.set_cons_zero, Nat.reduceAdd, Nat.zero_add] at hK ⊢
          go_simp
          exact hK _ _ (Ext.refl _) rfl
        | 1, _, ho =>
          obtain rfl := Option.some.inj ho
          intro s W hX hd K hK
          rw [if_pos (wanted_plain rfl)]
          clear hd
          replace hK : ∀ (v : Value) (W' : World), Ext W W' → (v = .agg TB.toArray) → _ := hK
          simp only [mkOf, List.map_cons, List.map_nil, Act.put, List.setIfInBounds_toArray, List.set_cons_succ, List.set_cons_zero, Nat.reduceAdd, Nat.zero_add] at hK ⊢
          refine wp_load_agg 25 (.tmp 4) rfl _ rfl TB _ Try.underlying25 rfl (HTS.out) (HB0.out.keep hX (by simp)).cells ?_
          exact hK _ _ (Ext.refl _) rfl
        | 2, _, ho =>
          obtain rfl := Option.some.inj ho
          intro s W hX hd K hK
          rw [if_pos (wanted_plain rfl)]
          clear hd
          replace hK : ∀ (v : Value) (W' : World), Ext W W' → (v = .agg TB.toArray) → _ := hK
          simp only [mkOf, List.map_cons, List.map_nil, Act.put, List.setIfInBounds_toArray, List.set_cons_succ, List.set_cons_zero, Nat.reduceAdd, Nat.zero_add] at hK ⊢
          refine wp_load_agg 25 (.tmp 4) rfl _ rfl TB _ Try.underlying25 rfl (HTS.out) (HB0.out.keep hX (by simp)).cells ?_
          exact hK _ _ (Ext.refl _) rfl
        | 3, _, ho =>
          obtain rfl := Option.some.inj ho
          intro s W hX hd K hK
          rw [if_pos (wanted_plain rfl)]
          clear hd
          replace hK : ∀ (v : Value) (W' : World), Ext W W' → (v = .agg SC.toArray) → _ := hK
          simp only [mkOf, List.map_cons, List.map_nil, Act.put, List.setIfInBounds_toArray, List.set_cons_succ, List.set_cons_zero, Nat.reduceAdd, Nat.zero_add] at hK ⊢
          refine wp_load_agg 22 (.tmp 5) rfl _ rfl SC _ Try.underlying22 rfl (arr_size HSL.out) (HB1.out.keep hX (by simp)).cells ?_
          exact hK _ _ (Ext.refl _) rfl
        | 4, _, ho =>
          obtain rfl := Option.some.inj ho
          intro s W hX hd K hK
          rw [if_pos (wanted_plain rfl)]
          clear hd
          replace hK : ∀ (v : Value) (W' : World), Ext W W' → (v = .int .u32 (n : Int)) → _ := hK
          simp only [mkOf, List.map_cons, List.map_nil, Act.put, List.setIfInBounds_toArray, List.set_cons_succ, List.set_cons_zero, Nat.reduceAdd, Nat.zero_add] at hK ⊢
          go_simp
          exact hK _ _ (Ext.refl _) rfl
        | 5, _, ho =>
          obtain rfl := Option.some.inj ho
          intro s W hX hd K hK
          rw [if_pos (wanted_plain rfl)]
          clear hd
          replace hK : ∀ (v : Value) (W' : World), Ext W W' → (v = .int .i64 (k : Int)) → _ := hK
          simp only [mkOf, List.map_cons, List.map_nil, Act.put, List.setIfInBounds_toArray, List.set_cons_succ, List.set_cons_zero, Nat.reduceAdd, Nat.zero_add] at hK ⊢
          go_simp
          exact hK _ _ (Ext.refl _) rfl
        | 6, _, ho =>
          obtain rfl := Option.some.inj ho
          intro s W hX hd K hK
          rw [if_pos (wanted_plain rfl)]
          clear hd
          replace hK : ∀ (v : Value) (W' : World), Ext W W' → (v = .int .i64 (b : Int)) → _ := hK
          simp only [mkOf, List.map_cons, List.map_nil, Act.put, List.setIfInBounds_toArray, List.set_cons_succ, List.set_cons_zero, Nat.reduceAdd, Nat.zero_add] at hK ⊢
          go_simp
          exact hK _ _ (Ext.refl _) rfl
        | 7, _, ho =>
          obtain rfl := Option.some.inj ho
          intro s W hX hd K hK
          rw [if_pos (wanted_plain rfl)]
          have d34 : (s 6) = .int .i64 (b : Int) := hd 6 (by decide) (by decide)
          clear hd
          replace hK : ∀ (v : Value) (W' : World), Ext W W' → (v = .int .i64 (c : Int)) → _ := hK
          simp only [mkOf, List.map_cons, List.map_nil, Act.put, List.setIfInBounds_toArray, List.set_cons_succ, List.set_cons_zero, Nat.reduceAdd, Nat.zero_add] at hK ⊢
          simp only [d34] at hK ⊢
          go_simp
          exact hK _ _ (Ext.refl _) (by rw [HWR.out])
        | 8, _, ho =>
          obtain rfl := Option.some.inj ho
          intro s W hX hd K hK
          rw [if_pos (wanted_plain rfl)]
          have d30 : (s 2) = .agg TB.toArray := hd 2 (by decide) (by decide)
          have d31 : (s 3) = .agg SC.toArray := hd 3 (by decide) (by decide)
          have d32 : (s 4) = .int .u32 (n : Int) := hd 4 (by decide) (by decide)
          have d33 : (s 5) = .int .i64 (k : Int) := hd 5 (by decide) (by decide)
          have d35 : (s 7) = .int .i64 (c : Int) := hd 7 (by decide) (by decide)
          clear hd
          replace hK : ∀ (v : Value) (W' : World), Ext W W' → (v = .agg S2.toArray) → _ := hK
          simp only [mkOf, List.map_cons, List.map_nil, Act.put, List.setIfInBounds_toArray, List.set_cons_succ, List.set_cons_zero, Nat.reduceAdd, Nat.zero_add] at hK ⊢
          simp only [d30, d31, d32, d33, d35] at hK ⊢
          go_simp
          refine (HSC2.out W).mono ?_
          rintro e w' ⟨rfl, hx⟩
          exact hK _ _ hx rfl
        | 9, _, ho =>
          obtain rfl := Option.some.inj ho
          intro s W hX hd K hK
          rw [if_pos (wanted_plain rfl)]
          have d29 : (s 1) = .agg TB.toArray := hd 1 (by decide) (by decide)
          have d36 : (s 8) = .agg S2.toArray := hd 8 (by decide) (by decide)
          clear hd
          replace hK : ∀ (v : Value) (W' : World), Ext W W' → (v = .agg P2.toArray) → _ := hK
          simp only [mkOf, List.map_cons, List.map_nil, Act.put, List.setIfInBounds_toArray, List.set_cons_succ, List.set_cons_zero, Nat.reduceAdd, Nat.zero_add] at hK ⊢
          simp only [d29, d36] at hK ⊢
          go_simp
          refine (HCV.out W).mono ?_
          rintro e w' ⟨rfl, hx⟩
          exact hK _ _ hx rfl
        | 10, _, ho =>
          obtain rfl := Option.some.inj ho
          intro s W hX hd K hK
          rw [if_pos (wanted_plain rfl)]
          clear hd
          replace hK : ∀ (v : Value) (W' : World), Ext W W' → (v = .pointer (some ⟨g, 512, none⟩)) → _ := hK
          simp only [mkOf, List.map_cons, List.map_nil, Act.put, List.setIfInBounds_toArray, List.set_cons_succ, List.set_cons_zero, Nat.reduceAdd, Nat.zero_add] at hK ⊢
          go_simp
          exact hK _ _ (Ext.refl _) rfl
        | 11, _, ho =>
          obtain rfl := Option.some.inj ho
          intro s W hX hd K hK
          rw [if_pos (wanted_plain rfl)]
          have d28 : (s 0) = .int .i64 (k : Int) := hd 0 (by decide) (by decide)
          have d38 : (s 10) = .pointer (some ⟨g, 512, none⟩) := hd 10 (by decide) (by decide)
          clear hd
          replace hK : ∀ (v : Value) (W' : World), Ext W W' → (v = .pointer (some ⟨g, 512 + k * 16, none⟩)) → _ := hK
          simp only [mkOf, List.map_cons, List.map_nil, Act.put, List.setIfInBounds_toArray, List.set_cons_succ, List.set_cons_zero, Nat.reduceAdd, Nat.zero_add] at hK ⊢
          simp only [d28, d38] at hK ⊢
          go_simp
          exact hK _ _ (Ext.refl _) rfl
        | i + 12, hi, _ => exact absurd hi (by simp)
      · intro o ho
        obtain rfl := Option.some.inj ho
        intro s W hX hd K hK
        rw [if_pos (wanted_plain rfl)]
        have d28 : (s 0) = .int .i64 (k : Int) := hd 0 (by decide)
        have d29 : (s 1) = .agg TB.toArray := hd 1 (by decide)
        have d30 : (s 2) = .agg TB.toArray := hd 2 (by decide)
        have d31 : (s 3) = .agg SC.toArray := hd 3 (by decide)
        have d32 : (s 4) = .int .u32 (n : Int) := hd 4 (by decide)
        have d33 : (s 5) = .int .i64 (k : Int) := hd 5 (by decide)
        have d34 : (s 6) = .int .i64 (b : Int) := hd 6 (by decide)
        have d35 : (s 7) = .int .i64 (c : Int) := hd 7 (by decide)
        have d36 : (s 8) = .agg S2.toArray := hd 8 (by decide)
        have d37 : (s 9) = .agg P2.toArray := hd 9 (by decide)
        have d38 : (s 10) = .pointer (some ⟨g, 512, none⟩) := hd 10 (by decide)
        have d39 : (s 11) = .pointer (some ⟨g, 512 + k * 16, none⟩) := hd 11 (by decide)
        clear hd
        simp only [mkOf, List.map_cons, List.map_nil, Act.put, List.setIfInBounds_toArray, List.set_cons_succ, List.set_cons_zero, Nat.reduceAdd, Nat.zero_add]
        refine wp_store_part W 35 (.tmp 39) (.tmp 37) rfl g (512 + k * 16) (by simpa [Act.eval] using d39) (putAt (mixAt C Z k) (k * 16) P1) P2 _ (by simpa [Act.eval] using d37) (HB4.out.keep hX (by simp)) (rpiece_size HP2.out) (by rw [putAt_len (by rw [mixAt_len, HP1.out]; omega), mixAt_len, HP2.out]; omega) ho2 ?_
        refine hK _ _ ?_
        have kk : ∀ {h : Nat} {t : TypeId} {cs : List Value}, Blk V.drew h t cs → h < g → Blk (W.setRow g (putAt (putAt (mixAt C Z k) (k * 16) P1) (512 + k * 16) P2).toArray) h t cs := fun h hg => (h.keep hX (by simp)).keep (setRow_only _) (by simp; omega)
        have hge := HG.out
        have HB90 := Lib.hid (kk HB0.out (by omega))
        have HB91 := Lib.hid (kk HB1.out (by omega))
        have HB92 := Lib.hid (kk HB2.out (by omega))
        have HB93 := Lib.hid (kk HB3.out (by omega))
        have HB94 : Hid (Blk (W.setRow g (putAt (putAt (mixAt C Z k) (k * 16) P1) (512 + k * 16) P2).toArray) g 38 (mixAt C Z (k + 1))) := Lib.hid (by rw [← HST.out]; exact setRow_at (HB4.out.keep hX (by simp)))
        have HX9 : Hid (Ext w (W.setRow g (putAt (putAt (mixAt C Z k) (k * 16) P1) (512 + k * 16) P2).toArray)) := Lib.hid (setRow_grown (HX3.out.trans hX) _ _ (by omega))
        generalize W.setRow g (putAt (putAt (mixAt C Z k) (k * 16) P1) (512 + k * 16) P2).toArray = V2 at *
        subst hge
        clear hX hK kk
        (try simp only [Exit.then])
        go_wp2_with fail
        go_roundw
        case rel => exact ⟨k + 1, by omega, by go_num, HX9.out, HB90.out, HB91.out, HB92.out, HB93.out, HB94.out⟩
        case measure => simp [intOf]; omega
    · obtain rfl : k = 32 := by omega
      rw [mixAt_all C Z HCL.out HZL.out] at hb4
      have hcm := hb4.cells
      have hr2 : wr.heap[w.heap.size + 1 + 1 + 1]? = some (.cells Z.toArray 38 (0, 0)) := hb3
      have HX := Lib.hid hx
      clear hx hb0 hb1 hb2 hb3 hb4
      go_wp2_with (first
        | (refine wpList_load_agg _ rfl 38 (.tmp 9) rfl _ rfl C _ Try.underlying38 rfl (rsig_size HCL.out) hcm ?_)
        | (refine wpList_store_row _ rfl 38 (.tmp 8) (.tmp 40) rfl (w.heap.size + 1 + 1 + 1) rfl Z C _ rfl hr2 (rsig_size HCL.out) (by rw [HCL.out, HZL.out]) hone ?_)
        | fail)
      have hc9 := Blk.cells (t := 38) (setRow_at (cs' := C.toArray) hr2)
      (try simp only [Exit.inBlock, Exit.then])
      refine bodyPost_ret (results_agg rfl _ _ _ _ _ rfl Try.underlying38 rfl (rsig_size HCL.out) hc9) rfl ?_
      exact ⟨rfl, setRow_grown HX.out _ _ (by omega)⟩
end
section
open Go.RowKit

def halfM (seed : List UInt8) (n m : Nat) : List UInt8 := coverM (secretM seed n (m / 2) (m % 2))
theorem half_rows (seed : List UInt8) (n : Nat) : ∀ k, piecesM (halfM seed n) (2 * k) = piecesM (rowM seed n) k
  | 0 => by simp [piecesM]
  | k + 1 => by
    rw [show 2 * (k + 1) = 2 * k + 1 + 1 by omega, piecesM_succ, piecesM_succ, half_rows seed n k, piecesM_succ, List.append_assoc]
    unfold halfM rowM
    rw [show 2 * k / 2 = k by omega, show 2 * k % 2 = 0 by omega, show (2 * k + 1) / 2 = k by omega, show (2 * k + 1) % 2 = 1 by omega]
set_option maxRecDepth 100000 in
set_option maxHeartbeats 8000000 in
theorem RLeaf (seed : List UInt8) (hs : seed.length = 32) (n : Nat) (hn : n < 4294967296) (w : World) :
    Calls Try.prog 12 #[.agg tabsC.toArray, .agg (bv seed).toArray, .int .u32 (n : Int)] w fun e w' => e = .returned (.agg (bv (leafM seed n)).toArray) ∧ Ext w w' := by
  obtain ⟨i0, hi, hz0, hz1, hz2⟩ := info_parts u8_info
  obtain ⟨Z, hz, hzl⟩ : ∃ Z : List Value, (Try.prog.info? 35).bind (fun i => i.zero.map (·.cells)) = some Z.toArray ∧ Z.length = 16 := ⟨_, rpiece_zero, by simp⟩
  obtain ⟨D, hzd, hdl0⟩ : ∃ D : List Value, (Try.prog.info? 22).bind (fun i => i.zero.map (·.cells)) = some D.toArray ∧ D.length = 32 := ⟨_, arr_zero, by simp⟩
  have hsl : (bv seed).length = 32 := by rw [bv_length]; exact hs
  have hpl : ∀ m, (piecesM (halfM seed n) m).length = 16 * m := piecesM_length (f := halfM seed n) (fun _ => coverM_length _)
  have hall : piecesM (halfM seed n) 64 = allM seed n := half_rows seed n 32
  have hsec := fun (k : Nat) (hk : k < 32) (bt : Nat) (hbt : bt < 2) W => RSecret seed hs n hn k hk bt hbt W
  have hcov := fun (p : List UInt8) (hp : p.length = 16) W => RCover p hp W
  have hal : (allM seed n).length = 1024 := piecesM_length (f := rowM seed n) (fun k => rowM_length _ _ _) 32
  have hfor := fun v W F hp2 hF => RFor 2 2 rfl [allM seed n] (by simp [blob, be_length, hal]) v W F hp2 hF
  have hlm : sha (textM 2 [allM seed n]) = leafM seed n := rfl
  rw [hlm] at hfor
  have hrl : (bv (leafM seed n)).length = 32 := by rw [bv_length]; exact leafOf_length _
  have hro := bv_one (leafM seed n)
  have hts : (Try.prog.info? 25).map (·.size) = some tabsC.length := tabs_size rfl
  generalize tabsC = TB at *
  generalize bv (leafM seed n) = R at *
  have hb0 : Blk (((w.alloc (.cells TB.toArray 25)).alloc (.cells (bv seed).toArray 22)).alloc (.cells D.toArray 22)) w.heap.size 25 TB := ((Blk.new _ _ _).keep ((Ext.refl _).alloc _) (by simp)).keep ((Ext.refl _).alloc _) (by simp)
  have hb1 : Blk (((w.alloc (.cells TB.toArray 25)).alloc (.cells (bv seed).toArray 22)).alloc (.cells D.toArray 22)) (w.heap.size + 1) 22 (bv seed) := (Blk.fresh (by simp) _ _).keep ((Ext.refl _).alloc _) (by simp)
  have hb2 : Blk (((w.alloc (.cells TB.toArray 25)).alloc (.cells (bv seed).toArray 22)).alloc (.cells D.toArray 22)) (w.heap.size + 1 + 1) 22 D := Blk.fresh (by simp) _ _
  have hx0 : Ext w (((w.alloc (.cells TB.toArray 25)).alloc (.cells (bv seed).toArray 22)).alloc (.cells D.toArray 22)) := (((Ext.refl w).alloc _).alloc _).alloc _
  generalize bv seed = SC at *
  have HB0 := Lib.hid hb0
  have HB1 := Lib.hid hb1
  have HB2 := Lib.hid hb2
  have HX0 := Lib.hid hx0
  have HSL := Lib.hid hsl
  have HZL := Lib.hid hzl
  have HDL0 := Lib.hid hdl0
  have HPL := Lib.hid hpl
  have HALL := Lib.hid hall
  have HSEC := Lib.hid hsec
  have HCOV := Lib.hid hcov
  have HFOR := Lib.hid hfor
  have HRL := Lib.hid hrl
  have HTS := Lib.hid hts
  clear hb0 hb1 hb2 hx0 hsl hzl hdl0 hpl hall hsec hcov hfor hrl hts hlm hal
  go_enter Try.func12, Try.ntmps12
  go_wp2_with (first
    | (refine wpList_alloc _ rfl 22 rfl _ hzd ?_)
    | fail)
  go_loopw [7, 8, 9, 10] (fun u i j p wr => ∃ k : Nat, k ≤ 32 ∧ i = .int .i64 k ∧ OwnB wr u (piecesM (halfM seed n) (2 * k)) ∧ Ext w wr ∧ Blk wr w.heap.size 25 TB ∧ Blk wr (w.heap.size + 1) 22 SC ∧ Blk wr (w.heap.size + 1 + 1) 22 D ∧ ∀ b, u.ownBlock = some b → w.heap.size + 1 + 1 + 1 ≤ b) (fun _ i _ _ _ => 32 - (intOf i).toNat)
  case atStart => exact ⟨0, by omega, rfl, Own.nil _ _ _, HX0.out, HB0.out, HB1.out, HB2.out, fun b hb => by simp [Value.ownBlock] at hb⟩
  case round =>
    clear HX0 HB0 HB1 HB2
    obtain ⟨k, hk, rfl, hou, hx, hb0, hb1, hb2, hne⟩ := hrel
    obtain ⟨wo, hwo⟩ : ∃ wo, wo = wr := ⟨_, rfl⟩
    by_cases hlt : k < 32
    · subst hwo
      have HO := Lib.hid hou
      have HX := Lib.hid hx
      have HB0 := Lib.hid hb0
      have HB1 := Lib.hid hb1
      have HB2 := Lib.hid hb2
      have HNE := Lib.hid hne
      clear hou hx hb0 hb1 hb2 hne
      go_wp2_with fail
      have hdk0 : decide ((k : Int) < 32) = true := by rw [decide_eq_true_iff]; omega
      (try simp only [hdk0])
      clear hdk0
      go_loopw [7, 9, 10] (fun u i p wr => ∃ j : Nat, j ≤ 2 ∧ i = .int .i64 j ∧ OwnB wr u (piecesM (halfM seed n) (2 * k + j)) ∧ Ext w wr ∧ Blk wr w.heap.size 25 TB ∧ Blk wr (w.heap.size + 1) 22 SC ∧ Blk wr (w.heap.size + 1 + 1) 22 D ∧ ∀ b, u.ownBlock = some b → w.heap.size + 1 + 1 + 1 ≤ b) (fun _ i _ _ => 2 - (intOf i).toNat)
      case atStart => exact ⟨0, by omega, rfl, HO.out, HX.out, HB0.out, HB1.out, HB2.out, HNE.out⟩
      case round =>
        clear HO HX HB0 HB1 HB2 HNE
        obtain ⟨j, hj, rfl, hou, hx, hb0, hb1, hb2, hne⟩ := hrel
        by_cases hlj : j < 2
        · have hsc := fun W => HSEC.out k hlt j hlj W
          have hcv := fun W => HCOV.out (secretM seed n k j) (secretM_length _ _ _ _) W
          have hcl : (bv (coverM (secretM seed n k j))).length = 16 := by rw [bv_length, coverM_length]
          have hco := bv_one (coverM (secretM seed n k j))
          have hst : piecesM (halfM seed n) (2 * k + (j + 1)) = piecesM (halfM seed n) (2 * k + j) ++ coverM (secretM seed n k j) := by
            rw [← Nat.add_assoc, piecesM_succ]
            unfold halfM
            rw [show (2 * k + j) / 2 = k by omega, show (2 * k + j) % 2 = j by omega]
          have hpk := HPL.out (2 * k + j)
          have hcvl := coverM_length (secretM seed n k j)
          generalize bv (secretM seed n k j) = S1 at *
          generalize hcvb : coverM (secretM seed n k j) = CB at *
          generalize hCV : bv CB = CV at *
          have HSC := Lib.hid hsc
          have HCV := Lib.hid hcv
          have HCL := Lib.hid hcl
          have HST := Lib.hid hst
          have HPK := Lib.hid hpk
          have HCVE := Lib.hid hCV
          have HCBL := Lib.hid hcvl
          have HOUr := Lib.hid hou
          have HX := Lib.hid hx
          have HB0 : Hid (Blk wr.drew w.heap.size 25 TB) := Lib.hid hb0
          have HB1 : Hid (Blk wr.drew (w.heap.size + 1) 22 SC) := Lib.hid hb1
          have HB2 : Hid (Blk wr.drew (w.heap.size + 1 + 1) 22 D) := Lib.hid hb2
          have HNE := Lib.hid hne
          have HLTU := Lib.hid (OwnB.lt hou)
          clear hsc hcv hcl hst hpk hCV hcvl hou hx hb0 hb1 hb2 hne hcvb
          go_wp2_with fail
          have hdk : decide ((k : Int) < 32) = true := by rw [decide_eq_true_iff]; omega
          have hdj : decide ((j : Int) < 2) = true := by rw [decide_eq_true_iff]; omega
          (try simp only [hdk])
          (try simp only [hdj])
          clear hdk hdj
          refine stab_store Ext ext_refl ext_trans [[0], [1], [2], [3], [4], [5], [1, 2, 3, 4, 5, 6], [0, 1, 2, 3, 4, 5, 6, 7], [8], [0, 1, 2, 3, 4, 5, 6, 7, 8, 9]] (fun i v wv => match i with | 0 => v = .agg TB.toArray | 1 => v = .agg TB.toArray | 2 => v = .agg SC.toArray | 3 => v = .int .u32 (n : Int) | 4 => v = .int .i64 (k : Int) | 5 => v = .int .i64 (j : Int) | 6 => v = .agg S1.toArray | 7 => v = .agg CV.toArray | 8 => ∃ g, v = .pointer (some ⟨g, 0, none⟩) ∧ wr.heap.size ≤ g ∧ Blk wv g 35 Z | _ => True) (by kernel_rfl) (by kernel_rfl) (by kernel_rfl) (by kernel_rfl) (by simp) ?_ ?_ ?_
          · intro i v w1 w2 h hx
            match i, h with
            | 0, h => exact h
            | 1, h => exact h
            | 2, h => exact h
            | 3, h => exact h
            | 4, h => exact h
            | 5, h => exact h
            | 6, h => exact h
            | 7, h => exact h
            | 8, h =>
              replace h : ∃ g, v = .pointer (some ⟨g, 0, none⟩) ∧ wr.heap.size ≤ g ∧ Blk w1 g 35 Z := h
              show ∃ g, v = .pointer (some ⟨g, 0, none⟩) ∧ wr.heap.size ≤ g ∧ Blk w2 g 35 Z
              obtain ⟨g, h1, h2, h3⟩ := h
              exact ⟨g, h1, h2, h3.keep hx (by simp)⟩
            | i + 9, h => trivial
          · intro i hi o ho
            match i, hi, ho with
            | 0, _, ho =>
              obtain rfl := Option.some.inj ho
              intro s W hX hd K hK
              rw [if_pos (wanted_plain rfl)]
              clear hd
              replace hK : ∀ (v : Value) (W' : World), Ext W W' → (v = .agg TB.toArray) → _ := hK
              simp only [mkOf, List.map_cons, List.map_nil, Act.put, List.setIfInBounds_toArray, List.set_cons_succ, List.set_cons_zero, Nat.reduceAdd, Nat.zero_add] at hK ⊢
              refine wp_load_agg 25 (.tmp 3) rfl _ rfl TB _ Try.underlying25 rfl HTS.out (HB0.out.keep hX (by simp)).cells ?_
              exact hK _ _ (Ext.refl _) rfl
            | 1, _, ho =>
              obtain rfl := Option.some.inj ho
              intro s W hX hd K hK
              rw [if_pos (wanted_plain rfl)]
              clear hd
              replace hK : ∀ (v : Value) (W' : World), Ext W W' → (v = .agg TB.toArray) → _ := hK
              simp only [mkOf, List.map_cons, List.map_nil, Act.put, List.setIfInBounds_toArray, List.set_cons_succ, List.set_cons_zero, Nat.reduceAdd, Nat.zero_add] at hK ⊢
              refine wp_load_agg 25 (.tmp 3) rfl _ rfl TB _ Try.underlying25 rfl HTS.out (HB0.out.keep hX (by simp)).cells ?_
              exact hK _ _ (Ext.refl _) rfl
            | 2, _, ho =>
              obtain rfl := Option.some.inj ho
              intro s W hX hd K hK
              rw [if_pos (wanted_plain rfl)]
              clear hd
              replace hK : ∀ (v : Value) (W' : World), Ext W W' → (v = .agg SC.toArray) → _ := hK
              simp only [mkOf, List.map_cons, List.map_nil, Act.put, List.setIfInBounds_toArray, List.set_cons_succ, List.set_cons_zero, Nat.reduceAdd, Nat.zero_add] at hK ⊢
              refine wp_load_agg 22 (.tmp 4) rfl _ rfl SC _ Try.underlying22 rfl (arr_size HSL.out) (HB1.out.keep hX (by simp)).cells ?_
              exact hK _ _ (Ext.refl _) rfl
            | 3, _, ho =>
              obtain rfl := Option.some.inj ho
              intro s W hX hd K hK
              rw [if_pos (wanted_plain rfl)]
              clear hd
              replace hK : ∀ (v : Value) (W' : World), Ext W W' → (v = .int .u32 (n : Int)) → _ := hK
              simp only [mkOf, List.map_cons, List.map_nil, Act.put, List.setIfInBounds_toArray, List.set_cons_succ, List.set_cons_zero, Nat.reduceAdd, Nat.zero_add] at hK ⊢
              go_simp
              exact hK _ _ (Ext.refl _) rfl
            | 4, _, ho =>
              obtain rfl := Option.some.inj ho
              intro s W hX hd K hK
              rw [if_pos (wanted_plain rfl)]
              clear hd
              replace hK : ∀ (v : Value) (W' : World), Ext W W' → (v = .int .i64 (k : Int)) → _ := hK
              simp only [mkOf, List.map_cons, List.map_nil, Act.put, List.setIfInBounds_toArray, List.set_cons_succ, List.set_cons_zero, Nat.reduceAdd, Nat.zero_add] at hK ⊢
              go_simp
              exact hK _ _ (Ext.refl _) rfl
            | 5, _, ho =>
              obtain rfl := Option.some.inj ho
              intro s W hX hd K hK
              rw [if_pos (wanted_plain rfl)]
              clear hd
              replace hK : ∀ (v : Value) (W' : World), Ext W W' → (v = .int .i64 (j : Int)) → _ := hK
              simp only [mkOf, List.map_cons, List.map_nil, Act.put, List.setIfInBounds_toArray, List.set_cons_succ, List.set_cons_zero, Nat.reduceAdd, Nat.zero_add] at hK ⊢
              go_simp
              exact hK _ _ (Ext.refl _) rfl
            | 6, _, ho =>
              obtain rfl := Option.some.inj ho
              intro s W hX hd K hK
              rw [if_pos (wanted_plain rfl)]
              have d20 : (s 1) = .agg TB.toArray := hd 1 (by decide) (by decide)
              have d21 : (s 2) = .agg SC.toArray := hd 2 (by decide) (by decide)
              have d22 : (s 3) = .int .u32 (n : Int) := hd 3 (by decide) (by decide)
              have d23 : (s 4) = .int .i64 (k : Int) := hd 4 (by decide) (by decide)
              have d24 : (s 5) = .int .i64 (j : Int) := hd 5 (by decide) (by decide)
              clear hd
              replace hK : ∀ (v : Value) (W' : World), Ext W W' → (v = .agg S1.toArray) → _ := hK
              simp only [mkOf, List.map_cons, List.map_nil, Act.put, List.setIfInBounds_toArray, List.set_cons_succ, List.set_cons_zero, Nat.reduceAdd, Nat.zero_add] at hK ⊢
              simp only [d20, d21, d22, d23, d24] at hK ⊢
              go_simp
              refine (HSC.out W).mono ?_
              rintro e w' ⟨rfl, hx⟩
              exact hK _ _ hx rfl
            | 7, _, ho =>
              obtain rfl := Option.some.inj ho
              intro s W hX hd K hK
              rw [if_pos (wanted_plain rfl)]
              have d19 : (s 0) = .agg TB.toArray := hd 0 (by decide) (by decide)
              have d25 : (s 6) = .agg S1.toArray := hd 6 (by decide) (by decide)
              clear hd
              replace hK : ∀ (v : Value) (W' : World), Ext W W' → (v = .agg CV.toArray) → _ := hK
              simp only [mkOf, List.map_cons, List.map_nil, Act.put, List.setIfInBounds_toArray, List.set_cons_succ, List.set_cons_zero, Nat.reduceAdd, Nat.zero_add] at hK ⊢
              simp only [d19, d25] at hK ⊢
              go_simp
              refine (HCV.out W).mono ?_
              rintro e w' ⟨rfl, hx⟩
              exact hK _ _ hx rfl
            | 8, _, ho =>
              obtain rfl := Option.some.inj ho
              intro s W hX hd K hK
              rw [if_pos (wanted_plain rfl)]
              clear hd
              replace hK : ∀ (v : Value) (W' : World), Ext W W' → (∃ g, v = .pointer (some ⟨g, 0, none⟩) ∧ wr.heap.size ≤ g ∧ Blk W' g 35 Z) → _ := hK
              simp only [mkOf, List.map_cons, List.map_nil, Act.put, List.setIfInBounds_toArray, List.set_cons_succ, List.set_cons_zero, Nat.reduceAdd, Nat.zero_add] at hK ⊢
              refine wp_alloc_agg 35 rfl Z hz ?_
              exact hK _ _ ((Ext.refl _).alloc _) ⟨_, rfl, by have := hX.size; simpa using this, Blk.new _ _ _⟩
            | i + 9, hi, _ => exact absurd hi (by simp)
          · intro o ho
            obtain rfl := Option.some.inj ho
            intro s W hX hd K hK
            rw [if_pos (wanted_plain rfl)]
            have d19 : (s 0) = .agg TB.toArray := hd 0 (by decide)
            have d20 : (s 1) = .agg TB.toArray := hd 1 (by decide)
            have d21 : (s 2) = .agg SC.toArray := hd 2 (by decide)
            have d22 : (s 3) = .int .u32 (n : Int) := hd 3 (by decide)
            have d23 : (s 4) = .int .i64 (k : Int) := hd 4 (by decide)
            have d24 : (s 5) = .int .i64 (j : Int) := hd 5 (by decide)
            have d25 : (s 6) = .agg S1.toArray := hd 6 (by decide)
            have d26 : (s 7) = .agg CV.toArray := hd 7 (by decide)
            have d10 : ∃ g, (s 8) = .pointer (some ⟨g, 0, none⟩) ∧ wr.heap.size ≤ g ∧ Blk W g 35 Z := hd 8 (by decide)
            clear hd
            simp only [mkOf, List.map_cons, List.map_nil, Act.put, List.setIfInBounds_toArray, List.set_cons_succ, List.set_cons_zero, Nat.reduceAdd, Nat.zero_add]
            obtain ⟨g, hg, hgb, hB⟩ := d10
            rw [hg]
            refine wp_store_row 35 (.tmp 10) (.tmp 26) rfl g rfl Z CV _ (by simpa [Act.eval] using d26) hB (rpiece_size HCL.out) (by rw [HCL.out, HZL.out]) hco ?_
            refine hK _ _ ?_
            have hV : Ext wr (W.setRow g CV.toArray) := setRow_grown ((Ext.refl wr).drew.trans hX) _ _ hgb
            have hgV : Blk (W.setRow g CV.toArray) g 35 CV := setRow_at hB
            generalize W.setRow g CV.toArray = V at *
            have HVX := Lib.hid hV
            have HCG := Lib.hid hgV.cells
            have HOU := Lib.hid (HOUr.out.ext hV)
            clear hK hX hV hgV hB d19 d20 d21 d22 d23 d24 d25 d26
            (try simp only [Exit.then])
            go_wp2_with (first
              | (at_builtin
                 refine wpList_app _ rfl (.tmp 27) (.tmp 28) _ _ rfl 5 5 i0 _ 1 1 Try.underlying55 Try.underlying55 hi hz0 hz1 hz2 rfl (by decide) u7 _ _ rfl HOU.out _ 16 16 CV rfl (by rw [HCL.out]) (fun _ => ⟨_, rfl, HCG.out⟩) hco (by rw [HPK.out]; unfold maxLen; omega) (by rw [HPK.out]; omega) ?_
                 intro v9 w9 ho9 hm9)
              | fail)
            have hfr : ∀ b, u7.ownBlock = some b → w.heap.size ≤ b := fun b hb => by have := HNE.out b hb; omega
            have hx9 : Ext w w9 := grown_then (HX.out.trans HVX.out) hm9.grown (.inr hfr)
            have kk : ∀ {h : Nat} {t : TypeId} {cs : List Value}, Blk wr h t cs → h < w.heap.size + 1 + 1 + 1 → Blk w9 h t cs := fun h hg => (h.keep HVX.out (by simp)).keep hm9.grown (fun e => by have := HNE.out _ e.symm; omega)
            have HB90 := Lib.hid (kk (t := 25) HB0.out (by omega))
            have HB91 := Lib.hid (kk (t := 22) HB1.out (by omega))
            have HB92 := Lib.hid (kk (t := 22) HB2.out (by omega))
            have HN9 : Hid (∀ b, v9.ownBlock = some b → w.heap.size + 1 + 1 + 1 ≤ b) := Lib.hid fun b hb => by
              rcases hm9.at_ with e | hn
              · exact HNE.out b (e.symm.trans hb)
              · have h1 := hn b hb
                have h2 := HVX.out.size
                have h3 := Blk.lt (w := wr) (t := 22) HB2.out
                omega
            have HO9 : Hid (OwnB w9 v9 (piecesM (halfM seed n) (2 * k + (j + 1)))) := Lib.hid (by
              rw [HST.out]
              unfold OwnB
              rw [bv_append, HCVE.out, List.length_append, HCBL.out]
              exact ho9)
            have HX9 := Lib.hid hx9
            clear hx9 kk ho9 hm9 hfr
            go_wp2_with fail
            go_roundw
            case rel => exact ⟨j + 1, by omega, by go_num, HO9.out, HX9.out, HB90.out, HB91.out, HB92.out, HN9.out⟩
            case measure => simp [intOf]; omega
        · obtain rfl : j = 2 := by omega
          have HO9 := Lib.hid hou
          have HX9 := Lib.hid hx
          have HB90 := Lib.hid hb0
          have HB91 := Lib.hid hb1
          have HB92 := Lib.hid hb2
          have HN9 := Lib.hid hne
          clear hou hx hb0 hb1 hb2 hne
          go_wp2_with fail
          go_roundw
          case rel => exact ⟨k + 1, by omega, by go_num, by rw [show 2 * (k + 1) = 2 * k + 2 by omega]; exact HO9.out, HX9.out, HB90.out, HB91.out, HB92.out, HN9.out⟩
          case measure => simp [intOf]; omega
    · obtain rfl : k = 32 := by omega
      rw [show 2 * 32 = 64 from rfl, HALL.out] at hou
      obtain ⟨A, c, hv⟩ := OwnB.form hou
      subst hv
      have h1 := hou.holds
      have hlt1 := OwnB.lt hou
      obtain ⟨F, hp9, hF9⟩ := one_part (T := 55) h1 hlt1
      have hct := hb0.cells
      have HF9 := Lib.hid (HFOR.out _ _ F hp9 hF9)
      have HX := Lib.hid (hx.alloc (.cells #[Value.slice A (allM seed n).length c] 55))
      have HB3 := Lib.hid (hb2.keep ((Ext.refl wr).alloc (.cells #[Value.slice A (allM seed n).length c] 55)) (by simp))
      clear hx hb0 hb1 hb2 hou h1 hlt1 hp9 hF9 hne
      generalize (allM seed n).length = m at *
      clear hwo
      go_wp2_with (first
        | (refine wpList_load_agg _ rfl 25 (.tmp 3) rfl _ rfl TB _ Try.underlying25 rfl HTS.out hct ?_)
        | fail)
      refine (HF9.out).mono ?_
      rintro e w4 ⟨rfl, hx4⟩
      have hr4 : w4.heap[w.heap.size + 1 + 1]? = some (.cells D.toArray 22 (0, 0)) := HB3.out.keep hx4 (by simp)
      have hx5 := HX.out.trans hx4
      go_wp2_with (first
        | (refine wpList_store_row _ rfl 22 (.tmp 6) (.tmp 33) rfl (w.heap.size + 1 + 1) rfl D R _ rfl hr4 (arr_size HRL.out) (by rw [HRL.out, HDL0.out]) hro ?_)
        | fail)
      have hc9 := Blk.cells (t := 22) (setRow_at (cs' := R.toArray) hr4)
      (try simp only [Exit.inBlock, Exit.then])
      refine bodyPost_ret (results_agg rfl _ _ _ _ _ rfl Try.underlying22 rfl (arr_size HRL.out) hc9) rfl ?_
      exact ⟨rfl, setRow_grown hx5 _ _ (by omega)⟩
end
section
open Go.RowKit

def PieceT : Ty := .arr 16 .u8
def SigT : Ty := .st (.pair (.arr 32 PieceT) (.pair (.arr 32 PieceT) .unit))
def DigT4 : Ty := .arr 32 .u8
def zSigC : List Value := bv (List.replicate 1024 0)
def zDigC : List Value := bv (List.replicate 32 0)
theorem agg_cells4 (cs : List Value) : (Value.agg cs.toArray).cells.toList = cs := by simp [Value.cells]
theorem pieces_bytes {w : World} {F : Fp} : ∀ {l : List (List UInt8)} {cs : List Value}, AllH (PieceT.holds w F) cs l → ∃ B : List UInt8, cs = bv B
  | [], _, h => ⟨[], h⟩
  | p :: l, _, h => by
    obtain ⟨c1, c2, rfl, h1, h2⟩ := h
    obtain ⟨B, rfl⟩ := pieces_bytes h2
    exact ⟨p ++ B, by rw [bv_append, AllH.bytes.1 h1.2]⟩
theorem sig_open {w : World} {F : Fp} {cs : List Value} {sg : SigT.Data} (h : SigT.holds w F (Value.agg cs.toArray).cells.toList sg) : ∃ S : List UInt8, cs = bv S ∧ S.length = 1024 := by
  rw [agg_cells4] at h
  have hl := Ty.len SigT h
  obtain ⟨c1, _, rfl, ⟨_, h1⟩, c2, _, rfl, ⟨_, h2⟩, rfl⟩ := h
  obtain ⟨B1, rfl⟩ := pieces_bytes h1
  obtain ⟨B2, rfl⟩ := pieces_bytes h2
  refine ⟨B1 ++ B2, by rw [bv_append, List.append_nil], ?_⟩
  rw [List.append_nil, List.length_append, bv_length, bv_length] at hl
  rw [List.length_append]; exact hl
theorem dig_open {w : World} {F : Fp} {cs : List Value} {d : DigT4.Data} (h : DigT4.holds w F (Value.agg cs.toArray).cells.toList d) : ∃ S : List UInt8, cs = bv S ∧ S.length = 32 := by
  rw [agg_cells4] at h
  exact ⟨d, AllH.bytes.1 h.2, h.1⟩
end
section
open Go.RowKit

def eqvL {α : Type} (f : α → α → Bool) : List α → List α → Bool
  | [], [] => true
  | a :: l, b :: m => f a b && eqvL f l m
  | _, _ => false
def Ty.eqv : (t : Ty) → t.Data → t.Data → Bool
  | .u8, a, b => a == b
  | .nat _, a, b => (a : Nat) == b
  | .int _, a, b => (a : Int) == b
  | .bool, a, b => (a : Bool) == b
  | .str, a, b => a.toList == b.toList
  | .arr _ t, l, m => eqvL t.eqv l m
  | .sl _, _, _ => false
  | .st t, a, b => t.eqv a b
  | .unit, _, _ => true
  | .pair a b, x, y => a.eqv x.1 y.1 && b.eqv x.2 y.2
def Ty.plain : Ty → Bool
  | .arr _ t => t.plain
  | .sl _ => false
  | .st t => t.plain
  | .pair a b => a.plain && b.plain
  | _ => true
theorem eqvL_iff {α : Type} {f : α → α → Bool} (h : ∀ a b, f a b = true ↔ a = b) : ∀ (l m : List α), eqvL f l m = true ↔ l = m
  | [], [] => by simp [eqvL]
  | [], _ :: _ => by simp [eqvL]
  | _ :: _, [] => by simp [eqvL]
  | a :: l, b :: m => by simp [eqvL, h, eqvL_iff h l m]
theorem Ty.eqv_iff : ∀ (t : Ty), t.plain = true → ∀ x y : t.Data, t.eqv x y = true ↔ x = y
  | .u8, _, a, b => by simp [Ty.eqv]
  | .nat _, _, a, b => by simp [Ty.eqv]
  | .int _, _, a, b => by simp [Ty.eqv]
  | .bool, _, a, b => by simp [Ty.eqv]
  | .str, _, a, b => by
    simp only [Ty.eqv, beq_iff_eq, ByteArray.toList_eq]
    constructor
    · intro h; obtain ⟨⟨x⟩⟩ := a; obtain ⟨⟨y⟩⟩ := b; simp at h; subst h; rfl
    · rintro rfl; rfl
  | .arr _ t, h, l, m => eqvL_iff (Ty.eqv_iff t h) l m
  | .sl _, h, _, _ => by simp [Ty.plain] at h
  | .st t, h, a, b => Ty.eqv_iff t h a b
  | .unit, _, a, b => by simp [Ty.eqv]
  | .pair a b, h, x, y => by
    simp only [Ty.plain, Bool.and_eq_true] at h
    simp only [Ty.eqv, Bool.and_eq_true, Ty.eqv_iff a h.1, Ty.eqv_iff b h.2]
    constructor
    · rintro ⟨h1, h2⟩; exact Prod.ext h1 h2
    · rintro rfl; exact ⟨rfl, rfl⟩
def Ty.deep : Ty → Nat
  | .arr _ t => t.deep + 1
  | .st t => t.deep + 1
  | .pair a b => max a.deep b.deep
  | .unit => 0
  | _ => 1
/-- Does the described type fit the program's, and can it be compared? -/
def Ty.eqFits (P : Program) : Ty → (TypeId → Bool) × (List Field → Nat → Bool)
  | .u8 => (fun t => match P.underlying t with | some (.int .u8) => true | _ => false, fun _ _ => false)
  | .nat k => (fun t => match P.underlying t with | some (.int k') => k' == k | _ => false, fun _ _ => false)
  | .int k => (fun t => match P.underlying t with | some (.int k') => k' == k | _ => false, fun _ _ => false)
  | .bool => (fun t => match P.underlying t with | some .bool => true | _ => false, fun _ _ => false)
  | .str => (fun t => match P.underlying t with | some .string => true | _ => false, fun _ _ => false)
  | .arr n a => (fun t => match P.underlying t with | some (.array m e) => m == n && (a.eqFits P).1 e && (P.info? e).map (·.size) == some a.size | _ => false, fun _ _ => false)
  | .sl _ => (fun _ => false, fun _ _ => false)
  | .st c => (fun t => match P.underlying t with | some (.struct fs) => (c.eqFits P).2 fs.toList 0 && !P.stoodInHeld t | _ => false, fun _ _ => false)
  | .unit => (fun _ => false, fun fs _ => fs.isEmpty)
  | .pair a b => (fun _ => false, fun fs off => match fs with | f :: r => f.name != "_" && f.offset == off && (a.eqFits P).1 f.type && (P.info? f.type).map (·.size) == some a.size && (b.eqFits P).2 r (off + a.size) | [] => false)
/-- The value that cells are. -/
def Ty.val : Ty → List Value → Value
  | .arr _ _, cs => .agg cs.toArray
  | .st _, cs => .agg cs.toArray
  | _, cs => cs.headD undef
section
variable {P : Program}
theorem info_size {e : TypeId} {n : Nat} (h : (P.info? e).map (·.size) = some n) (w : World) : (sizeOf e).run P w = .ok n w := by
  obtain ⟨i, hi1, hi2⟩ := Option.map_eq_some_iff.1 h
  simp [sizeOf, typeInfo, hi1, hi2]
theorem isAgg_run {t : TypeId} {d : TypeDesc} (hu : P.underlying t = some d) (w : World) : (isAgg t).run P w = .ok (isAggD d) w := by
  unfold isAgg
  rw [Sem.run_bind, run_underlying hu w]
  cases d <;> rfl
/-- A part is the value of its cells. -/
theorem part_run (ty : Ty) {t : TypeId} (hf : (ty.eqFits P).1 t = true) (hs : (P.info? t).map (·.size) = some ty.size) {W : World} {F : Fp} {x : ty.Data} (cs c1 c2 : List Value) (off : Nat) (hc : cs.drop off = c1 ++ c2) (hx : ty.holds W F c1 x) (w : World) :
    (part t cs.toArray off).run P w = .ok (ty.val c1) w := by
  have hl := Ty.len ty hx
  have hcell : ∀ v, c1 = [v] → cs[off]? = some v := by
    rintro v rfl
    have h : (cs.drop off)[0]? = some v := by rw [hc]; rfl
    rw [List.getElem?_drop] at h
    simpa using h
  have one : ∀ v d, c1 = [v] → P.underlying t = some d → isAggD d = false → (part t cs.toArray off).run P w = .ok v w := by
    intro v d h hu hd
    simp only [part, Sem.run_bind, isAgg_run hu, hd, Result.andThen_ok, Bool.false_eq_true, if_false]
    have := hcell v h
    simp [this]
  have agg : ∀ d, P.underlying t = some d → isAggD d = true → (part t cs.toArray off).run P w = .ok (.agg c1.toArray) w := by
    intro d hu hd
    simp only [part, Sem.run_bind, isAgg_run hu, hd, Result.andThen_ok, if_true, info_size hs, Sem.run_pure]
    congr 2
    apply Array.ext'
    rw [Array.toList_extract]
    simp only [List.toList_toArray, Nat.add_sub_cancel_left, List.extract_eq_take_drop, hc, ← hl]
    simp
  cases ty with
  | u8 =>
    simp only [Ty.eqFits] at hf
    split at hf <;> try simp only [Bool.false_eq_true] at hf
    rename_i hu
    have hx : c1 = [.int .u8 (x.toNat : Int)] := hx
    rw [one _ _ hx hu rfl, hx]; rfl
  | nat k =>
    simp only [Ty.eqFits] at hf
    split at hf <;> try simp only [Bool.false_eq_true] at hf
    rename_i hu
    obtain ⟨hx, _⟩ := hx
    rw [one _ _ hx hu rfl, hx]; rfl
  | int k =>
    simp only [Ty.eqFits] at hf
    split at hf <;> try simp only [Bool.false_eq_true] at hf
    rename_i hu
    obtain ⟨hx, _⟩ := hx
    rw [one _ _ hx hu rfl, hx]; rfl
  | bool =>
    simp only [Ty.eqFits] at hf
    split at hf <;> try simp only [Bool.false_eq_true] at hf
    rename_i hu
    have hx : c1 = [.bool x] := hx
    rw [one _ _ hx hu rfl, hx]; rfl
  | str =>
    simp only [Ty.eqFits] at hf
    split at hf <;> try simp only [Bool.false_eq_true] at hf
    rename_i hu
    obtain ⟨hx, _⟩ := hx
    rw [one _ _ hx hu rfl, hx]; rfl
  | arr n a =>
    simp only [Ty.eqFits] at hf
    split at hf <;> try simp only [Bool.false_eq_true] at hf
    rename_i hu
    exact agg _ hu rfl
  | sl a => simp [Ty.eqFits] at hf
  | st c =>
    simp only [Ty.eqFits] at hf
    split at hf <;> try simp only [Bool.false_eq_true] at hf
    rename_i hu
    exact agg _ hu rfl
  | unit => simp [Ty.eqFits] at hf
  | pair a b => simp [Ty.eqFits] at hf

theorem eq_loop {W1 W2 : World} {F1 F2 : Fp} (a : Ty) (e : TypeId) (d : Nat) (hf : (a.eqFits P).1 e = true) (hs : (P.info? e).map (·.size) = some a.size)
    (ih : ∀ (w : World) (c1 c2 : List Value) (x y : a.Data), a.holds W1 F1 c1 x → a.holds W2 F2 c2 y → (Op.equalIn d e (a.val c1) (a.val c2)).run P w = .ok (a.eqv x y) w) (cs ds : List Value) :
    ∀ (l m : List a.Data) (i : Nat) (w : World), l.length = m.length → AllH (a.holds W1 F1) (cs.drop (i * a.size)) l → AllH (a.holds W2 F2) (ds.drop (i * a.size)) m →
    ∃ r : Option Bool, (forIn (m := Sem) (List.range' i l.length 1) ((none : Option Bool), ()) fun i _ => do
        let x ← part e cs.toArray (i * a.size)
        let y ← part e ds.toArray (i * a.size)
        let b ← Op.equalIn d e x y
        if (!b) = true then pure (ForInStep.done (some false, ())) else pure (ForInStep.yield (none, ()))).run P w = .ok (r, ()) w ∧ (r.getD true) = eqvL a.eqv l m
  | [], [], _, _, _, _, _ => ⟨none, by simp, rfl⟩
  | [], _ :: _, _, _, h, _, _ => by simp at h
  | _ :: _, [], _, _, h, _, _ => by simp at h
  | x :: l, y :: m, i, w, h, h1, h2 => by
    obtain ⟨c1, c2, e1, g1, g2⟩ := h1
    obtain ⟨d1, d2, e2, k1, k2⟩ := h2
    have hp1 := part_run a hf hs cs c1 c2 (i * a.size) e1 g1 w
    have hp2 := part_run a hf hs ds d1 d2 (i * a.size) e2 k1 w
    have he := ih w c1 d1 x y g1 k1
    have n1 : cs.drop ((i + 1) * a.size) = c2 := by
      rw [Nat.add_mul, Nat.one_mul, ← List.drop_drop, e1, ← Ty.len a g1, List.drop_left]
    have n2 : ds.drop ((i + 1) * a.size) = d2 := by
      rw [Nat.add_mul, Nat.one_mul, ← List.drop_drop, e2, ← Ty.len a k1, List.drop_left]
    obtain ⟨r, hr, hr2⟩ := eq_loop a e d hf hs ih cs ds l m (i + 1) w (by simpa using h) (by rw [n1]; exact g2) (by rw [n2]; exact k2)
    simp only [List.length_cons, List.range'_succ, List.forIn_cons, Sem.run_bind, hp1, hp2, he, Result.andThen_ok]
    cases hb : a.eqv x y
    · exact ⟨some false, by simp, by simp [eqvL, hb]⟩
    · refine ⟨r, ?_, by simp [eqvL, hb, hr2]⟩
      simpa using hr
theorem eq_both : ∀ (ty : Ty),
    (∀ (t : TypeId) (d : Nat), (ty.eqFits P).1 t = true → ty.deep ≤ d → ∀ (w W1 W2 : World) (F1 F2 : Fp) (cs ds : List Value) (x y : ty.Data), ty.holds W1 F1 cs x → ty.holds W2 F2 ds y → (Op.equalIn d t (ty.val cs) (ty.val ds)).run P w = .ok (ty.eqv x y) w) ∧
    (∀ (fs : List Field) (off d : Nat), (ty.eqFits P).2 fs off = true → ty.deep ≤ d → ∀ (w W1 W2 : World) (F1 F2 : Fp) (cs ds : List Value) (x y : ty.Data), ty.holds W1 F1 (cs.drop off) x → ty.holds W2 F2 (ds.drop off) y → (Op.eqFields d cs.toArray ds.toArray fs).run P w = .ok (ty.eqv x y) w)
  | .u8 => ⟨fun t d hf hd w _ _ _ _ cs ds x y h1 h2 => by
      simp only [Ty.eqFits] at hf
      split at hf <;> try simp only [Bool.false_eq_true] at hf
      rename_i hu
      obtain ⟨d, rfl⟩ : ∃ k, d = k + 1 := ⟨d - 1, by simp only [Ty.deep] at hd; omega⟩
      have h1 : cs = [.int .u8 (x.toNat : Int)] := h1
      have h2 : ds = [.int .u8 (y.toNat : Int)] := h2
      subst h1 h2
      show (Op.equalIn (d + 1) t (.int .u8 _) (.int .u8 _)).run P w = _
      rw [run_equalIn_int w d t .u8 .u8 _ _ hu]
      congr 1
      show _ = (x == y)
      rw [Bool.eq_iff_iff]
      simp [← UInt8.toNat_inj]
      omega, fun _ _ _ hf => by simp [Ty.eqFits] at hf⟩
  | .nat k => ⟨fun t d hf hd w _ _ _ _ cs ds x y h1 h2 => by
      simp only [Ty.eqFits] at hf
      split at hf <;> try simp only [Bool.false_eq_true] at hf
      rename_i hu
      obtain ⟨d, rfl⟩ : ∃ k, d = k + 1 := ⟨d - 1, by simp only [Ty.deep] at hd; omega⟩
      obtain ⟨rfl, _⟩ := h1
      obtain ⟨rfl, _⟩ := h2
      show (Op.equalIn (d + 1) t (.int k _) (.int k _)).run P w = _
      rw [run_equalIn_int w d t k _ _ _ hu]
      congr 1
      show _ = ((x : Nat) == y)
      rw [Bool.eq_iff_iff, beq_iff_eq, beq_iff_eq]
      exact Int.ofNat_inj, fun _ _ _ hf => by simp [Ty.eqFits] at hf⟩
  | .int k => ⟨fun t d hf hd w _ _ _ _ cs ds x y h1 h2 => by
      simp only [Ty.eqFits] at hf
      split at hf <;> try simp only [Bool.false_eq_true] at hf
      rename_i hu
      obtain ⟨d, rfl⟩ : ∃ k, d = k + 1 := ⟨d - 1, by simp only [Ty.deep] at hd; omega⟩
      obtain ⟨rfl, _⟩ := h1
      obtain ⟨rfl, _⟩ := h2
      show (Op.equalIn (d + 1) t (.int k _) (.int k _)).run P w = _
      rw [run_equalIn_int w d t k _ _ _ hu]
      rfl, fun _ _ _ hf => by simp [Ty.eqFits] at hf⟩
  | .bool => ⟨fun t d hf hd w _ _ _ _ cs ds x y h1 h2 => by
      simp only [Ty.eqFits] at hf
      split at hf <;> try simp only [Bool.false_eq_true] at hf
      rename_i hu
      obtain ⟨d, rfl⟩ : ∃ k, d = k + 1 := ⟨d - 1, by simp only [Ty.deep] at hd; omega⟩
      have h1 : cs = [.bool x] := h1
      have h2 : ds = [.bool y] := h2
      subst h1 h2
      show (Op.equalIn (d + 1) t (.bool _) (.bool _)).run P w = _
      rw [run_equalIn_bool' w d t _ _ hu]
      rfl, fun _ _ _ hf => by simp [Ty.eqFits] at hf⟩
  | .str => ⟨fun t d hf hd w _ _ _ _ cs ds x y h1 h2 => by
      simp only [Ty.eqFits] at hf
      split at hf <;> try simp only [Bool.false_eq_true] at hf
      rename_i hu
      obtain ⟨d, rfl⟩ : ∃ k, d = k + 1 := ⟨d - 1, by simp only [Ty.deep] at hd; omega⟩
      obtain ⟨rfl, _⟩ := h1
      obtain ⟨rfl, _⟩ := h2
      show (Op.equalIn (d + 1) t (.string _) (.string _)).run P w = _
      rw [run_equalIn_string w d t _ _ hu]
      rfl, fun _ _ _ hf => by simp [Ty.eqFits] at hf⟩
  | .arr n a => ⟨fun t d hf hd w W1 W2 F1 F2 cs ds x y h1 h2 => by
      simp only [Ty.eqFits] at hf
      split at hf <;> try simp only [Bool.false_eq_true] at hf
      rename_i m e hu
      simp only [Bool.and_eq_true, beq_iff_eq] at hf
      obtain ⟨⟨rfl, hfa⟩, hs⟩ := hf
      obtain ⟨d, rfl⟩ : ∃ k, d = k + 1 := ⟨d - 1, by simp only [Ty.deep] at hd; omega⟩
      simp only [Ty.deep] at hd
      obtain ⟨hx1, hx2⟩ := h1
      obtain ⟨hy1, hy2⟩ := h2
      obtain ⟨r, hr, hr2⟩ := eq_loop (W1 := W1) (W2 := W2) (F1 := F1) (F2 := F2) a e d hfa hs (fun w c1 c2 x y g1 g2 => (eq_both a).1 e d hfa (by omega) w W1 W2 F1 F2 c1 c2 x y g1 g2) cs ds x y 0 w (hx1.trans hy1.symm) (by simpa using hx2) (by simpa using hy2)
      show (Op.equalIn (d + 1) t (.agg cs.toArray) (.agg ds.toArray)).run P w = .ok (eqvL a.eqv x y) w
      rw [Op.equalIn]
      rw [hx1] at hr
      simp only [Sem.run_bind, run_underlying hu, Result.andThen_ok, info_size hs, Std.Legacy.Range.forIn_eq_forIn_range', Std.Legacy.Range.size, Nat.sub_zero, Nat.add_sub_cancel, Nat.div_one]
      (try simp only [Sem.run_bind] at hr)
      rw [hr, ← hr2]
      cases r <;> simp, fun _ _ _ hf => by simp [Ty.eqFits] at hf⟩
  | .sl a => ⟨fun _ _ hf => by simp [Ty.eqFits] at hf, fun _ _ _ hf => by simp [Ty.eqFits] at hf⟩
  | .st c => ⟨fun t d hf hd w W1 W2 F1 F2 cs ds x y h1 h2 => by
      simp only [Ty.eqFits] at hf
      split at hf <;> try simp only [Bool.false_eq_true] at hf
      rename_i fs hu
      simp only [Bool.and_eq_true, Bool.not_eq_true'] at hf
      obtain ⟨hfc, hst⟩ := hf
      obtain ⟨d, rfl⟩ : ∃ k, d = k + 1 := ⟨d - 1, by simp only [Ty.deep] at hd; omega⟩
      simp only [Ty.deep] at hd
      have hfo : P.fieldsOf t = fs := by simp only [Program.fieldsOf, hu]
      show (Op.equalIn (d + 1) t (.agg cs.toArray) (.agg ds.toArray)).run P w = .ok (c.eqv x y) w
      rw [run_equalIn_struct w d t _ _ (by rw [hfo]; exact hu) hst, hfo]
      exact (eq_both c).2 fs.toList 0 d hfc (by omega) w W1 W2 F1 F2 cs ds x y (by rw [List.drop_zero]; exact h1) (by rw [List.drop_zero]; exact h2), fun _ _ _ hf => by simp [Ty.eqFits] at hf⟩
  | .unit => ⟨fun _ _ hf => by simp [Ty.eqFits] at hf, fun fs off d hf _ w _ _ _ _ cs ds x y _ _ => by
      cases fs with
      | nil => simp [Op.eqFields, Ty.eqv]
      | cons f r => simp [Ty.eqFits] at hf⟩
  | .pair a b => ⟨fun _ _ hf => by simp [Ty.eqFits] at hf, fun fs off d hf hd w W1 W2 F1 F2 cs ds x y h1 h2 => by
      cases fs with
      | nil => simp [Ty.eqFits] at hf
      | cons f r =>
        simp only [Ty.eqFits, Bool.and_eq_true, beq_iff_eq, bne_iff_ne] at hf
        obtain ⟨⟨⟨⟨hn, rfl⟩, hfa⟩, hs⟩, hfb⟩ := hf
        simp only [Ty.deep] at hd
        obtain ⟨c1, c2, e1, g1, g2⟩ := h1
        obtain ⟨d1, d2, e2, k1, k2⟩ := h2
        have n1 : cs.drop (f.offset + a.size) = c2 := by rw [← List.drop_drop, e1, ← Ty.len a g1, List.drop_left]
        have n2 : ds.drop (f.offset + a.size) = d2 := by rw [← List.drop_drop, e2, ← Ty.len a k1, List.drop_left]
        have ha := (eq_both a).1 f.type d hfa (by omega) w W1 W2 F1 F2 c1 d1 x.1 y.1 g1 k1
        have hb := (eq_both b).2 r (f.offset + a.size) d hfb (by omega) w W1 W2 F1 F2 cs ds x.2 y.2 (by rw [n1]; exact g2) (by rw [n2]; exact k2)
        simp only [Op.eqFields, hn, ne_eq, not_false_eq_true, if_true, Sem.run_bind, part_run a hfa hs cs c1 c2 f.offset e1 g1 w, part_run a hfa hs ds d1 d2 f.offset e2 k1 w, ha, Result.andThen_ok, Sem.run_ite, Sem.run_pure, hb, Ty.eqv]
        cases a.eqv x.1 y.1 <;> simp⟩
/-- '==' at structs and arrays. -/
theorem run_eqTy (ty : Ty) (t : TypeId) (hf : (ty.eqFits P).1 t = true) (hd : ty.deep ≤ 10000) (w W1 W2 : World) (F1 F2 : Fp) (cs ds : List Value) (x y : ty.Data) (h1 : ty.holds W1 F1 cs x) (h2 : ty.holds W2 F2 ds y) (hv : ∀ cs, ty.val cs = .agg cs.toArray) :
    (binOp .eql t (.agg cs.toArray) (.agg ds.toArray)).run P w = .ok (.bool (ty.eqv x y)) w := by
  have h := (eq_both ty).1 t 10000 hf hd w W1 W2 F1 F2 cs ds x y h1 h2
  rw [hv, hv] at h
  rw [run_eql_struct, h]; rfl
theorem run_neTy (ty : Ty) (t : TypeId) (hf : (ty.eqFits P).1 t = true) (hd : ty.deep ≤ 10000) (w W1 W2 : World) (F1 F2 : Fp) (cs ds : List Value) (x y : ty.Data) (h1 : ty.holds W1 F1 cs x) (h2 : ty.holds W2 F2 ds y) (hv : ∀ cs, ty.val cs = .agg cs.toArray) :
    (binOp .neq t (.agg cs.toArray) (.agg ds.toArray)).run P w = .ok (.bool (!ty.eqv x y)) w := by
  have h := (eq_both ty).1 t 10000 hf hd w W1 W2 F1 F2 cs ds x y h1 h2
  rw [hv, hv] at h
  rw [run_neq_struct, h]; rfl
end
end
section
open Go.RowKit
section
variable {P : Program} {C : World → Prop} {o : Oper} {a : Act} {K : Act → Prop}
theorem quiet_eqTy (ty : Ty) (t t' : TypeId) (x y : Operand) (ho : o.op = .binOp .eql t x y t') (hf : (ty.eqFits P).1 t = true) (hd : ty.deep ≤ 10000) (hg : P.eqGuardType P.depth t = false) (hv : ∀ cs, ty.val cs = .agg cs.toArray)
    {W1 W2 : World} {F1 F2 : Fp} (cs ds : List Value) (d1 d2 : ty.Data) (hx : a.eval x = .agg cs.toArray) (hy : a.eval y = .agg ds.toArray) (h1 : ty.holds W1 F1 cs d1) (h2 : ty.holds W2 F2 ds d2) (hk : K (a.put o.dst (.bool (ty.eqv d1 d2)))) : o.quiet P a C K :=
  quiet_run _ (fun w _ => by
    unfold execOp
    simp only [ho, hx, hy, Sem.run_bind, run_eqGuard w .eql t x y _ _ (.inl rfl) hg, run_eqTy ty t hf hd w W1 W2 F1 F2 cs ds d1 d2 h1 h2 hv, Result.andThen_ok, Sem.run_pure]) hk
theorem quiet_neTy (ty : Ty) (t t' : TypeId) (x y : Operand) (ho : o.op = .binOp .neq t x y t') (hf : (ty.eqFits P).1 t = true) (hd : ty.deep ≤ 10000) (hg : P.eqGuardType P.depth t = false) (hv : ∀ cs, ty.val cs = .agg cs.toArray)
    {W1 W2 : World} {F1 F2 : Fp} (cs ds : List Value) (d1 d2 : ty.Data) (hx : a.eval x = .agg cs.toArray) (hy : a.eval y = .agg ds.toArray) (h1 : ty.holds W1 F1 cs d1) (h2 : ty.holds W2 F2 ds d2) (hk : K (a.put o.dst (.bool (!ty.eqv d1 d2)))) : o.quiet P a C K :=
  quiet_run _ (fun w _ => by
    unfold execOp
    simp only [ho, hx, hy, Sem.run_bind, run_eqGuard w .neq t x y _ _ (.inr rfl) hg, run_neTy ty t hf hd w W1 W2 F1 F2 cs ds d1 d2 h1 h2 hv, Result.andThen_ok, Sem.run_pure]) hk
theorem wpList_eqTy {w : World} {ops : Array Oper} {rest : List Oper} {Q : Exit → Act → World → Prop} (hgd : o.guard = none ∨ Region.wanted o (yielded ops a.tmps) = true) (ty : Ty) (t t' : TypeId) (x y : Operand) (ho : o.op = .binOp .eql t x y t') (hf : (ty.eqFits P).1 t = true) (hd : ty.deep ≤ 10000) (hg : P.eqGuardType P.depth t = false) (hv : ∀ cs, ty.val cs = .agg cs.toArray)
    {W1 W2 : World} {F1 F2 : Fp} (cs ds : List Value) (d1 d2 : ty.Data) (hx : a.eval x = .agg cs.toArray) (hy : a.eval y = .agg ds.toArray) (h1 : ty.holds W1 F1 cs d1) (h2 : ty.holds W2 F2 ds d2) (b : Bool) (hb : ty.eqv d1 d2 = b) (hk : wpList P ops Q rest (a.put o.dst (.bool b)) w) : wpList P ops Q (o :: rest) a w :=
  wpList_want hgd fun K hK => by
    subst hb
    unfold Oper.wp execOp
    simp only [ho, hx, hy, Sem.run_bind, run_eqGuard w .eql t x y _ _ (.inl rfl) hg, run_eqTy ty t hf hd w W1 W2 F1 F2 cs ds d1 d2 h1 h2 hv, Result.andThen_ok, Sem.run_pure]
    exact hK _ _ hk
theorem wpList_neTy {w : World} {ops : Array Oper} {rest : List Oper} {Q : Exit → Act → World → Prop} (hgd : o.guard = none ∨ Region.wanted o (yielded ops a.tmps) = true) (ty : Ty) (t t' : TypeId) (x y : Operand) (ho : o.op = .binOp .neq t x y t') (hf : (ty.eqFits P).1 t = true) (hd : ty.deep ≤ 10000) (hg : P.eqGuardType P.depth t = false) (hv : ∀ cs, ty.val cs = .agg cs.toArray)
    {W1 W2 : World} {F1 F2 : Fp} (cs ds : List Value) (d1 d2 : ty.Data) (hx : a.eval x = .agg cs.toArray) (hy : a.eval y = .agg ds.toArray) (h1 : ty.holds W1 F1 cs d1) (h2 : ty.holds W2 F2 ds d2) (b : Bool) (hb : (!ty.eqv d1 d2) = b) (hk : wpList P ops Q rest (a.put o.dst (.bool b)) w) : wpList P ops Q (o :: rest) a w :=
  wpList_want hgd fun K hK => by
    subst hb
    unfold Oper.wp execOp
    simp only [ho, hx, hy, Sem.run_bind, run_eqGuard w .neq t x y _ _ (.inr rfl) hg, run_neTy ty t hf hd w W1 W2 F1 F2 cs ds d1 d2 h1 h2 hv, Result.andThen_ok, Sem.run_pure]
    exact hK _ _ hk
end
end
section
open Go.RowKit

def chunks : Nat → List UInt8 → List (List UInt8)
  | 0, _ => []
  | n + 1, B => B.take 16 :: chunks n (B.drop 16)
theorem chunks_length : ∀ n B, (chunks n B).length = n
  | 0, _ => rfl
  | n + 1, B => by rw [chunks, List.length_cons, chunks_length]
theorem chunks_holds {w : World} {F : Fp} : ∀ (n : Nat) (B : List UInt8), B.length = 16 * n → AllH (PieceT.holds w F) (bv B) (chunks n B)
  | 0, B, h => by
    obtain rfl : B = [] := List.eq_nil_of_length_eq_zero (by omega)
    rfl
  | n + 1, B, h => by
    refine ⟨bv (B.take 16), bv (B.drop 16), by rw [← bv_append, List.take_append_drop], ⟨by show (B.take 16).length = 16; rw [List.length_take]; omega, AllH.bytes.2 rfl⟩, chunks_holds n (B.drop 16) (by rw [List.length_drop]; omega)⟩
theorem sig_holds (S : List UInt8) (hS : S.length = 1024) (w : World) (F : Fp) : SigT.holds w F (bv S) (chunks 32 (S.take 512), chunks 32 (S.drop 512), ()) := by
  refine ⟨bv (S.take 512), bv (S.drop 512), by rw [← bv_append, List.take_append_drop], ⟨chunks_length _ _, chunks_holds 32 _ (by rw [List.length_take]; omega)⟩, bv (S.drop 512), [], by rw [List.append_nil], ⟨chunks_length _ _, chunks_holds 32 _ (by rw [List.length_drop]; omega)⟩, rfl⟩
theorem rsig_fits : (SigT.eqFits Try.prog).1 38 = true := by kernel_rfl
theorem rsig_same (S : List UInt8) (hS : S.length = 1024) : (∀ (x y : Operand) (w : World), (eqGuard .eql 38 x y (.agg (bv S).toArray) (.agg (bv S).toArray)).run Try.prog w = .ok () w) ∧ ∀ w, (binOp .eql 38 (.agg (bv S).toArray) (.agg (bv S).toArray)).run Try.prog w = .ok (.bool true) w :=
  ⟨fun x y w => run_eqGuard w .eql 38 x y _ _ (.inl rfl) (by kernel_rfl), fun w => by
    obtain ⟨sg, hsg⟩ : ∃ sg : SigT.Data, ∀ (w : World) (F : Fp), SigT.holds w F (bv S) sg := ⟨_, fun w F => sig_holds S hS w F⟩
    have h := run_eqTy (P := Try.prog) SigT 38 rsig_fits (by decide) w w w (fun _ => False) (fun _ => False) (bv S) (bv S) sg sg (hsg w _) (hsg w _) (fun _ => rfl)
    have e : SigT.eqv sg sg = true := (Ty.eqv_iff SigT rfl sg sg).2 rfl
    rw [e] at h
    exact h⟩
end
end Go.Proofs.Ytfoomnibfibfnaa

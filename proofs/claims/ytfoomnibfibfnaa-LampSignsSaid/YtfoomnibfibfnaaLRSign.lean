/- The walk of the document's Sign of layer 4. Conditions: the seed and the digest have their lengths, the number is in its bounds. -/
import Derived.Test.YtfoomnibfibfnaaLRSecret
import Derived.Test.YtfoomnibfibfnaaLRFrom
set_option linter.unusedVariables false
set_option linter.unusedSimpArgs false
set_option linter.unnecessarySimpa false
namespace Go.Proofs.Ytfoomnibfibfnaa
open Go.RowKit

theorem rsig_zero : (Try.prog.info? 38).bind (fun i => i.zero.map (·.cells)) = some (List.replicate 1024 (Value.int .u8 0)).toArray := by kernel_rfl
set_option maxRecDepth 100000 in
set_option maxHeartbeats 4000000 in
theorem RSign (seed : List UInt8) (hs : seed.length = 32) (n : Nat) (hn : n < 4294967296) (d : List UInt8) (hd : d.length = 32) (w : World) :
    Calls Try.prog 15 #[.agg tabsC.toArray, .agg (bv seed).toArray, .int .u32 (n : Int), .agg (bv d).toArray] w fun e w' => e = .returned (.agg (bv (signM seed n d)).toArray) ∧ Ext w w' := by
  obtain ⟨Z, hz, hzl, hzo⟩ : ∃ Z : List Value, (Try.prog.info? 38).bind (fun i => i.zero.map (·.cells)) = some Z.toArray ∧ Z.length = 1024 ∧ ∀ u ∈ Z, u.oneCell' = true := ⟨_, rsig_zero, List.length_replicate, fun u hu => by rw [List.eq_of_mem_replicate hu]; rfl⟩
  have hC : (bv (signM seed n d)).length = 1024 := by rw [bv_length, signM_length]
  have hone := bv_one (signM seed n d)
  have hop := fun k (h : k < 32) => sign_open seed n d h
  have hot := fun k (h : k < 32) => sign_other seed n d h
  have hdl : (bv d).length = 32 := by rw [bv_length]; exact hd
  have hsl : (bv seed).length = 32 := by rw [bv_length]; exact hs
  have hsec := fun (k : Nat) (hk : k < 32) (bt : Nat) (hbt : bt < 2) W => RSecret seed hs n hn k hk bt hbt W
  have hcov := fun (p : List UInt8) (hp : p.length = 16) W => RCover p hp W
  have hbit := fun (k : Nat) (hk : k < 32) W => RBit d hd k hk W
  have hts : (Try.prog.info? 25).map (·.size) = some tabsC.length := tabs_size rfl
  generalize tabsC = TB at *
  generalize bv (signM seed n d) = C at *
  have hb0 : Blk (((((w.alloc (.cells TB.toArray 25)).alloc (.cells (bv seed).toArray 22)).alloc (.cells (bv d).toArray 22)).alloc (.cells Z.toArray 38)).alloc (.cells Z.toArray 38)) w.heap.size 25 TB := ((((Blk.new _ _ _).keep ((Ext.refl _).alloc _) (by simp)).keep ((Ext.refl _).alloc _) (by simp)).keep ((Ext.refl _).alloc _) (by simp)).keep ((Ext.refl _).alloc _) (by simp)
  have hb1 : Blk (((((w.alloc (.cells TB.toArray 25)).alloc (.cells (bv seed).toArray 22)).alloc (.cells (bv d).toArray 22)).alloc (.cells Z.toArray 38)).alloc (.cells Z.toArray 38)) (w.heap.size + 1) 22 (bv seed) := (((Blk.fresh (by simp) _ _).keep ((Ext.refl _).alloc _) (by simp)).keep ((Ext.refl _).alloc _) (by simp)).keep ((Ext.refl _).alloc _) (by simp)
  have hb2 : Blk (((((w.alloc (.cells TB.toArray 25)).alloc (.cells (bv seed).toArray 22)).alloc (.cells (bv d).toArray 22)).alloc (.cells Z.toArray 38)).alloc (.cells Z.toArray 38)) (w.heap.size + 1 + 1) 22 (bv d) := ((Blk.fresh (by simp) _ _).keep ((Ext.refl _).alloc _) (by simp)).keep ((Ext.refl _).alloc _) (by simp)
  have hb3 : Blk (((((w.alloc (.cells TB.toArray 25)).alloc (.cells (bv seed).toArray 22)).alloc (.cells (bv d).toArray 22)).alloc (.cells Z.toArray 38)).alloc (.cells Z.toArray 38)) (w.heap.size + 1 + 1 + 1) 38 Z := (Blk.fresh (by simp) _ _).keep ((Ext.refl _).alloc _) (by simp)
  have hb4 : Blk (((((w.alloc (.cells TB.toArray 25)).alloc (.cells (bv seed).toArray 22)).alloc (.cells (bv d).toArray 22)).alloc (.cells Z.toArray 38)).alloc (.cells Z.toArray 38)) (w.heap.size + 1 + 1 + 1 + 1) 38 Z := Blk.fresh (by simp) _ _
  have hx0 : Ext w (((((w.alloc (.cells TB.toArray 25)).alloc (.cells (bv seed).toArray 22)).alloc (.cells (bv d).toArray 22)).alloc (.cells Z.toArray 38)).alloc (.cells Z.toArray 38)) := (((((Ext.refl w).alloc _).alloc _).alloc _).alloc _).alloc _
  generalize bv d = DC at *
  generalize bv seed = SC at *
  have HB0 := Lib.hid hb0
  have HB1 := Lib.hid hb1
  have HB2 := Lib.hid hb2
  have HB3 := Lib.hid hb3
  have HB4 := Lib.hid hb4
  have HX0 := Lib.hid hx0
  have HCL := Lib.hid hC
  have HZL := Lib.hid hzl
  have HDL := Lib.hid hdl
  have HSL := Lib.hid hsl
  have HOP := Lib.hid hop
  have HOT := Lib.hid hot
  have HSEC := Lib.hid hsec
  have HCOV := Lib.hid hcov
  have HBIT := Lib.hid hbit
  have HTS := Lib.hid hts
  clear hb0 hb1 hb2 hb3 hb4 hx0 hC hzl hdl hsl hop hot hsec hcov hbit hts
  go_enter Try.func15, Try.ntmps15
  go_wp2_with (first
    | (refine wpList_alloc _ rfl 38 rfl _ hz ?_)
    | fail)
  go_loopw [10, 11] (fun i q wr => ∃ k : Nat, k ≤ 32 ∧ i = .int .i64 k ∧ Ext w wr ∧ Blk wr w.heap.size 25 TB ∧ Blk wr (w.heap.size + 1) 22 SC ∧ Blk wr (w.heap.size + 1 + 1) 22 DC ∧ Blk wr (w.heap.size + 1 + 1 + 1) 38 Z ∧ Blk wr (w.heap.size + 1 + 1 + 1 + 1) 38 (mixAt C Z k)) (fun i _ _ => 32 - (intOf i).toNat)
  case atStart => exact ⟨0, by omega, rfl, HX0.out, HB0.out, HB1.out, HB2.out, HB3.out, by rw [mixAt_zero C Z HCL.out HZL.out]; exact HB4.out⟩
  case round =>
    clear HX0 HB0 HB1 HB2 HB3 HB4
    obtain ⟨k, hk, rfl, hx, hb0, hb1, hb2, hb3, hb4⟩ := hrel
    by_cases hlt : k < 32
    · have hcd := hb2.cells
      have hbl := bitM_lt d k
      have hp1 : (bv (openM seed n d k)).length = 16 := by rw [bv_length]; exact secretM_length _ _ _ _
      have hp2 : (bv (otherM seed n d k)).length = 16 := by rw [bv_length]; exact coverM_length _
      have ho1 := bv_one (openM seed n d k)
      have ho2 := bv_one (otherM seed n d k)
      have hst := mixAt_step C Z HCL.out HZL.out k hlt
      rw [HOP.out k hlt, HOT.out k hlt] at hst
      have hsc := fun W => HSEC.out k hlt (bitM d k) hbl W
      have hsc2 := fun W => HSEC.out k hlt (1 - bitM d k) (by omega) W
      have hcv := fun W => HCOV.out (secretM seed n k (1 - bitM d k)) (secretM_length _ _ _ _) W
      have e1 : secretM seed n k (bitM d k) = openM seed n d k := rfl
      have e2 : coverM (secretM seed n k (1 - bitM d k)) = otherM seed n d k := rfl
      rw [e1] at hsc
      rw [e2] at hcv
      have hbt := fun W => HBIT.out k hlt W
      have hbc : bitM d k + (1 - bitM d k) = 1 := by omega
      generalize bv (secretM seed n k (1 - bitM d k)) = S2 at *
      generalize 1 - bitM d k = c at *
      generalize bitM d k = b at *
      generalize bv (openM seed n d k) = P1 at *
      generalize bv (otherM seed n d k) = P2 at *
      have HX := Lib.hid hx
      have HB0r := Lib.hid hb0
      have HB1r := Lib.hid hb1
      have HB2r := Lib.hid hb2
      have HB3r := Lib.hid hb3
      have HB4r := Lib.hid hb4
      have HP1 := Lib.hid hp1
      have HP2 := Lib.hid hp2
      have HST := Lib.hid hst
      have HSC := Lib.hid hsc
      have HSC2 := Lib.hid hsc2
      have HCV := Lib.hid hcv
      have HBT := Lib.hid hbt
      have HBC := Lib.hid hbc
      have HWR : Hid (IntKind.i64.wrap (1 - (b : Int)) = (c : Int)) := Lib.hid (by simp [IntKind.wrap, IntKind.bits, IntKind.signed]; omega)
      clear hx hb0 hb1 hb2 hb3 hb4 hp1 hp2 hst hsc hsc2 hcv hbt hbl hbc e1 e2
      go_wp2_with (first
        | (refine wpList_load_agg _ rfl 22 (.tmp 7) rfl _ rfl DC _ Try.underlying22 rfl (arr_size HDL.out) hcd ?_)
        | (go_at_call 19; refine (HBT.out _).mono ?_; rintro e w1 ⟨rfl, hx1⟩; have hk0 := (HB0r.out.keep hx1 (by simp)).cells; have hk1 := (HB1r.out.keep hx1 (by simp)).cells)
        | (refine wpList_load_agg _ rfl 25 (.tmp 4) rfl _ rfl TB _ Try.underlying25 rfl HTS.out hk0 ?_)
        | (refine wpList_load_agg _ rfl 22 (.tmp 5) rfl _ rfl SC _ Try.underlying22 rfl (arr_size HSL.out) hk1 ?_)
        | fail)
      refine (HSC.out _).mono ?_
      rintro e w2 ⟨rfl, hx2⟩
      have hx12 := hx1.trans hx2
      have hm2 : w2.heap[w.heap.size + 1 + 1 + 1 + 1]? = some (.cells (mixAt C Z k).toArray 38 (0, 0)) := HB4r.out.keep hx12 (by simp)
      have kk : ∀ {g : Nat} {t : TypeId} {cs : List Value}, Blk wr g t cs → g < w.heap.size + 1 + 1 + 1 + 1 → Blk (w2.setRow (w.heap.size + 1 + 1 + 1 + 1) (putAt (mixAt C Z k) (k * 16) P1).toArray).drew g t cs := fun h hg => ((h.keep hx12 (by simp)).keep (setRow_only _) (by simp; omega)).keep (Ext.refl _).drew (by simp)
      have HB0 := Lib.hid (kk HB0r.out (by omega))
      have HB1 := Lib.hid (kk HB1r.out (by omega))
      have HB2 := Lib.hid (kk HB2r.out (by omega))
      have HB3 := Lib.hid (kk HB3r.out (by omega))
      have HB4 : Hid (Blk (w2.setRow (w.heap.size + 1 + 1 + 1 + 1) (putAt (mixAt C Z k) (k * 16) P1).toArray).drew (w.heap.size + 1 + 1 + 1 + 1) 38 (putAt (mixAt C Z k) (k * 16) P1)) := Lib.hid (Blk.keep (t := 38) (setRow_at hm2) (Ext.refl _).drew (by simp))
      have HX3 : Hid (Ext w (w2.setRow (w.heap.size + 1 + 1 + 1 + 1) (putAt (mixAt C Z k) (k * 16) P1).toArray).drew) := Lib.hid ((setRow_grown (HX.out.trans hx12) _ _ (by omega)).trans (Ext.refl _).drew)
      clear hx1 hx2 hx12 hcd hk0 hk1 kk HB0r HB1r HB2r HB3r HB4r
      go_wp2_with (first
        | (refine wpList_store_part _ rfl 35 (.tmp 27) (.tmp 25) rfl (w.heap.size + 1 + 1 + 1 + 1) (k * 16) rfl (mixAt C Z k) P1 _ rfl hm2 (rpiece_size HP1.out) (by rw [mixAt_len, HP1.out]; omega) ho1 ?_)
        | fail)
      clear hm2
      generalize (w2.setRow (w.heap.size + 1 + 1 + 1 + 1) (putAt (mixAt C Z k) (k * 16) P1).toArray) = V at *
      generalize hg : w.heap.size + 1 + 1 + 1 + 1 = g at *
      have HG := Lib.hid hg
      have hdk : decide ((k : Int) < 32) = true := by rw [decide_eq_true_iff]; omega
      (try simp only [hdk])
      clear hg hdk
      refine stab_store Ext ext_refl ext_trans [[0], [1], [2], [3], [4], [5], [6], [6, 7], [2, 3, 4, 5, 6, 7, 8], [1, 2, 3, 4, 5, 6, 7, 8, 9], [10], [0, 1, 2, 3, 4, 5, 6, 7, 8, 9, 10, 11], [0, 1, 2, 3, 4, 5, 6, 7, 8, 9, 10, 11, 12]] (fun i v wv => match i with | 0 => v = .int .i64 (k : Int) | 1 => v = .agg TB.toArray | 2 => v = .agg TB.toArray | 3 => v = .agg SC.toArray | 4 => v = .int .u32 (n : Int) | 5 => v = .int .i64 (k : Int) | 6 => v = .int .i64 (b : Int) | 7 => v = .int .i64 (c : Int) | 8 => v = .agg S2.toArray | 9 => v = .agg P2.toArray | 10 => v = .pointer (some ⟨g, 512, none⟩) | 11 => v = .pointer (some ⟨g, 512 + k * 16, none⟩) | _ => True) (by kernel_rfl) (by kernel_rfl) (by kernel_rfl) (by kernel_rfl) (by simp) ?_ ?_ ?_
      · intro i v w1 w2 h hx
        match i, h with
        | 0, h => exact h
        | 1, h => exact h
        | 2, h => exact h
        | 3, h => exact h
        | 4, h => exact h
        | 5, h => exact h
        | 6, h => exact h
        | 7, h => exact h
        | 8, h => exact h
        | 9, h => exact h
        | 10, h => exact h
        | 11, h => exact h
        | i + 12, h => trivial
      · intro i hi o ho
        match i, hi, ho with
        | 0, _, ho =>
          obtain rfl := Option.some.inj ho
          intro s W hX hd K hK
          rw [if_pos (wanted_plain rfl)]
          clear hd
          replace hK : ∀ (v : Value) (W' : World), Ext W W' → (v = .int .i64 (k : Int)) → _ := hK
          simp only [mkOf, List.map_cons, List.map_nil, Act.put, List.setIfInBounds_toArray, List.set_cons_succ, List.set_cons_zero, Nat.reduceAdd, Nat.zero_add] at hK ⊢
          go_simp
          exact hK _ _ (Ext.refl _) rfl
        | 1, _, ho =>
          obtain rfl := Option.some.inj ho
          intro s W hX hd K hK
          rw [if_pos (wanted_plain rfl)]
          clear hd
          replace hK : ∀ (v : Value) (W' : World), Ext W W' → (v = .agg TB.toArray) → _ := hK
          simp only [mkOf, List.map_cons, List.map_nil, Act.put, List.setIfInBounds_toArray, List.set_cons_succ, List.set_cons_zero, Nat.reduceAdd, Nat.zero_add] at hK ⊢
          refine wp_load_agg 25 (.tmp 4) rfl _ rfl TB _ Try.underlying25 rfl (HTS.out) (HB0.out.keep hX (by simp)).cells ?_
          exact hK _ _ (Ext.refl _) rfl
        | 2, _, ho =>
          obtain rfl := Option.some.inj ho
          intro s W hX hd K hK
          rw [if_pos (wanted_plain rfl)]
          clear hd
          replace hK : ∀ (v : Value) (W' : World), Ext W W' → (v = .agg TB.toArray) → _ := hK
          simp only [mkOf, List.map_cons, List.map_nil, Act.put, List.setIfInBounds_toArray, List.set_cons_succ, List.set_cons_zero, Nat.reduceAdd, Nat.zero_add] at hK ⊢
          refine wp_load_agg 25 (.tmp 4) rfl _ rfl TB _ Try.underlying25 rfl (HTS.out) (HB0.out.keep hX (by simp)).cells ?_
          exact hK _ _ (Ext.refl _) rfl
        | 3, _, ho =>
          obtain rfl := Option.some.inj ho
          intro s W hX hd K hK
          rw [if_pos (wanted_plain rfl)]
          clear hd
          replace hK : ∀ (v : Value) (W' : World), Ext W W' → (v = .agg SC.toArray) → _ := hK
          simp only [mkOf, List.map_cons, List.map_nil, Act.put, List.setIfInBounds_toArray, List.set_cons_succ, List.set_cons_zero, Nat.reduceAdd, Nat.zero_add] at hK ⊢
          refine wp_load_agg 22 (.tmp 5) rfl _ rfl SC _ Try.underlying22 rfl (arr_size HSL.out) (HB1.out.keep hX (by simp)).cells ?_
          exact hK _ _ (Ext.refl _) rfl
        | 4, _, ho =>
          obtain rfl := Option.some.inj ho
          intro s W hX hd K hK
          rw [if_pos (wanted_plain rfl)]
          clear hd
          replace hK : ∀ (v : Value) (W' : World), Ext W W' → (v = .int .u32 (n : Int)) → _ := hK
          simp only [mkOf, List.map_cons, List.map_nil, Act.put, List.setIfInBounds_toArray, List.set_cons_succ, List.set_cons_zero, Nat.reduceAdd, Nat.zero_add] at hK ⊢
          go_simp
          exact hK _ _ (Ext.refl _) rfl
        | 5, _, ho =>
          obtain rfl := Option.some.inj ho
          intro s W hX hd K hK
          rw [if_pos (wanted_plain rfl)]
          clear hd
          replace hK : ∀ (v : Value) (W' : World), Ext W W' → (v = .int .i64 (k : Int)) → _ := hK
          simp only [mkOf, List.map_cons, List.map_nil, Act.put, List.setIfInBounds_toArray, List.set_cons_succ, List.set_cons_zero, Nat.reduceAdd, Nat.zero_add] at hK ⊢
          go_simp
          exact hK _ _ (Ext.refl _) rfl
        | 6, _, ho =>
          obtain rfl := Option.some.inj ho
          intro s W hX hd K hK
          rw [if_pos (wanted_plain rfl)]
          clear hd
          replace hK : ∀ (v : Value) (W' : World), Ext W W' → (v = .int .i64 (b : Int)) → _ := hK
          simp only [mkOf, List.map_cons, List.map_nil, Act.put, List.setIfInBounds_toArray, List.set_cons_succ, List.set_cons_zero, Nat.reduceAdd, Nat.zero_add] at hK ⊢
          go_simp
          exact hK _ _ (Ext.refl _) rfl
        | 7, _, ho =>
          obtain rfl := Option.some.inj ho
          intro s W hX hd K hK
          rw [if_pos (wanted_plain rfl)]
          have d34 : (s 6) = .int .i64 (b : Int) := hd 6 (by decide) (by decide)
          clear hd
          replace hK : ∀ (v : Value) (W' : World), Ext W W' → (v = .int .i64 (c : Int)) → _ := hK
          simp only [mkOf, List.map_cons, List.map_nil, Act.put, List.setIfInBounds_toArray, List.set_cons_succ, List.set_cons_zero, Nat.reduceAdd, Nat.zero_add] at hK ⊢
          simp only [d34] at hK ⊢
          go_simp
          exact hK _ _ (Ext.refl _) (by rw [HWR.out])
        | 8, _, ho =>
          obtain rfl := Option.some.inj ho
          intro s W hX hd K hK
          rw [if_pos (wanted_plain rfl)]
          have d30 : (s 2) = .agg TB.toArray := hd 2 (by decide) (by decide)
          have d31 : (s 3) = .agg SC.toArray := hd 3 (by decide) (by decide)
          have d32 : (s 4) = .int .u32 (n : Int) := hd 4 (by decide) (by decide)
          have d33 : (s 5) = .int .i64 (k : Int) := hd 5 (by decide) (by decide)
          have d35 : (s 7) = .int .i64 (c : Int) := hd 7 (by decide) (by decide)
          clear hd
          replace hK : ∀ (v : Value) (W' : World), Ext W W' → (v = .agg S2.toArray) → _ := hK
          simp only [mkOf, List.map_cons, List.map_nil, Act.put, List.setIfInBounds_toArray, List.set_cons_succ, List.set_cons_zero, Nat.reduceAdd, Nat.zero_add] at hK ⊢
          simp only [d30, d31, d32, d33, d35] at hK ⊢
          go_simp
          refine (HSC2.out W).mono ?_
          rintro e w' ⟨rfl, hx⟩
          exact hK _ _ hx rfl
        | 9, _, ho =>
          obtain rfl := Option.some.inj ho
          intro s W hX hd K hK
          rw [if_pos (wanted_plain rfl)]
          have d29 : (s 1) = .agg TB.toArray := hd 1 (by decide) (by decide)
          have d36 : (s 8) = .agg S2.toArray := hd 8 (by decide) (by decide)
          clear hd
          replace hK : ∀ (v : Value) (W' : World), Ext W W' → (v = .agg P2.toArray) → _ := hK
          simp only [mkOf, List.map_cons, List.map_nil, Act.put, List.setIfInBounds_toArray, List.set_cons_succ, List.set_cons_zero, Nat.reduceAdd, Nat.zero_add] at hK ⊢
          simp only [d29, d36] at hK ⊢
          go_simp
          refine (HCV.out W).mono ?_
          rintro e w' ⟨rfl, hx⟩
          exact hK _ _ hx rfl
        | 10, _, ho =>
          obtain rfl := Option.some.inj ho
          intro s W hX hd K hK
          rw [if_pos (wanted_plain rfl)]
          clear hd
          replace hK : ∀ (v : Value) (W' : World), Ext W W' → (v = .pointer (some ⟨g, 512, none⟩)) → _ := hK
          simp only [mkOf, List.map_cons, List.map_nil, Act.put, List.setIfInBounds_toArray, List.set_cons_succ, List.set_cons_zero, Nat.reduceAdd, Nat.zero_add] at hK ⊢
          go_simp
          exact hK _ _ (Ext.refl _) rfl
        | 11, _, ho =>
          obtain rfl := Option.some.inj ho
          intro s W hX hd K hK
          rw [if_pos (wanted_plain rfl)]
          have d28 : (s 0) = .int .i64 (k : Int) := hd 0 (by decide) (by decide)
          have d38 : (s 10) = .pointer (some ⟨g, 512, none⟩) := hd 10 (by decide) (by decide)
          clear hd
          replace hK : ∀ (v : Value) (W' : World), Ext W W' → (v = .pointer (some ⟨g, 512 + k * 16, none⟩)) → _ := hK
          simp only [mkOf, List.map_cons, List.map_nil, Act.put, List.setIfInBounds_toArray, List.set_cons_succ, List.set_cons_zero, Nat.reduceAdd, Nat.zero_add] at hK ⊢
          simp only [d28, d38] at hK ⊢
          go_simp
          exact hK _ _ (Ext.refl _) rfl
        | i + 12, hi, _ => exact absurd hi (by simp)
      · intro o ho
        obtain rfl := Option.some.inj ho
        intro s W hX hd K hK
        rw [if_pos (wanted_plain rfl)]
        have d28 : (s 0) = .int .i64 (k : Int) := hd 0 (by decide)
        have d29 : (s 1) = .agg TB.toArray := hd 1 (by decide)
        have d30 : (s 2) = .agg TB.toArray := hd 2 (by decide)
        have d31 : (s 3) = .agg SC.toArray := hd 3 (by decide)
        have d32 : (s 4) = .int .u32 (n : Int) := hd 4 (by decide)
        have d33 : (s 5) = .int .i64 (k : Int) := hd 5 (by decide)
        have d34 : (s 6) = .int .i64 (b : Int) := hd 6 (by decide)
        have d35 : (s 7) = .int .i64 (c : Int) := hd 7 (by decide)
        have d36 : (s 8) = .agg S2.toArray := hd 8 (by decide)
        have d37 : (s 9) = .agg P2.toArray := hd 9 (by decide)
        have d38 : (s 10) = .pointer (some ⟨g, 512, none⟩) := hd 10 (by decide)
        have d39 : (s 11) = .pointer (some ⟨g, 512 + k * 16, none⟩) := hd 11 (by decide)
        clear hd
        simp only [mkOf, List.map_cons, List.map_nil, Act.put, List.setIfInBounds_toArray, List.set_cons_succ, List.set_cons_zero, Nat.reduceAdd, Nat.zero_add]
        refine wp_store_part W 35 (.tmp 39) (.tmp 37) rfl g (512 + k * 16) (by simpa [Act.eval] using d39) (putAt (mixAt C Z k) (k * 16) P1) P2 _ (by simpa [Act.eval] using d37) (HB4.out.keep hX (by simp)) (rpiece_size HP2.out) (by rw [putAt_len (by rw [mixAt_len, HP1.out]; omega), mixAt_len, HP2.out]; omega) ho2 ?_
        refine hK _ _ ?_
        have kk : ∀ {h : Nat} {t : TypeId} {cs : List Value}, Blk V.drew h t cs → h < g → Blk (W.setRow g (putAt (putAt (mixAt C Z k) (k * 16) P1) (512 + k * 16) P2).toArray) h t cs := fun h hg => (h.keep hX (by simp)).keep (setRow_only _) (by simp; omega)
        have hge := HG.out
        have HB90 := Lib.hid (kk HB0.out (by omega))
        have HB91 := Lib.hid (kk HB1.out (by omega))
        have HB92 := Lib.hid (kk HB2.out (by omega))
        have HB93 := Lib.hid (kk HB3.out (by omega))
        have HB94 : Hid (Blk (W.setRow g (putAt (putAt (mixAt C Z k) (k * 16) P1) (512 + k * 16) P2).toArray) g 38 (mixAt C Z (k + 1))) := Lib.hid (by rw [← HST.out]; exact setRow_at (HB4.out.keep hX (by simp)))
        have HX9 : Hid (Ext w (W.setRow g (putAt (putAt (mixAt C Z k) (k * 16) P1) (512 + k * 16) P2).toArray)) := Lib.hid (setRow_grown (HX3.out.trans hX) _ _ (by omega))
        generalize W.setRow g (putAt (putAt (mixAt C Z k) (k * 16) P1) (512 + k * 16) P2).toArray = V2 at *
        subst hge
        clear hX hK kk
        (try simp only [Exit.then])
        go_wp2_with fail
        go_roundw
        case rel => exact ⟨k + 1, by omega, by go_num, HX9.out, HB90.out, HB91.out, HB92.out, HB93.out, HB94.out⟩
        case measure => simp [intOf]; omega
    · obtain rfl : k = 32 := by omega
      rw [mixAt_all C Z HCL.out HZL.out] at hb4
      have hcm := hb4.cells
      have hr2 : wr.heap[w.heap.size + 1 + 1 + 1]? = some (.cells Z.toArray 38 (0, 0)) := hb3
      have HX := Lib.hid hx
      clear hx hb0 hb1 hb2 hb3 hb4
      go_wp2_with (first
        | (refine wpList_load_agg _ rfl 38 (.tmp 9) rfl _ rfl C _ Try.underlying38 rfl (rsig_size HCL.out) hcm ?_)
        | (refine wpList_store_row _ rfl 38 (.tmp 8) (.tmp 40) rfl (w.heap.size + 1 + 1 + 1) rfl Z C _ rfl hr2 (rsig_size HCL.out) (by rw [HCL.out, HZL.out]) hone ?_)
        | fail)
      have hc9 := Blk.cells (t := 38) (setRow_at (cs' := C.toArray) hr2)
      (try simp only [Exit.inBlock, Exit.then])
      refine bodyPost_ret (results_agg rfl _ _ _ _ _ rfl Try.underlying38 rfl (rsig_size HCL.out) hc9) rfl ?_
      exact ⟨rfl, setRow_grown HX.out _ _ (by omega)⟩
end Go.Proofs.Ytfoomnibfibfnaa

/- Walks and plain laws, put together in build order. Conditions: what each of them names. -/
import Derived.Test.YtfoomnibfibfnaaW018aa44b82
set_option linter.unusedVariables false
set_option linter.unusedSimpArgs false
set_option linter.unnecessarySimpa false
namespace Go.Proofs.Ytfoomnibfibfnaa
section
open Go.RowKit

theorem tabs_one : ∀ u ∈ tabsC, u.oneCell' = true := by
  intro u hu
  rcases List.mem_cons.1 hu with rfl | hu
  · rfl
  · obtain rfl : u = .string tabRounds := by simpa using hu
    rfl
set_option maxRecDepth 100000 in
set_option maxHeartbeats 8000000 in
theorem Signs (seed : List UInt8) (hs : seed.length = 32) (n : Nat) (hn : (Lit.int .u32 (n : Int)).wf = true) (d : List UInt8) (hd : d.length = 32) (w : World) :
    Calls Try.prog 3 #[.agg (bv seed).toArray, .int .u32 (n : Int), .agg (bv d).toArray] w fun e w' => e = .returned (.bool true) ∧ Ext w w' := by
  have hn32 : n < 4294967296 := by have := bounds_u32 hn; omega
  have hsl : (bv seed).length = 32 := by rw [bv_length]; exact hs
  have hdl : (bv d).length = 32 := by rw [bv_length]; exact hd
  have hnew := fun W => NewKey seed hs n W
  have hlf := fun W => KLeaf seed hs n hn W
  have hrl := fun W => RLeaf seed hs n hn32 W
  have hsg := fun W => Sign seed hs n hn d hd W
  have hrs := fun W => RSign seed hs n hn32 d hd W
  have hfm := fun W => From04 (bv (signM seed n d)) W (by rw [bv_length, signM_length]) (bv_one _)
  have hmk := fun W => Ref_Make W
  have htb : (#[Value.string tabFirst, Value.string tabRounds] : Array Value) = tabsC.toArray := rfl
  rw [htb] at hmk
  have heq := eqD_self (leafM seed n) (leafOf_length _)
  have hes := rsig_same (signM seed n d) (signM_length _ _ _)
  have hts : (Try.prog.info? 25).map (·.size) = some tabsC.length := tabs_size rfl
  obtain ⟨ZT, hzt, hztl⟩ : ∃ ZT : List Value, (Try.prog.info? 25).bind (fun i => i.zero.map (·.cells)) = some ZT.toArray ∧ tabsC.length = ZT.length := ⟨_, tables_zero, rfl⟩
  obtain ⟨ZK, hzk, hzkl⟩ : ∃ ZK : List Value, (Try.prog.info? 28).bind (fun i => i.zero.map (·.cells)) = some ZK.toArray ∧ ZK.length = 33 := ⟨_, key_zero, keyC_len (by simp) 0⟩
  have hkl := keyC_len hs n
  have hko := keyC_one seed n
  have hto := tabs_one
  generalize tabsC = TB at *
  generalize bv (leafM seed n) = LF at *
  generalize bv (signM seed n d) = SG at *
  generalize keyC seed n = KC at *
  have hb0 : Blk ((w.alloc (.cells (bv seed).toArray 22)).alloc (.cells (bv d).toArray 22)) w.heap.size 22 (bv seed) := (Blk.new _ _ _).keep ((Ext.refl _).alloc _) (by simp)
  have hb1 : Blk ((w.alloc (.cells (bv seed).toArray 22)).alloc (.cells (bv d).toArray 22)) (w.heap.size + 1) 22 (bv d) := Blk.fresh (by simp) _ _
  have hx0 : Ext w ((w.alloc (.cells (bv seed).toArray 22)).alloc (.cells (bv d).toArray 22)) := ((Ext.refl w).alloc _).alloc _
  generalize bv seed = SC at *
  generalize bv d = DC at *
  have HB0r := Lib.hid hb0
  have HB1r := Lib.hid hb1
  have HX0 := Lib.hid hx0
  have HSL := Lib.hid hsl
  have HDL := Lib.hid hdl
  have HNEW := Lib.hid hnew
  have HLF := Lib.hid hlf
  have HRL := Lib.hid hrl
  have HSG := Lib.hid hsg
  have HRS := Lib.hid hrs
  have HFM := Lib.hid hfm
  have HMK := Lib.hid hmk
  have HEQ := Lib.hid heq
  have HES := Lib.hid hes
  have HTS := Lib.hid hts
  have HZTL := Lib.hid hztl
  have HZKL := Lib.hid hzkl
  have HKL := Lib.hid hkl
  clear hb0 hb1 hx0 hsl hdl hnew hlf hrl hsg hrs hfm hmk heq hes hts hztl hzkl hkl htb hn32
  go_enter Try.func3, Try.ntmps3
  go_wp2_with fail
  refine (HMK.out _).mono ?_
  rintro e w1 ⟨rfl, hx1⟩
  have hx2 := hx1.alloc (.cells TB.toArray 25)
  have hc0 := (HB0r.out.keep hx2 (by simp)).cells
  go_wp2_with (first
    | (refine wpList_alloc _ rfl 25 rfl _ hzt ?_)
    | (refine wpList_store_new _ rfl 25 (.tmp 7) (.tmp 9) rfl rfl ZT TB _ rfl HTS.out HZTL.out hto ?_)
    | (refine wpList_load_agg _ rfl 22 (.tmp 3) rfl _ rfl SC _ Try.underlying22 rfl (arr_size HSL.out) hc0 ?_)
    | fail)
  refine (HNEW.out _).mono ?_
  rintro e w3 ⟨rfl, hx3⟩
  have hx4 : Ext (w1.alloc (.cells TB.toArray 25)) (w3.alloc (.cells KC.toArray 28)).drew := (hx3.alloc _).trans (Ext.refl _).drew
  have HB0 := Lib.hid ((HB0r.out.keep hx2 (by simp)).keep hx4 (by simp))
  have HB1 := Lib.hid ((HB1r.out.keep hx2 (by simp)).keep hx4 (by simp))
  have HB2 := Lib.hid ((Blk.new w1 25 TB).keep hx4 (by simp))
  have HB3 := Lib.hid ((Blk.new w3 28 KC).keep (Ext.refl _).drew (by simp))
  have HX5 := Lib.hid (HX0.out.trans (hx2.trans hx4))
  clear hx1 hx2 hx3 hx4 hc0 HB0r HB1r HX0
  go_wp2_with (first
    | (refine wpList_alloc _ rfl 28 rfl _ hzk ?_)
    | (refine wpList_store_new _ rfl 28 (.tmp 8) (.tmp 12) rfl rfl ZK KC _ rfl (key_size HKL.out) (by rw [HKL.out, HZKL.out]) hko ?_)
    | fail)
  refine stab_plain Ext ext_refl ext_trans [[0], [0, 1], [0, 1, 2], [0, 1, 2, 3], [0, 1, 4], [0, 1, 5], [0, 1, 6], [0, 1, 2, 3, 4, 5, 6, 7], [0, 1, 2, 3, 4, 5, 6, 7, 8], [0, 1, 2, 3, 4, 5, 6, 7, 8, 9], [0, 1, 2, 3, 4, 5, 6, 7, 8, 9, 10], [0, 1, 2, 3, 4, 5, 6, 7, 8, 9, 10, 11], [0, 1, 2, 3, 4, 5, 6, 7, 8, 9, 10, 12], [0, 1, 2, 3, 4, 5, 6, 7, 8, 9, 10, 11, 12, 13], [0, 1, 2, 3, 4, 5, 6, 7, 8, 9, 10, 11, 12, 13, 14], [0, 1, 2, 3, 4, 5, 6, 7, 8, 9, 10, 15], [0, 1, 2, 3, 4, 5, 6, 7, 8, 9, 10, 16], [0, 1, 2, 3, 4, 5, 6, 7, 8, 9, 10, 17], [0, 1, 2, 3, 4, 5, 6, 7, 8, 9, 10, 18], [0, 1, 2, 3, 4, 5, 6, 7, 8, 9, 10, 11, 12, 13, 14, 15, 16, 17, 18, 19], [0, 1, 2, 3, 4, 5, 6, 7, 8, 9, 10, 11, 12, 13, 14, 15, 16, 17, 18, 19, 20], [0, 1, 2, 3, 4, 5, 6, 7, 8, 9, 10, 11, 12, 13, 14, 15, 16, 17, 18, 19, 20, 21], [0, 1, 2, 3, 4, 5, 6, 7, 8, 9, 10, 11, 12, 13, 14, 15, 16, 17, 18, 19, 20, 21, 22]] (fun i v wv => match i with | 0 => v = .bool true | 1 => v = .bool true | 2 => v = .agg KC.toArray | 3 => v = .agg LF.toArray | 4 => v = .agg TB.toArray | 5 => v = .agg SC.toArray | 6 => v = .int .u32 (n : Int) | 7 => v = .agg LF.toArray | 8 => v = .bool true | 9 => v = .bool true | 10 => v = .bool true | 11 => v = .agg KC.toArray | 12 => v = .agg DC.toArray | 13 => v = .agg SG.toArray | 14 => v = .agg SG.toArray | 15 => v = .agg TB.toArray | 16 => v = .agg SC.toArray | 17 => v = .int .u32 (n : Int) | 18 => v = .agg DC.toArray | 19 => v = .agg SG.toArray | 20 => v = .bool true | 21 => v = .bool true | 22 => v = .bool true | _ => True) (by kernel_rfl) (by kernel_rfl) (by kernel_rfl) ?_ ?_ ?_
  · intro i v w1 w2 h hx
    match i, h with
    | 0, h => exact h
    | 1, h => exact h
    | 2, h => exact h
    | 3, h => exact h
    | 4, h => exact h
    | 5, h => exact h
    | 6, h => exact h
    | 7, h => exact h
    | 8, h => exact h
    | 9, h => exact h
    | 10, h => exact h
    | 11, h => exact h
    | 12, h => exact h
    | 13, h => exact h
    | 14, h => exact h
    | 15, h => exact h
    | 16, h => exact h
    | 17, h => exact h
    | 18, h => exact h
    | 19, h => exact h
    | 20, h => exact h
    | 21, h => exact h
    | 22, h => exact h
    | i + 23, h => trivial
  · intro i hi o ho
    match i, hi, ho with
    | 0, _, ho =>
      obtain rfl := Option.some.inj ho
      intro s W hX hd K hK
      rw [if_pos (wanted_plain rfl)]
      clear hd
      replace hK : ∀ (v : Value) (W' : World), Ext W W' → (v = .bool true) → _ := hK
      simp only [mkOf, List.map_cons, List.map_nil, Act.put, List.setIfInBounds_toArray, List.set_cons_succ, List.set_cons_zero, Nat.reduceAdd, Nat.zero_add] at hK ⊢
      go_simp
      refine (LAwake _).mono ?_
      rintro e w' ⟨rfl, hx⟩
      exact hK _ _ hx rfl
    | 1, _, ho =>
      obtain rfl := Option.some.inj ho
      intro s W hX hd K hK
      rw [if_pos (wanted_plain rfl)]
      have d13 : (s 0) = .bool true := hd 0 (by decide) (by decide)
      clear hd
      replace hK : ∀ (v : Value) (W' : World), Ext W W' → (v = .bool true) → _ := hK
      simp only [mkOf, List.map_cons, List.map_nil, Act.put, List.setIfInBounds_toArray, List.set_cons_succ, List.set_cons_zero, Nat.reduceAdd, Nat.zero_add] at hK ⊢
      simp only [d13] at hK ⊢
      go_simp
      exact hK _ _ (Ext.refl _) rfl
    | 2, _, ho =>
      obtain rfl := Option.some.inj ho
      intro s W hX hd K hK
      have d14 : (s 1) = .bool true := hd 1 (by decide) (by decide)
      clear hd
      replace hK : ∀ (v : Value) (W' : World), Ext W W' → (v = .agg KC.toArray) → _ := hK
      simp only [mkOf, List.map_cons, List.map_nil, Act.put, List.setIfInBounds_toArray, List.set_cons_succ, List.set_cons_zero, Nat.reduceAdd, Nat.zero_add] at hK ⊢
      simp only [d14] at hK ⊢
      rw [if_pos (by kernel_rfl)]
      refine wp_load_agg 28 (.tmp 8) rfl _ rfl KC _ Try.underlying28 rfl (key_size HKL.out) (HB3.out.keep hX (by simp)).cells ?_
      exact hK _ _ (Ext.refl _) rfl
    | 3, _, ho =>
      obtain rfl := Option.some.inj ho
      intro s W hX hd K hK
      have d14 : (s 1) = .bool true := hd 1 (by decide) (by decide)
      have d15 : (s 2) = .agg KC.toArray := hd 2 (by decide) (by decide)
      clear hd
      replace hK : ∀ (v : Value) (W' : World), Ext W W' → (v = .agg LF.toArray) → _ := hK
      simp only [mkOf, List.map_cons, List.map_nil, Act.put, List.setIfInBounds_toArray, List.set_cons_succ, List.set_cons_zero, Nat.reduceAdd, Nat.zero_add] at hK ⊢
      simp only [d14, d15] at hK ⊢
      rw [if_pos (by kernel_rfl)]
      go_simp
      refine (HLF.out _).mono ?_
      rintro e w' ⟨rfl, hx⟩
      exact hK _ _ hx rfl
    | 4, _, ho =>
      obtain rfl := Option.some.inj ho
      intro s W hX hd K hK
      have d14 : (s 1) = .bool true := hd 1 (by decide) (by decide)
      clear hd
      replace hK : ∀ (v : Value) (W' : World), Ext W W' → (v = .agg TB.toArray) → _ := hK
      simp only [mkOf, List.map_cons, List.map_nil, Act.put, List.setIfInBounds_toArray, List.set_cons_succ, List.set_cons_zero, Nat.reduceAdd, Nat.zero_add] at hK ⊢
      simp only [d14] at hK ⊢
      rw [if_pos (by kernel_rfl)]
      refine wp_load_agg 25 (.tmp 7) rfl _ rfl TB _ Try.underlying25 rfl (HTS.out) (HB2.out.keep hX (by simp)).cells ?_
      exact hK _ _ (Ext.refl _) rfl
    | 5, _, ho =>
      obtain rfl := Option.some.inj ho
      intro s W hX hd K hK
      have d14 : (s 1) = .bool true := hd 1 (by decide) (by decide)
      clear hd
      replace hK : ∀ (v : Value) (W' : World), Ext W W' → (v = .agg SC.toArray) → _ := hK
      simp only [mkOf, List.map_cons, List.map_nil, Act.put, List.setIfInBounds_toArray, List.set_cons_succ, List.set_cons_zero, Nat.reduceAdd, Nat.zero_add] at hK ⊢
      simp only [d14] at hK ⊢
      rw [if_pos (by kernel_rfl)]
      refine wp_load_agg 22 (.tmp 3) rfl _ rfl SC _ Try.underlying22 rfl (arr_size HSL.out) (HB0.out.keep hX (by simp)).cells ?_
      exact hK _ _ (Ext.refl _) rfl
    | 6, _, ho =>
      obtain rfl := Option.some.inj ho
      intro s W hX hd K hK
      have d14 : (s 1) = .bool true := hd 1 (by decide) (by decide)
      clear hd
      replace hK : ∀ (v : Value) (W' : World), Ext W W' → (v = .int .u32 (n : Int)) → _ := hK
      simp only [mkOf, List.map_cons, List.map_nil, Act.put, List.setIfInBounds_toArray, List.set_cons_succ, List.set_cons_zero, Nat.reduceAdd, Nat.zero_add] at hK ⊢
      simp only [d14] at hK ⊢
      rw [if_pos (by kernel_rfl)]
      go_simp
      exact hK _ _ (Ext.refl _) rfl
    | 7, _, ho =>
      obtain rfl := Option.some.inj ho
      intro s W hX hd K hK
      have d14 : (s 1) = .bool true := hd 1 (by decide) (by decide)
      have d17 : (s 4) = .agg TB.toArray := hd 4 (by decide) (by decide)
      have d18 : (s 5) = .agg SC.toArray := hd 5 (by decide) (by decide)
      have d19 : (s 6) = .int .u32 (n : Int) := hd 6 (by decide) (by decide)
      clear hd
      replace hK : ∀ (v : Value) (W' : World), Ext W W' → (v = .agg LF.toArray) → _ := hK
      simp only [mkOf, List.map_cons, List.map_nil, Act.put, List.setIfInBounds_toArray, List.set_cons_succ, List.set_cons_zero, Nat.reduceAdd, Nat.zero_add] at hK ⊢
      simp only [d14, d17, d18, d19] at hK ⊢
      rw [if_pos (by kernel_rfl)]
      go_simp
      refine (HRL.out _).mono ?_
      rintro e w' ⟨rfl, hx⟩
      exact hK _ _ hx rfl
    | 8, _, ho =>
      obtain rfl := Option.some.inj ho
      intro s W hX hd K hK
      have d14 : (s 1) = .bool true := hd 1 (by decide) (by decide)
      have d16 : (s 3) = .agg LF.toArray := hd 3 (by decide) (by decide)
      have d20 : (s 7) = .agg LF.toArray := hd 7 (by decide) (by decide)
      clear hd
      replace hK : ∀ (v : Value) (W' : World), Ext W W' → (v = .bool true) → _ := hK
      simp only [mkOf, List.map_cons, List.map_nil, Act.put, List.setIfInBounds_toArray, List.set_cons_succ, List.set_cons_zero, Nat.reduceAdd, Nat.zero_add] at hK ⊢
      simp only [d14, d16, d20] at hK ⊢
      rw [if_pos (by kernel_rfl)]
      refine wp_bin2 .eql 31 (.tmp 16) (.tmp 20) rfl _ _ rfl rfl (HEQ.out.1 _ _ W) (HEQ.out.2 W) ?_
      exact hK _ _ (Ext.refl _) rfl
    | 9, _, ho =>
      obtain rfl := Option.some.inj ho
      intro s W hX hd K hK
      rw [if_pos (wanted_plain rfl)]
      have d14 : (s 1) = .bool true := hd 1 (by decide) (by decide)
      have d21 : (s 8) = .bool true := hd 8 (by decide) (by decide)
      clear hd
      replace hK : ∀ (v : Value) (W' : World), Ext W W' → (v = .bool true) → _ := hK
      simp only [mkOf, List.map_cons, List.map_nil, Act.put, List.setIfInBounds_toArray, List.set_cons_succ, List.set_cons_zero, Nat.reduceAdd, Nat.zero_add] at hK ⊢
      simp only [d14, d21] at hK ⊢
      go_simp
      exact hK _ _ (Ext.refl _) rfl
    | 10, _, ho =>
      obtain rfl := Option.some.inj ho
      intro s W hX hd K hK
      rw [if_pos (wanted_plain rfl)]
      have d22 : (s 9) = .bool true := hd 9 (by decide) (by decide)
      clear hd
      replace hK : ∀ (v : Value) (W' : World), Ext W W' → (v = .bool true) → _ := hK
      simp only [mkOf, List.map_cons, List.map_nil, Act.put, List.setIfInBounds_toArray, List.set_cons_succ, List.set_cons_zero, Nat.reduceAdd, Nat.zero_add] at hK ⊢
      simp only [d22] at hK ⊢
      go_simp
      exact hK _ _ (Ext.refl _) rfl
    | 11, _, ho =>
      obtain rfl := Option.some.inj ho
      intro s W hX hd K hK
      have d23 : (s 10) = .bool true := hd 10 (by decide) (by decide)
      clear hd
      replace hK : ∀ (v : Value) (W' : World), Ext W W' → (v = .agg KC.toArray) → _ := hK
      simp only [mkOf, List.map_cons, List.map_nil, Act.put, List.setIfInBounds_toArray, List.set_cons_succ, List.set_cons_zero, Nat.reduceAdd, Nat.zero_add] at hK ⊢
      simp only [d23] at hK ⊢
      rw [if_pos (by kernel_rfl)]
      refine wp_load_agg 28 (.tmp 8) rfl _ rfl KC _ Try.underlying28 rfl (key_size HKL.out) (HB3.out.keep hX (by simp)).cells ?_
      exact hK _ _ (Ext.refl _) rfl
    | 12, _, ho =>
      obtain rfl := Option.some.inj ho
      intro s W hX hd K hK
      have d23 : (s 10) = .bool true := hd 10 (by decide) (by decide)
      clear hd
      replace hK : ∀ (v : Value) (W' : World), Ext W W' → (v = .agg DC.toArray) → _ := hK
      simp only [mkOf, List.map_cons, List.map_nil, Act.put, List.setIfInBounds_toArray, List.set_cons_succ, List.set_cons_zero, Nat.reduceAdd, Nat.zero_add] at hK ⊢
      simp only [d23] at hK ⊢
      rw [if_pos (by kernel_rfl)]
      refine wp_load_agg 22 (.tmp 5) rfl _ rfl DC _ Try.underlying22 rfl (arr_size HDL.out) (HB1.out.keep hX (by simp)).cells ?_
      exact hK _ _ (Ext.refl _) rfl
    | 13, _, ho =>
      obtain rfl := Option.some.inj ho
      intro s W hX hd K hK
      have d23 : (s 10) = .bool true := hd 10 (by decide) (by decide)
      have d24 : (s 11) = .agg KC.toArray := hd 11 (by decide) (by decide)
      have d25 : (s 12) = .agg DC.toArray := hd 12 (by decide) (by decide)
      clear hd
      replace hK : ∀ (v : Value) (W' : World), Ext W W' → (v = .agg SG.toArray) → _ := hK
      simp only [mkOf, List.map_cons, List.map_nil, Act.put, List.setIfInBounds_toArray, List.set_cons_succ, List.set_cons_zero, Nat.reduceAdd, Nat.zero_add] at hK ⊢
      simp only [d23, d24, d25] at hK ⊢
      rw [if_pos (by kernel_rfl)]
      go_simp
      refine (HSG.out _).mono ?_
      rintro e w' ⟨rfl, hx⟩
      exact hK _ _ hx rfl
    | 14, _, ho =>
      obtain rfl := Option.some.inj ho
      intro s W hX hd K hK
      have d23 : (s 10) = .bool true := hd 10 (by decide) (by decide)
      have d26 : (s 13) = .agg SG.toArray := hd 13 (by decide) (by decide)
      clear hd
      replace hK : ∀ (v : Value) (W' : World), Ext W W' → (v = .agg SG.toArray) → _ := hK
      simp only [mkOf, List.map_cons, List.map_nil, Act.put, List.setIfInBounds_toArray, List.set_cons_succ, List.set_cons_zero, Nat.reduceAdd, Nat.zero_add] at hK ⊢
      simp only [d23, d26] at hK ⊢
      rw [if_pos (by kernel_rfl)]
      go_simp
      refine (HFM.out _).mono ?_
      rintro e w' ⟨rfl, hx⟩
      exact hK _ _ hx rfl
    | 15, _, ho =>
      obtain rfl := Option.some.inj ho
      intro s W hX hd K hK
      have d23 : (s 10) = .bool true := hd 10 (by decide) (by decide)
      clear hd
      replace hK : ∀ (v : Value) (W' : World), Ext W W' → (v = .agg TB.toArray) → _ := hK
      simp only [mkOf, List.map_cons, List.map_nil, Act.put, List.setIfInBounds_toArray, List.set_cons_succ, List.set_cons_zero, Nat.reduceAdd, Nat.zero_add] at hK ⊢
      simp only [d23] at hK ⊢
      rw [if_pos (by kernel_rfl)]
      refine wp_load_agg 25 (.tmp 7) rfl _ rfl TB _ Try.underlying25 rfl (HTS.out) (HB2.out.keep hX (by simp)).cells ?_
      exact hK _ _ (Ext.refl _) rfl
    | 16, _, ho =>
      obtain rfl := Option.some.inj ho
      intro s W hX hd K hK
      have d23 : (s 10) = .bool true := hd 10 (by decide) (by decide)
      clear hd
      replace hK : ∀ (v : Value) (W' : World), Ext W W' → (v = .agg SC.toArray) → _ := hK
      simp only [mkOf, List.map_cons, List.map_nil, Act.put, List.setIfInBounds_toArray, List.set_cons_succ, List.set_cons_zero, Nat.reduceAdd, Nat.zero_add] at hK ⊢
      simp only [d23] at hK ⊢
      rw [if_pos (by kernel_rfl)]
      refine wp_load_agg 22 (.tmp 3) rfl _ rfl SC _ Try.underlying22 rfl (arr_size HSL.out) (HB0.out.keep hX (by simp)).cells ?_
      exact hK _ _ (Ext.refl _) rfl
    | 17, _, ho =>
      obtain rfl := Option.some.inj ho
      intro s W hX hd K hK
      have d23 : (s 10) = .bool true := hd 10 (by decide) (by decide)
      clear hd
      replace hK : ∀ (v : Value) (W' : World), Ext W W' → (v = .int .u32 (n : Int)) → _ := hK
      simp only [mkOf, List.map_cons, List.map_nil, Act.put, List.setIfInBounds_toArray, List.set_cons_succ, List.set_cons_zero, Nat.reduceAdd, Nat.zero_add] at hK ⊢
      simp only [d23] at hK ⊢
      rw [if_pos (by kernel_rfl)]
      go_simp
      exact hK _ _ (Ext.refl _) rfl
    | 18, _, ho =>
      obtain rfl := Option.some.inj ho
      intro s W hX hd K hK
      have d23 : (s 10) = .bool true := hd 10 (by decide) (by decide)
      clear hd
      replace hK : ∀ (v : Value) (W' : World), Ext W W' → (v = .agg DC.toArray) → _ := hK
      simp only [mkOf, List.map_cons, List.map_nil, Act.put, List.setIfInBounds_toArray, List.set_cons_succ, List.set_cons_zero, Nat.reduceAdd, Nat.zero_add] at hK ⊢
      simp only [d23] at hK ⊢
      rw [if_pos (by kernel_rfl)]
      refine wp_load_agg 22 (.tmp 5) rfl _ rfl DC _ Try.underlying22 rfl (arr_size HDL.out) (HB1.out.keep hX (by simp)).cells ?_
      exact hK _ _ (Ext.refl _) rfl
    | 19, _, ho =>
      obtain rfl := Option.some.inj ho
      intro s W hX hd K hK
      have d23 : (s 10) = .bool true := hd 10 (by decide) (by decide)
      have d28 : (s 15) = .agg TB.toArray := hd 15 (by decide) (by decide)
      have d29 : (s 16) = .agg SC.toArray := hd 16 (by decide) (by decide)
      have d30 : (s 17) = .int .u32 (n : Int) := hd 17 (by decide) (by decide)
      have d31 : (s 18) = .agg DC.toArray := hd 18 (by decide) (by decide)
      clear hd
      replace hK : ∀ (v : Value) (W' : World), Ext W W' → (v = .agg SG.toArray) → _ := hK
      simp only [mkOf, List.map_cons, List.map_nil, Act.put, List.setIfInBounds_toArray, List.set_cons_succ, List.set_cons_zero, Nat.reduceAdd, Nat.zero_add] at hK ⊢
      simp only [d23, d28, d29, d30, d31] at hK ⊢
      rw [if_pos (by kernel_rfl)]
      go_simp
      refine (HRS.out _).mono ?_
      rintro e w' ⟨rfl, hx⟩
      exact hK _ _ hx rfl
    | 20, _, ho =>
      obtain rfl := Option.some.inj ho
      intro s W hX hd K hK
      have d23 : (s 10) = .bool true := hd 10 (by decide) (by decide)
      have d27 : (s 14) = .agg SG.toArray := hd 14 (by decide) (by decide)
      have d32 : (s 19) = .agg SG.toArray := hd 19 (by decide) (by decide)
      clear hd
      replace hK : ∀ (v : Value) (W' : World), Ext W W' → (v = .bool true) → _ := hK
      simp only [mkOf, List.map_cons, List.map_nil, Act.put, List.setIfInBounds_toArray, List.set_cons_succ, List.set_cons_zero, Nat.reduceAdd, Nat.zero_add] at hK ⊢
      simp only [d23, d27, d32] at hK ⊢
      rw [if_pos (by kernel_rfl)]
      refine wp_bin2 .eql 38 (.tmp 27) (.tmp 32) rfl _ _ rfl rfl (HES.out.1 _ _ W) (HES.out.2 W) ?_
      exact hK _ _ (Ext.refl _) rfl
    | 21, _, ho =>
      obtain rfl := Option.some.inj ho
      intro s W hX hd K hK
      rw [if_pos (wanted_plain rfl)]
      have d23 : (s 10) = .bool true := hd 10 (by decide) (by decide)
      have d33 : (s 20) = .bool true := hd 20 (by decide) (by decide)
      clear hd
      replace hK : ∀ (v : Value) (W' : World), Ext W W' → (v = .bool true) → _ := hK
      simp only [mkOf, List.map_cons, List.map_nil, Act.put, List.setIfInBounds_toArray, List.set_cons_succ, List.set_cons_zero, Nat.reduceAdd, Nat.zero_add] at hK ⊢
      simp only [d23, d33] at hK ⊢
      go_simp
      exact hK _ _ (Ext.refl _) rfl
    | 22, _, ho =>
      obtain rfl := Option.some.inj ho
      intro s W hX hd K hK
      rw [if_pos (wanted_plain rfl)]
      have d34 : (s 21) = .bool true := hd 21 (by decide) (by decide)
      clear hd
      replace hK : ∀ (v : Value) (W' : World), Ext W W' → (v = .bool true) → _ := hK
      simp only [mkOf, List.map_cons, List.map_nil, Act.put, List.setIfInBounds_toArray, List.set_cons_succ, List.set_cons_zero, Nat.reduceAdd, Nat.zero_add] at hK ⊢
      simp only [d34] at hK ⊢
      go_simp
      exact hK _ _ (Ext.refl _) rfl
    | i + 23, hi, _ => exact absurd hi (by simp)
  · intro s W hX hd
    have d13 : (s 0) = .bool true := hd 0 (by decide)
    have d14 : (s 1) = .bool true := hd 1 (by decide)
    have d15 : (s 2) = .agg KC.toArray := hd 2 (by decide)
    have d16 : (s 3) = .agg LF.toArray := hd 3 (by decide)
    have d17 : (s 4) = .agg TB.toArray := hd 4 (by decide)
    have d18 : (s 5) = .agg SC.toArray := hd 5 (by decide)
    have d19 : (s 6) = .int .u32 (n : Int) := hd 6 (by decide)
    have d20 : (s 7) = .agg LF.toArray := hd 7 (by decide)
    have d21 : (s 8) = .bool true := hd 8 (by decide)
    have d22 : (s 9) = .bool true := hd 9 (by decide)
    have d23 : (s 10) = .bool true := hd 10 (by decide)
    have d24 : (s 11) = .agg KC.toArray := hd 11 (by decide)
    have d25 : (s 12) = .agg DC.toArray := hd 12 (by decide)
    have d26 : (s 13) = .agg SG.toArray := hd 13 (by decide)
    have d27 : (s 14) = .agg SG.toArray := hd 14 (by decide)
    have d28 : (s 15) = .agg TB.toArray := hd 15 (by decide)
    have d29 : (s 16) = .agg SC.toArray := hd 16 (by decide)
    have d30 : (s 17) = .int .u32 (n : Int) := hd 17 (by decide)
    have d31 : (s 18) = .agg DC.toArray := hd 18 (by decide)
    have d32 : (s 19) = .agg SG.toArray := hd 19 (by decide)
    have d33 : (s 20) = .bool true := hd 20 (by decide)
    have d34 : (s 21) = .bool true := hd 21 (by decide)
    have d6 : (s 22) = .bool true := hd 22 (by decide)
    clear hd
    simp only [mkOf, List.map_cons, List.map_nil, Act.put, List.setIfInBounds_toArray, List.set_cons_succ, List.set_cons_zero, Nat.reduceAdd, Nat.zero_add]
    (try simp only [Exit.then])
    go_wp2_with fail
    go_ret
    exact ⟨by simp [d6], HX5.out.trans hX⟩
end
end Go.Proofs.Ytfoomnibfibfnaa

/- The walk of the law LampFroms. Conditions: the signature and the digest have their lengths. -/
import Derived.Test.YtfoomnibfibfnaaLRFrom
set_option linter.unusedVariables false
set_option linter.unusedSimpArgs false
set_option linter.unnecessarySimpa false
namespace Go.Proofs.Ytfoomnibfibfnaa
open Go.RowKit

set_option maxRecDepth 100000 in
set_option maxHeartbeats 4000000 in
theorem Froms (S : List UInt8) (hS : S.length = 1024) (d : List UInt8) (hd : d.length = 32) (w : World) :
    Calls Try.prog 4 #[.agg (bv S).toArray, .agg (bv d).toArray] w fun e w' => e = .returned (.bool true) ∧ Ext w w' := by
  have hcl : (bv S).length = 1024 := by rw [bv_length]; exact hS
  have hdl : (bv d).length = 32 := by rw [bv_length]; exact hd
  have hto := fun W => To04 (bv S) W hcl (bv_one S)
  have hfr := fun W => From S hS d hd W
  have hrf := fun W => RFrom S hS d hd W
  have hmk := fun W => Ref_Make W
  have htb : (#[Value.string tabFirst, Value.string tabRounds] : Array Value) = tabsC.toArray := rfl
  rw [htb] at hmk
  have heq := eqD_self (fromS S d) (leafOf_length _)
  generalize tabsC = TB at *
  generalize bv (fromS S d) = R at *
  generalize bv S = C at *
  generalize bv d = DC at *
  have hb0 : Blk ((w.alloc (.cells C.toArray 38)).alloc (.cells DC.toArray 22)).drew w.heap.size 38 C := ((Blk.new _ _ _).keep ((Ext.refl _).alloc _) (by simp)).keep (Ext.refl _).drew (by simp)
  have hb1 : Blk ((w.alloc (.cells C.toArray 38)).alloc (.cells DC.toArray 22)).drew (w.heap.size + 1) 22 DC := (Blk.fresh (by simp) _ _).keep (Ext.refl _).drew (by simp)
  have hx0 : Ext w ((w.alloc (.cells C.toArray 38)).alloc (.cells DC.toArray 22)).drew := (((Ext.refl w).alloc _).alloc _).trans (Ext.refl _).drew
  have HB0 := Lib.hid hb0
  have HB1 := Lib.hid hb1
  have HX0 := Lib.hid hx0
  have HCL := Lib.hid hcl
  have HDL := Lib.hid hdl
  have HTO := Lib.hid hto
  have HFR := Lib.hid hfr
  have HRF := Lib.hid hrf
  have HMK := Lib.hid hmk
  have HEQ := Lib.hid heq
  clear hb0 hb1 hx0 hcl hdl hto hfr hrf hmk heq htb
  go_enter Try.func4, Try.ntmps4
  go_wp2_with fail
  (try simp only [World.size_alloc])
  refine stab_plain Ext ext_refl ext_trans [[0], [0, 1], [0, 1, 2], [0, 1, 2, 3], [0, 1, 4], [0, 1, 2, 3, 4, 5], [0, 1, 2, 3, 4, 5, 6], [0, 1, 7], [0, 1, 8], [0, 1, 2, 3, 4, 5, 6, 7, 8, 9], [0, 1, 2, 3, 4, 5, 6, 7, 8, 9, 10], [0, 1, 2, 3, 4, 5, 6, 7, 8, 9, 10, 11], [0, 1, 2, 3, 4, 5, 6, 7, 8, 9, 10, 11, 12]] (fun i v wv => match i with | 0 => v = .bool true | 1 => v = .bool true | 2 => v = .agg C.toArray | 3 => v = .agg C.toArray | 4 => v = .agg DC.toArray | 5 => v = .agg R.toArray | 6 => v = .agg TB.toArray | 7 => v = .agg C.toArray | 8 => v = .agg DC.toArray | 9 => v = .agg R.toArray | 10 => v = .bool true | 11 => v = .bool true | 12 => v = .bool true | _ => True) (by kernel_rfl) (by kernel_rfl) (by kernel_rfl) ?_ ?_ ?_
  · intro i v w1 w2 h hx
    match i, h with
    | 0, h => exact h
    | 1, h => exact h
    | 2, h => exact h
    | 3, h => exact h
    | 4, h => exact h
    | 5, h => exact h
    | 6, h => exact h
    | 7, h => exact h
    | 8, h => exact h
    | 9, h => exact h
    | 10, h => exact h
    | 11, h => exact h
    | 12, h => exact h
    | i + 13, h => trivial
  · intro i hi o ho
    match i, hi, ho with
    | 0, _, ho =>
      obtain rfl := Option.some.inj ho
      intro s W hX hd K hK
      rw [if_pos (wanted_plain rfl)]
      clear hd
      replace hK : ∀ (v : Value) (W' : World), Ext W W' → (v = .bool true) → _ := hK
      simp only [mkOf, List.map_cons, List.map_nil, Act.put, List.setIfInBounds_toArray, List.set_cons_succ, List.set_cons_zero, Nat.reduceAdd, Nat.zero_add] at hK ⊢
      go_simp
      refine (LAwake _).mono ?_
      rintro e w' ⟨rfl, hx⟩
      exact hK _ _ hx rfl
    | 1, _, ho =>
      obtain rfl := Option.some.inj ho
      intro s W hX hd K hK
      rw [if_pos (wanted_plain rfl)]
      have d5 : (s 0) = .bool true := hd 0 (by decide) (by decide)
      clear hd
      replace hK : ∀ (v : Value) (W' : World), Ext W W' → (v = .bool true) → _ := hK
      simp only [mkOf, List.map_cons, List.map_nil, Act.put, List.setIfInBounds_toArray, List.set_cons_succ, List.set_cons_zero, Nat.reduceAdd, Nat.zero_add] at hK ⊢
      simp only [d5] at hK ⊢
      go_simp
      exact hK _ _ (Ext.refl _) rfl
    | 2, _, ho =>
      obtain rfl := Option.some.inj ho
      intro s W hX hd K hK
      have d6 : (s 1) = .bool true := hd 1 (by decide) (by decide)
      clear hd
      replace hK : ∀ (v : Value) (W' : World), Ext W W' → (v = .agg C.toArray) → _ := hK
      simp only [mkOf, List.map_cons, List.map_nil, Act.put, List.setIfInBounds_toArray, List.set_cons_succ, List.set_cons_zero, Nat.reduceAdd, Nat.zero_add] at hK ⊢
      simp only [d6] at hK ⊢
      rw [if_pos (by kernel_rfl)]
      refine wp_load_agg 38 (.tmp 2) rfl _ rfl C _ Try.underlying38 rfl (rsig_size HCL.out) (HB0.out.keep hX (by simp)).cells ?_
      exact hK _ _ (Ext.refl _) rfl
    | 3, _, ho =>
      obtain rfl := Option.some.inj ho
      intro s W hX hd K hK
      have d6 : (s 1) = .bool true := hd 1 (by decide) (by decide)
      have d7 : (s 2) = .agg C.toArray := hd 2 (by decide) (by decide)
      clear hd
      replace hK : ∀ (v : Value) (W' : World), Ext W W' → (v = .agg C.toArray) → _ := hK
      simp only [mkOf, List.map_cons, List.map_nil, Act.put, List.setIfInBounds_toArray, List.set_cons_succ, List.set_cons_zero, Nat.reduceAdd, Nat.zero_add] at hK ⊢
      simp only [d6, d7] at hK ⊢
      rw [if_pos (by kernel_rfl)]
      go_simp
      refine (HTO.out _).mono ?_
      rintro e w' ⟨rfl, hx⟩
      exact hK _ _ hx rfl
    | 4, _, ho =>
      obtain rfl := Option.some.inj ho
      intro s W hX hd K hK
      have d6 : (s 1) = .bool true := hd 1 (by decide) (by decide)
      clear hd
      replace hK : ∀ (v : Value) (W' : World), Ext W W' → (v = .agg DC.toArray) → _ := hK
      simp only [mkOf, List.map_cons, List.map_nil, Act.put, List.setIfInBounds_toArray, List.set_cons_succ, List.set_cons_zero, Nat.reduceAdd, Nat.zero_add] at hK ⊢
      simp only [d6] at hK ⊢
      rw [if_pos (by kernel_rfl)]
      refine wp_load_agg 22 (.tmp 3) rfl _ rfl DC _ Try.underlying22 rfl (arr_size HDL.out) (HB1.out.keep hX (by simp)).cells ?_
      exact hK _ _ (Ext.refl _) rfl
    | 5, _, ho =>
      obtain rfl := Option.some.inj ho
      intro s W hX hd K hK
      have d6 : (s 1) = .bool true := hd 1 (by decide) (by decide)
      have d8 : (s 3) = .agg C.toArray := hd 3 (by decide) (by decide)
      have d9 : (s 4) = .agg DC.toArray := hd 4 (by decide) (by decide)
      clear hd
      replace hK : ∀ (v : Value) (W' : World), Ext W W' → (v = .agg R.toArray) → _ := hK
      simp only [mkOf, List.map_cons, List.map_nil, Act.put, List.setIfInBounds_toArray, List.set_cons_succ, List.set_cons_zero, Nat.reduceAdd, Nat.zero_add] at hK ⊢
      simp only [d6, d8, d9] at hK ⊢
      rw [if_pos (by kernel_rfl)]
      go_simp
      refine (HFR.out _).mono ?_
      rintro e w' ⟨rfl, hx⟩
      exact hK _ _ hx rfl
    | 6, _, ho =>
      obtain rfl := Option.some.inj ho
      intro s W hX hd K hK
      have d6 : (s 1) = .bool true := hd 1 (by decide) (by decide)
      clear hd
      replace hK : ∀ (v : Value) (W' : World), Ext W W' → (v = .agg TB.toArray) → _ := hK
      simp only [mkOf, List.map_cons, List.map_nil, Act.put, List.setIfInBounds_toArray, List.set_cons_succ, List.set_cons_zero, Nat.reduceAdd, Nat.zero_add] at hK ⊢
      simp only [d6] at hK ⊢
      rw [if_pos (by kernel_rfl)]
      go_simp
      refine (HMK.out _).mono ?_
      rintro e w' ⟨rfl, hx⟩
      exact hK _ _ hx rfl
    | 7, _, ho =>
      obtain rfl := Option.some.inj ho
      intro s W hX hd K hK
      have d6 : (s 1) = .bool true := hd 1 (by decide) (by decide)
      clear hd
      replace hK : ∀ (v : Value) (W' : World), Ext W W' → (v = .agg C.toArray) → _ := hK
      simp only [mkOf, List.map_cons, List.map_nil, Act.put, List.setIfInBounds_toArray, List.set_cons_succ, List.set_cons_zero, Nat.reduceAdd, Nat.zero_add] at hK ⊢
      simp only [d6] at hK ⊢
      rw [if_pos (by kernel_rfl)]
      refine wp_load_agg 38 (.tmp 2) rfl _ rfl C _ Try.underlying38 rfl (rsig_size HCL.out) (HB0.out.keep hX (by simp)).cells ?_
      exact hK _ _ (Ext.refl _) rfl
    | 8, _, ho =>
      obtain rfl := Option.some.inj ho
      intro s W hX hd K hK
      have d6 : (s 1) = .bool true := hd 1 (by decide) (by decide)
      clear hd
      replace hK : ∀ (v : Value) (W' : World), Ext W W' → (v = .agg DC.toArray) → _ := hK
      simp only [mkOf, List.map_cons, List.map_nil, Act.put, List.setIfInBounds_toArray, List.set_cons_succ, List.set_cons_zero, Nat.reduceAdd, Nat.zero_add] at hK ⊢
      simp only [d6] at hK ⊢
      rw [if_pos (by kernel_rfl)]
      refine wp_load_agg 22 (.tmp 3) rfl _ rfl DC _ Try.underlying22 rfl (arr_size HDL.out) (HB1.out.keep hX (by simp)).cells ?_
      exact hK _ _ (Ext.refl _) rfl
    | 9, _, ho =>
      obtain rfl := Option.some.inj ho
      intro s W hX hd K hK
      have d6 : (s 1) = .bool true := hd 1 (by decide) (by decide)
      have d11 : (s 6) = .agg TB.toArray := hd 6 (by decide) (by decide)
      have d12 : (s 7) = .agg C.toArray := hd 7 (by decide) (by decide)
      have d13 : (s 8) = .agg DC.toArray := hd 8 (by decide) (by decide)
      clear hd
      replace hK : ∀ (v : Value) (W' : World), Ext W W' → (v = .agg R.toArray) → _ := hK
      simp only [mkOf, List.map_cons, List.map_nil, Act.put, List.setIfInBounds_toArray, List.set_cons_succ, List.set_cons_zero, Nat.reduceAdd, Nat.zero_add] at hK ⊢
      simp only [d6, d11, d12, d13] at hK ⊢
      rw [if_pos (by kernel_rfl)]
      go_simp
      refine (HRF.out _).mono ?_
      rintro e w' ⟨rfl, hx⟩
      exact hK _ _ hx rfl
    | 10, _, ho =>
      obtain rfl := Option.some.inj ho
      intro s W hX hd K hK
      have d6 : (s 1) = .bool true := hd 1 (by decide) (by decide)
      have d10 : (s 5) = .agg R.toArray := hd 5 (by decide) (by decide)
      have d14 : (s 9) = .agg R.toArray := hd 9 (by decide) (by decide)
      clear hd
      replace hK : ∀ (v : Value) (W' : World), Ext W W' → (v = .bool true) → _ := hK
      simp only [mkOf, List.map_cons, List.map_nil, Act.put, List.setIfInBounds_toArray, List.set_cons_succ, List.set_cons_zero, Nat.reduceAdd, Nat.zero_add] at hK ⊢
      simp only [d6, d10, d14] at hK ⊢
      rw [if_pos (by kernel_rfl)]
      refine wp_bin2 .eql 31 (.tmp 10) (.tmp 14) rfl _ _ rfl rfl (HEQ.out.1 _ _ W) (HEQ.out.2 W) ?_
      exact hK _ _ (Ext.refl _) rfl
    | 11, _, ho =>
      obtain rfl := Option.some.inj ho
      intro s W hX hd K hK
      rw [if_pos (wanted_plain rfl)]
      have d6 : (s 1) = .bool true := hd 1 (by decide) (by decide)
      have d15 : (s 10) = .bool true := hd 10 (by decide) (by decide)
      clear hd
      replace hK : ∀ (v : Value) (W' : World), Ext W W' → (v = .bool true) → _ := hK
      simp only [mkOf, List.map_cons, List.map_nil, Act.put, List.setIfInBounds_toArray, List.set_cons_succ, List.set_cons_zero, Nat.reduceAdd, Nat.zero_add] at hK ⊢
      simp only [d6, d15] at hK ⊢
      go_simp
      exact hK _ _ (Ext.refl _) rfl
    | 12, _, ho =>
      obtain rfl := Option.some.inj ho
      intro s W hX hd K hK
      rw [if_pos (wanted_plain rfl)]
      have d16 : (s 11) = .bool true := hd 11 (by decide) (by decide)
      clear hd
      replace hK : ∀ (v : Value) (W' : World), Ext W W' → (v = .bool true) → _ := hK
      simp only [mkOf, List.map_cons, List.map_nil, Act.put, List.setIfInBounds_toArray, List.set_cons_succ, List.set_cons_zero, Nat.reduceAdd, Nat.zero_add] at hK ⊢
      simp only [d16] at hK ⊢
      go_simp
      exact hK _ _ (Ext.refl _) rfl
    | i + 13, hi, _ => exact absurd hi (by simp)
  · intro s W hX hd
    have d5 : (s 0) = .bool true := hd 0 (by decide)
    have d6 : (s 1) = .bool true := hd 1 (by decide)
    have d7 : (s 2) = .agg C.toArray := hd 2 (by decide)
    have d8 : (s 3) = .agg C.toArray := hd 3 (by decide)
    have d9 : (s 4) = .agg DC.toArray := hd 4 (by decide)
    have d10 : (s 5) = .agg R.toArray := hd 5 (by decide)
    have d11 : (s 6) = .agg TB.toArray := hd 6 (by decide)
    have d12 : (s 7) = .agg C.toArray := hd 7 (by decide)
    have d13 : (s 8) = .agg DC.toArray := hd 8 (by decide)
    have d14 : (s 9) = .agg R.toArray := hd 9 (by decide)
    have d15 : (s 10) = .bool true := hd 10 (by decide)
    have d16 : (s 11) = .bool true := hd 11 (by decide)
    have d4 : (s 12) = .bool true := hd 12 (by decide)
    clear hd
    simp only [mkOf, List.map_cons, List.map_nil, Act.put, List.setIfInBounds_toArray, List.set_cons_succ, List.set_cons_zero, Nat.reduceAdd, Nat.zero_add]
    (try simp only [Exit.then])
    go_wp2_with fail
    go_ret
    exact ⟨by simp [d4], HX0.out.trans hX⟩
end Go.Proofs.Ytfoomnibfibfnaa

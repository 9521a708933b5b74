/- Walks and plain laws, put together in build order. Conditions: what each of them names. -/
import Derived.Test.YtpdkmapogncgmaaW77f8c30e21
set_option linter.unusedVariables false
set_option linter.unusedSimpArgs false
set_option linter.unnecessarySimpa false
namespace Go.Proofs.Ytpdkmapogncgmaa
section
open Go.RowKit

set_option maxRecDepth 100000 in
set_option maxHeartbeats 8000000 in
theorem KeysEarly (seed : List UInt8) (tall : Int) (htall : (Lit.int .i64 tall).wf = true) (hbad : tall < 0 ∨ 3 < tall) (v2 v3 : Value) (DC : List Value) (w : World) (hsl : seed.length = 32) :
    Calls Try.prog 6 #[.agg (bv seed).toArray, .int .i64 tall, v2, v3, .agg DC.toArray] w fun e w' => e = .returned (.bool true) ∧ Ext w w' := by
  have hrt := fun W => RRight tall W
  have hsl2 : (bv seed).length = 32 := by rw [bv_length]; exact hsl
  have hnw := fun (h : tall < 0 ∨ 8 < tall) W => Ring_New_bad seed tall htall h W
  have hx0 : Ext w ((w.alloc (.cells (bv seed).toArray 31)).alloc (.cells DC.toArray 31)) := ((Ext.refl w).alloc _).alloc _
  have hbs : Blk ((w.alloc (.cells (bv seed).toArray 31)).alloc (.cells DC.toArray 31)) w.heap.size 31 (bv seed) := (Blk.new _ _ _).keep ((Ext.refl _).alloc _) (by simp)
  generalize bv seed = SC at *
  have hcs := hbs.cells
  have HSL := Lib.hid hsl2
  have HX0 := Lib.hid hx0
  have HCS := Lib.hid hcs
  by_cases h8 : 3 < tall ∧ tall ≤ 8
  · have hdec : decide (0 ≤ tall ∧ tall ≤ 8) = true := decide_eq_true (by omega)
    rw [hdec] at hrt
    have HRT := Lib.hid hrt
    obtain ⟨h3, h8b⟩ := h8
    clear hrt hnw hx0 hbs hcs hsl2 hsl hbad hdec
    go_enter Try.func6, Try.ntmps6
    go_wp2_with (first
      | (go_at_call 22; refine (HRT.out _).mono ?_; rintro e w2 ⟨rfl, rfl⟩)
      | (go_at_call 9; refine (Awake05 _).mono ?_; rintro e w9 ⟨rfl, hx9⟩)
      | fail)
    go_ret
    exact ⟨rfl, HX0.out.trans hx9⟩
  · have hbad2 : tall < 0 ∨ 8 < tall := by omega
    have hdec : decide (0 ≤ tall ∧ tall ≤ 8) = false := decide_eq_false (by omega)
    rw [hdec] at hrt
    have HRT := Lib.hid hrt
    have HNW := Lib.hid (hnw hbad2)
    clear hrt hnw hx0 hbs hcs hsl2 hsl hdec h8 hbad
    by_cases h3 : 3 < tall
    · clear hbad2
      go_enter Try.func6, Try.ntmps6
      go_wp2_with (first
        | (go_at_call 22; refine (HRT.out _).mono ?_; rintro e w2 ⟨rfl, rfl⟩)
        | ((with_reducible refine wpDst 31 rfl ?_); refine wpList_load_agg _ rfl 31 (.tmp 5) rfl _ rfl SC _ Try.underlying31 rfl (szElTo05 HSL.out) (by exact HCS.out) ?_)
        | (go_at_call 14; refine (HNW.out _).mono ?_; rintro e w3 ⟨rfl, hx3⟩)
        | (go_at_call 9; refine (Awake05 _).mono ?_; rintro e w9 ⟨rfl, hx9⟩)
        | fail)
      go_ret
      exact ⟨rfl, (HX0.out.trans hx3).trans hx9⟩
    · clear hbad2
      go_enter Try.func6, Try.ntmps6
      go_wp2_with (first
        | (go_at_call 22; refine (HRT.out _).mono ?_; rintro e w2 ⟨rfl, rfl⟩)
        | ((with_reducible refine wpDst 31 rfl ?_); refine wpList_load_agg _ rfl 31 (.tmp 5) rfl _ rfl SC _ Try.underlying31 rfl (szElTo05 HSL.out) (by exact HCS.out) ?_)
        | (go_at_call 14; refine (HNW.out _).mono ?_; rintro e w3 ⟨rfl, hx3⟩)
        | (go_at_call 9; refine (Awake05 _).mono ?_; rintro e w9 ⟨rfl, hx9⟩)
        | fail)
      go_ret
      exact ⟨rfl, (HX0.out.trans hx3).trans hx9⟩
set_option maxRecDepth 100000 in
set_option maxHeartbeats 40000000 in
theorem KeysAll (seed : List UInt8) (hs : seed.length = 32) (n : Nat) (hn3 : n ≤ 3) (ks : List Nat) (A1 : Option Addr) (c1 : Nat) (qs : List UInt8) (A2 : Option Addr) (c2 : Nat) (d : Dg) (hd : List.length (α := UInt8) d = 32) (Fa : Fp) (w : World)
    (hk : (Ty.sl (.nat .u32)).holds w Fa [.slice A1 ks.length c1] ks) (hq : (Ty.sl .u8).holds w Fa [.slice A2 qs.length c2] qs) (hF : ∀ b, Fa b → b < w.heap.size) :
    Calls Try.prog 6 #[.agg (bv seed).toArray, .int .i64 (n : Int), .slice A1 ks.length c1, .slice A2 qs.length c2, .agg (bv d).toArray] w fun e w' => e = .returned (.bool true) ∧ Ext w w' := by
  obtain ⟨A1', c1', xs, hv1, k1, k2, k3, k4, k5⟩ := hk
  obtain ⟨A2', c2', ys, hv2, j1, j2, j3, j4, j5⟩ := hq
  cases hv1
  cases hv2
  unfold maxLen at k2 j2
  have hn8 : n ≤ 8 := by omega
  have hpl := pow_low hn8
  have hsl : (bv seed).length = 32 := by rw [bv_length]; exact hs
  have hdl : (bv d).length = 32 := by rw [bv_length]; exact hd
  have hrt : ∀ W, Calls Try.prog 22 #[.int .i64 (n : Int)] W fun e w' => e = .returned (.bool true) ∧ W = w' := fun W => by
    have h := RRight (n : Int) W
    rw [decide_eq_true (show (0 : Int) ≤ n ∧ (n : Int) ≤ 8 by omega)] at h
    exact h
  have hnw := fun W => Ring_New seed hs n hn8 W
  have hrw := fun W => RRows seed hs n hn8 W
  have hpw := fun W => RPower n hn8 W
  have hmk := fun W => Ref_Make W
  have htb : (#[Value.string tabFirst, Value.string tabRounds] : Array Value) = tabsC.toArray := rfl
  rw [htb] at hmk
  have hts : (Try.prog.info? 44).map (·.size) = some tabsC.length := tabs_size rfl
  obtain ⟨ZT, hzt, hztl⟩ := tabs_zeroK
  have htone := tabs_one
  have hrsg := fun (key : Nat) (h : key < 2 ^ n) R F W => RRing_Sign seed hs n hn8 key h d hd R F W
  have hsign := fun (key : Nat) hkey (hk : key < 2 ^ n) (tk : List Bool) (W : World) {g tb : Nat} {F : Fp} {R : Value} (h : RingAt W g tb F R seed n tk) ht => Ring_Sign h key hkey hk ht d hd
  have hagain := fun (key : Nat) hkey (hk : key < 2 ^ n) (tk : List Bool) (W : World) {g tb : Nat} {F : Fp} {R : Value} (h : RingAt W g tb F R seed n tk) ht => Ring_Again h key hkey hk ht d hd
  obtain ⟨ZA, hza, hzal, hzao, hzae⟩ : ∃ Z : List Value, (Try.prog.info? 39).bind (fun i => i.zero.map (·.cells)) = some Z.toArray ∧ Z.length = 1026 ∧ (∀ u ∈ Z, u.oneCell' = true) ∧ zSig = Z := ⟨zSig, zSig_zero, zSig_len, zSig_one, rfl⟩
  obtain ⟨ZB, hzb, hzbl, hzbo, hbu, hzbe⟩ : ∃ Z : List Value, (Try.prog.info? 30).bind (fun i => i.zero.map (·.cells)) = some Z.toArray ∧ Z.length = 1026 ∧ (∀ u ∈ Z, u.oneCell' = true) ∧ Try.prog.built 30 [] = some Z.toArray ∧ zSig = Z := ⟨zSig, zSig_zeroR, zSig_len, zSig_one, zSig_builtR, rfl⟩
  generalize tabsC = TB at *
  obtain ⟨SC, hSC⟩ : ∃ SC, bv seed = SC := ⟨_, rfl⟩
  rw [hSC] at hnw hrw hrsg hsl ⊢
  obtain ⟨DC, hDC⟩ : ∃ DC, bv d = DC := ⟨_, rfl⟩
  rw [hDC] at hrsg hsign hagain hdl ⊢
  obtain ⟨N, hNe⟩ : ∃ N, N = 2 ^ n := ⟨_, rfl⟩
  rw [← hNe] at hpl hpw
  have hx0 : Ext w ((w.alloc (.cells SC.toArray 31)).alloc (.cells DC.toArray 31)) := ((Ext.refl w).alloc _).alloc _
  have hbs : Blk ((w.alloc (.cells SC.toArray 31)).alloc (.cells DC.toArray 31)) w.heap.size 31 SC := (Blk.new _ _ _).keep ((Ext.refl _).alloc _) (by simp)
  have hbd : Blk ((w.alloc (.cells SC.toArray 31)).alloc (.cells DC.toArray 31)) (w.heap.size + 1) 31 DC := Blk.fresh (by simp) _ _
  have hwz0 : ((w.alloc (.cells SC.toArray 31)).alloc (.cells DC.toArray 31)).heap.size = w.heap.size + 2 := by simp
  have HWZ0 := Lib.hid hwz0
  have HSL := Lib.hid hsl
  have HDL := Lib.hid hdl
  have HRT := Lib.hid hrt
  have HNW := Lib.hid hnw
  have HRW := Lib.hid hrw
  have HPW := Lib.hid hpw
  have HMK := Lib.hid hmk
  have HTS := Lib.hid hts
  have HZTL := Lib.hid hztl
  have HRSG := Lib.hid hrsg
  have HSIGN := Lib.hid hsign
  have HAGAIN := Lib.hid hagain
  have HZA := Lib.hid hzal
  have HZAE := Lib.hid hzae
  have HZB := Lib.hid hzbl
  have HZBE := Lib.hid hzbe
  have HBU := Lib.hid hbu
  have HNE2 := Lib.hid hNe
  have HDCE := Lib.hid hDC
  have HX0 := Lib.hid hx0
  have HBS0 := Lib.hid hbs
  have HBD0 := Lib.hid hbd
  have HK4 := Lib.hid k4
  have HK5 := Lib.hid k5
  have HJ4 := Lib.hid j4
  have HJ5 := Lib.hid j5
  have HFA := Lib.hid hF
  have HS0 := Lib.hid hs
  have HD0 := Lib.hid hd
  have hn3' : ¬ (3 : Int) < (n : Int) := by omega
  have hkI : ks.length ≤ 9223372036854775807 := by omega
  have hqI : qs.length ≤ 9223372036854775807 := by omega
  clear hwz0 hsl hdl hrt hnw hrw hpw hmk htb hts hztl hrsg hsign hagain hzal hzae hzbl hzbe hbu hNe hSC hDC hx0 hbs hbd k4 k5 j4 j5 hF hs hd k3 j3
  go_enter Try.func6, Try.ntmps6
  go_wp2_with (first
    | ((with_reducible refine wpDst 31 rfl ?_); refine wpList_load_agg _ rfl 31 (.tmp 5) rfl _ rfl SC _ Try.underlying31 rfl (szElTo05 HSL.out) (by exact HBS0.out.cells) ?_)
    | fail)
  refine (HNW.out _).mono ?_
  rintro e w1 ⟨g, tb, F, R, rfl, hring, hx1, hg1, htb1, hF1⟩
  have HRING1 := Lib.hid hring
  have HX1 := Lib.hid hx1
  have HNEW := Lib.hid (show ((w.alloc (.cells SC.toArray 31)).alloc (.cells DC.toArray 31)).heap.size ≤ g ∧ ((w.alloc (.cells SC.toArray 31)).alloc (.cells DC.toArray 31)).heap.size ≤ tb ∧ ∀ b, F b → ((w.alloc (.cells SC.toArray 31)).alloc (.cells DC.toArray 31)).heap.size ≤ b from ⟨hg1, htb1, hF1⟩)
  clear hring hx1 hg1 htb1 hF1
  go_wp2_with (first
    | (go_at_call 22; refine (HRT.out _).mono ?_; rintro e w2 ⟨rfl, rfl⟩)
    | fail)
  refine (HMK.out _).mono ?_
  rintro e w3 ⟨rfl, hx3⟩
  have hx3a : Ext w3 (w3.alloc (.cells TB.toArray 44)) := (Ext.refl w3).alloc _
  have hbt3 : Blk (w3.alloc (.cells TB.toArray 44)) w3.heap.size 44 TB := Blk.new _ _ _
  have hx13 := (HX1.out.trans hx3).trans hx3a
  have hbs3 := HBS0.out.keep hx13 (by simp)
  have hring3 := HRING1.out.ext (hx3.trans hx3a)
  have HBT3 := Lib.hid hbt3
  have HBS3 := Lib.hid hbs3
  have HX13 := Lib.hid hx13
  have HX3A := Lib.hid (hx3.trans hx3a)
  have HR3 : Hid (g < w3.heap.size ∧ tb < w3.heap.size ∧ ∀ b, F b → b < w3.heap.size) := Lib.hid ⟨Nat.lt_of_lt_of_le HRING1.out.blk.lt hx3.size, Nat.lt_of_lt_of_le HRING1.out.tak.lt hx3.size, fun b hb => Nat.lt_of_lt_of_le (HRING1.out.fp b hb).1 hx3.size⟩
  have HRING3 := Lib.hid hring3
  have HZ3B := Lib.hid (Nat.le_trans HX1.out.size hx3.size)
  clear hx3 hx3a hbt3 hx13 hbs3 hring3 HRING1
  go_wp2_with (first
    | ((with_reducible refine wpDst 13 rfl ?_); refine wpList_alloc _ rfl 44 rfl _ hzt ?_)
    | ((with_reducible refine wpSto 13 48 rfl ?_); go_must (refine wpList_storeN rfl 44 (.tmp 13) (.tmp 48) rfl w3 rfl ZT TB 44 rfl rfl HTS.out HZTL.out.symm htone ?_))
    | ((with_reducible refine wpDst 49 rfl ?_); refine wpList_load_agg _ rfl 44 (.tmp 13) rfl _ rfl TB _ Try.underlying44 rfl HTS.out (by exact HBT3.out.cells) ?_)
    | ((with_reducible refine wpDst 50 rfl ?_); refine wpList_load_agg _ rfl 31 (.tmp 5) rfl _ rfl SC _ Try.underlying31 rfl (szElTo05 HSL.out) (by exact HBS3.out.cells) ?_)
    | fail)
  refine (HRW.out _).mono ?_
  rintro e w4 ⟨R2, F2, rfl, hlev, hx4, hF2⟩
  obtain ⟨ad2, cr, rfl, hcr1, hcr2, hFad2, hrows⟩ := levs_rows hlev
  obtain ⟨ad3, c3, hc3a, hc3b, hFad3, hcell3⟩ := hrows n (Nat.le_refl n)
  rw [Nat.sub_self, Nat.pow_zero] at hc3a hcell3
  unfold maxLen at hcr2 hc3b
  have hx4d := hx4.drew
  have hsame4 : ∀ W, Ext w4.drew W → ∀ b, F2 b → W.heap[b]? = w4.heap[b]? := fun W hx b hb => ((Ext.refl w4).drew.trans hx).block b (hF2 b hb).2 (by simp)
  have HLC : Hid (∀ W, Ext w4.drew W → W.cell? (ad2.add n) = some (.slice (some ad3) 1 c3)) := Lib.hid fun W hx => (hcell3 W (hsame4 W hx)).1
  have hlr : ∀ W, Ext w4.drew W → Cells W ad3 (bv (rootM seed n)) := fun W hx => by
    have h := (hcell3 W (hsame4 W hx)).2 0 (by omega)
    rw [Nat.zero_mul] at h
    exact h
  have hroot : ∀ W, Ext w4.drew W → Calls Try.prog 19 #[.pointer (some ⟨g, 0, none⟩)] W fun e w' => e = .returned (.agg (bv (rootM seed n)).toArray) ∧ Ext W w' := fun W hx => Ring_Root (HRING3.out.ext (hx4d.trans hx))
  have htall : ∀ W, Ext w4.drew W → Calls Try.prog 24 #[.pointer (some ⟨g, 0, none⟩)] W fun e w' => e = .returned (.int .i64 (n : Int)) ∧ Ext W w' := fun W hx => Ring_Tall (HRING3.out.ext (hx4d.trans hx))
  have hne := neA_any (rootM seed n) (rootM_length seed n)
  have hrtl : (bv (rootM seed n)).length = 32 := by rw [bv_length]; exact rootM_length seed n
  generalize bv (rootM seed n) = RT at *
  have HLR := Lib.hid hlr
  have HROOT := Lib.hid hroot
  have HTALL := Lib.hid htall
  have HNE := Lib.hid hne
  have HRTL := Lib.hid hrtl
  have HLEV := Lib.hid hlev
  have HX4 := Lib.hid hx4d
  have HX4D : Hid (Ext w4 w4.drew) := Lib.hid (Ext.refl w4).drew
  have HF2 := Lib.hid hF2
  clear hlr hroot htall hne hrtl hlev hx4 hx4d hF2 hrows hFad2 hFad3 hcell3 hsame4
  go_wp2_with fail
  refine stab_plain Ext ext_refl ext_trans [[0], [0, 1], [0, 1, 2], [0, 1, 2, 3], [0, 1, 2, 3, 4], [0, 1, 2, 5], [0, 1, 2, 6], [0, 1, 2, 5, 6, 7], [0, 1, 2, 5, 6, 7, 8], [0, 1, 2, 5, 6, 7, 8, 9], [0, 1, 2, 5, 6, 7, 8, 9, 10], [0, 1, 2, 3, 4, 5, 6, 7, 8, 9, 10, 11], [0, 1, 2, 3, 4, 5, 6, 7, 8, 9, 10, 11, 12], [0, 1, 2, 3, 4, 5, 6, 7, 8, 9, 10, 11, 12, 13], [0, 1, 2, 3, 4, 5, 6, 7, 8, 9, 10, 11, 12, 13, 14], [0, 1, 2, 3, 4, 5, 6, 7, 8, 9, 10, 11, 12, 13, 14, 15], [0, 1, 2, 3, 4, 5, 6, 7, 8, 9, 10, 11, 12, 13, 16], [0, 1, 2, 3, 4, 5, 6, 7, 8, 9, 10, 11, 12, 13, 14, 15, 16, 17], [0, 1, 2, 3, 4, 5, 6, 7, 8, 9, 10, 11, 12, 13, 14, 15, 16, 17, 18], [0, 1, 2, 3, 4, 5, 6, 7, 8, 9, 10, 11, 12, 13, 14, 15, 16, 17, 18, 19], [0, 1, 2, 3, 4, 5, 6, 7, 8, 9, 10, 11, 12, 13, 14, 15, 16, 17, 18, 19, 20], [0, 1, 2, 3, 4, 5, 6, 7, 8, 9, 10, 11, 12, 13, 14, 15, 16, 17, 18, 19, 20, 21], [0, 1, 2, 3, 4, 5, 6, 7, 8, 9, 10, 11, 12, 13, 14, 15, 16, 17, 18, 19, 20, 21, 22]] (fun i v wv => match i with | 0 => v = .int .i64 0 | 1 => v = .bool false | 2 => v = .bool false | 3 => v = .pointer (some ⟨g, 0, none⟩) | 4 => v = .agg RT.toArray | 5 => v = .slice (some ad2) (n + 1) cr | 6 => v = .int .i64 (n : Int) | 7 => v = .pointer (some (ad2.add n)) | 8 => v = .slice (some ad3) 1 c3 | 9 => v = .pointer (some ad3) | 10 => v = .agg RT.toArray | 11 => v = .bool false | 12 => v = .bool false | 13 => v = .bool false | 14 => v = .pointer (some ⟨g, 0, none⟩) | 15 => v = .int .i64 (n : Int) | 16 => v = .int .i64 (n : Int) | 17 => v = .bool false | 18 => v = .bool false | 19 => v = .bool false | 20 => v = .bool true | 21 => v = .bool false | 22 => v = .bool false | _ => True) (by kernel_rfl) (by kernel_rfl) (by kernel_rfl) ?_ ?_ ?_
  · intro i v w1 w2 h hx
    match i, h with
    | 0, h => exact h
    | 1, h => exact h
    | 2, h => exact h
    | 3, h => exact h
    | 4, h => exact h
    | 5, h => exact h
    | 6, h => exact h
    | 7, h => exact h
    | 8, h => exact h
    | 9, h => exact h
    | 10, h => exact h
    | 11, h => exact h
    | 12, h => exact h
    | 13, h => exact h
    | 14, h => exact h
    | 15, h => exact h
    | 16, h => exact h
    | 17, h => exact h
    | 18, h => exact h
    | 19, h => exact h
    | 20, h => exact h
    | 21, h => exact h
    | 22, h => exact h
    | i + 23, h => trivial
  · intro i hi o ho
    match i, hi, ho with
    | 0, _, ho =>
      obtain rfl := Option.some.inj ho
      intro s W hX hd K hK
      rw [if_pos (wanted_plain rfl)]
      clear hd
      replace hK : ∀ (v : Value) (W' : World), Ext W W' → (v = .int .i64 0) → _ := hK
      simp only [mkOf, List.map_cons, List.map_nil, Act.put, List.setIfInBounds_toArray, List.set_cons_succ, List.set_cons_zero, Nat.reduceAdd, Nat.zero_add] at hK ⊢
      go_simp
      exact hK _ _ (Ext.refl _) rfl
    | 1, _, ho =>
      obtain rfl := Option.some.inj ho
      intro s W hX hd K hK
      rw [if_pos (wanted_plain rfl)]
      have d53 : (s 0) = .int .i64 0 := hd 0 (by decide) (by decide)
      clear hd
      replace hK : ∀ (v : Value) (W' : World), Ext W W' → (v = .bool false) → _ := hK
      simp only [mkOf, List.map_cons, List.map_nil, Act.put, List.setIfInBounds_toArray, List.set_cons_succ, List.set_cons_zero, Nat.reduceAdd, Nat.zero_add] at hK ⊢
      simp only [d53] at hK ⊢
      go_simp
      exact hK _ _ (Ext.refl _) rfl
    | 2, _, ho =>
      obtain rfl := Option.some.inj ho
      intro s W hX hd K hK
      rw [if_pos (wanted_plain rfl)]
      have d54 : (s 1) = .bool false := hd 1 (by decide) (by decide)
      clear hd
      replace hK : ∀ (v : Value) (W' : World), Ext W W' → (v = .bool false) → _ := hK
      simp only [mkOf, List.map_cons, List.map_nil, Act.put, List.setIfInBounds_toArray, List.set_cons_succ, List.set_cons_zero, Nat.reduceAdd, Nat.zero_add] at hK ⊢
      simp only [d54] at hK ⊢
      go_simp
      exact hK _ _ (Ext.refl _) rfl
    | 3, _, ho =>
      obtain rfl := Option.some.inj ho
      intro s W hX hd K hK
      have d55 : (s 2) = .bool false := hd 2 (by decide) (by decide)
      clear hd
      replace hK : ∀ (v : Value) (W' : World), Ext W W' → (v = .pointer (some ⟨g, 0, none⟩)) → _ := hK
      simp only [mkOf, List.map_cons, List.map_nil, Act.put, List.setIfInBounds_toArray, List.set_cons_succ, List.set_cons_zero, Nat.reduceAdd, Nat.zero_add] at hK ⊢
      simp only [d55] at hK ⊢
      rw [if_pos (by kernel_rfl)]
      go_simp
      exact hK _ _ (Ext.refl _) rfl
    | 4, _, ho =>
      obtain rfl := Option.some.inj ho
      intro s W hX hd K hK
      have d55 : (s 2) = .bool false := hd 2 (by decide) (by decide)
      have d56 : (s 3) = .pointer (some ⟨g, 0, none⟩) := hd 3 (by decide) (by decide)
      clear hd
      replace hK : ∀ (v : Value) (W' : World), Ext W W' → (v = .agg RT.toArray) → _ := hK
      simp only [mkOf, List.map_cons, List.map_nil, Act.put, List.setIfInBounds_toArray, List.set_cons_succ, List.set_cons_zero, Nat.reduceAdd, Nat.zero_add] at hK ⊢
      simp only [d55, d56] at hK ⊢
      rw [if_pos (by kernel_rfl)]
      go_simp
      refine (HROOT.out _ hX).mono ?_
      rintro e w' ⟨rfl, hx⟩
      exact hK _ _ hx rfl
    | 5, _, ho =>
      obtain rfl := Option.some.inj ho
      intro s W hX hd K hK
      have d55 : (s 2) = .bool false := hd 2 (by decide) (by decide)
      clear hd
      replace hK : ∀ (v : Value) (W' : World), Ext W W' → (v = .slice (some ad2) (n + 1) cr) → _ := hK
      simp only [mkOf, List.map_cons, List.map_nil, Act.put, List.setIfInBounds_toArray, List.set_cons_succ, List.set_cons_zero, Nat.reduceAdd, Nat.zero_add] at hK ⊢
      simp only [d55] at hK ⊢
      rw [if_pos (by kernel_rfl)]
      go_simp
      exact hK _ _ (Ext.refl _) rfl
    | 6, _, ho =>
      obtain rfl := Option.some.inj ho
      intro s W hX hd K hK
      have d55 : (s 2) = .bool false := hd 2 (by decide) (by decide)
      clear hd
      replace hK : ∀ (v : Value) (W' : World), Ext W W' → (v = .int .i64 (n : Int)) → _ := hK
      simp only [mkOf, List.map_cons, List.map_nil, Act.put, List.setIfInBounds_toArray, List.set_cons_succ, List.set_cons_zero, Nat.reduceAdd, Nat.zero_add] at hK ⊢
      simp only [d55] at hK ⊢
      rw [if_pos (by kernel_rfl)]
      go_simp
      exact hK _ _ (Ext.refl _) rfl
    | 7, _, ho =>
      obtain rfl := Option.some.inj ho
      intro s W hX hd K hK
      have d55 : (s 2) = .bool false := hd 2 (by decide) (by decide)
      have d58 : (s 5) = .slice (some ad2) (n + 1) cr := hd 5 (by decide) (by decide)
      have d59 : (s 6) = .int .i64 (n : Int) := hd 6 (by decide) (by decide)
      clear hd
      replace hK : ∀ (v : Value) (W' : World), Ext W W' → (v = .pointer (some (ad2.add n))) → _ := hK
      simp only [mkOf, List.map_cons, List.map_nil, Act.put, List.setIfInBounds_toArray, List.set_cons_succ, List.set_cons_zero, Nat.reduceAdd, Nat.zero_add] at hK ⊢
      simp only [d55, d58, d59] at hK ⊢
      rw [if_pos (by kernel_rfl)]
      have hlt : (n : Int) < (n : Int) + 1 := by omega
      go_simp
      exact hK _ _ (Ext.refl _) rfl
    | 8, _, ho =>
      obtain rfl := Option.some.inj ho
      intro s W hX hd K hK
      have d55 : (s 2) = .bool false := hd 2 (by decide) (by decide)
      have d60 : (s 7) = .pointer (some (ad2.add n)) := hd 7 (by decide) (by decide)
      clear hd
      replace hK : ∀ (v : Value) (W' : World), Ext W W' → (v = .slice (some ad3) 1 c3) → _ := hK
      simp only [mkOf, List.map_cons, List.map_nil, Act.put, List.setIfInBounds_toArray, List.set_cons_succ, List.set_cons_zero, Nat.reduceAdd, Nat.zero_add] at hK ⊢
      simp only [d55, d60] at hK ⊢
      rw [if_pos (by kernel_rfl)]
      have c61 := HLC.out W hX
      go_simp
      exact hK _ _ (Ext.refl _) rfl
    | 9, _, ho =>
      obtain rfl := Option.some.inj ho
      intro s W hX hd K hK
      have d55 : (s 2) = .bool false := hd 2 (by decide) (by decide)
      have d61 : (s 8) = .slice (some ad3) 1 c3 := hd 8 (by decide) (by decide)
      clear hd
      replace hK : ∀ (v : Value) (W' : World), Ext W W' → (v = .pointer (some ad3)) → _ := hK
      simp only [mkOf, List.map_cons, List.map_nil, Act.put, List.setIfInBounds_toArray, List.set_cons_succ, List.set_cons_zero, Nat.reduceAdd, Nat.zero_add] at hK ⊢
      simp only [d55, d61] at hK ⊢
      rw [if_pos (by kernel_rfl)]
      go_simp
      exact hK _ _ (Ext.refl _) rfl
    | 10, _, ho =>
      obtain rfl := Option.some.inj ho
      intro s W hX hd K hK
      have d55 : (s 2) = .bool false := hd 2 (by decide) (by decide)
      have d62 : (s 9) = .pointer (some ad3) := hd 9 (by decide) (by decide)
      clear hd
      replace hK : ∀ (v : Value) (W' : World), Ext W W' → (v = .agg RT.toArray) → _ := hK
      simp only [mkOf, List.map_cons, List.map_nil, Act.put, List.setIfInBounds_toArray, List.set_cons_succ, List.set_cons_zero, Nat.reduceAdd, Nat.zero_add] at hK ⊢
      simp only [d55, d62] at hK ⊢
      rw [if_pos (by kernel_rfl)]
      refine wp_load_agg 31 (.tmp 62) rfl _ rfl RT _ Try.underlying31 rfl (szElTo05 HRTL.out) (HLR.out W hX) ?_
      exact hK _ _ (Ext.refl _) rfl
    | 11, _, ho =>
      obtain rfl := Option.some.inj ho
      intro s W hX hd K hK
      have d55 : (s 2) = .bool false := hd 2 (by decide) (by decide)
      have d57 : (s 4) = .agg RT.toArray := hd 4 (by decide) (by decide)
      have d63 : (s 10) = .agg RT.toArray := hd 10 (by decide) (by decide)
      clear hd
      replace hK : ∀ (v : Value) (W' : World), Ext W W' → (v = .bool false) → _ := hK
      simp only [mkOf, List.map_cons, List.map_nil, Act.put, List.setIfInBounds_toArray, List.set_cons_succ, List.set_cons_zero, Nat.reduceAdd, Nat.zero_add] at hK ⊢
      simp only [d55, d57, d63] at hK ⊢
      rw [if_pos (by kernel_rfl)]
      refine wp_bin2 .neq 55 (.tmp 57) (.tmp 63) rfl _ _ rfl rfl (HNE.out.1 _ _ _) (HNE.out.2 _) ?_
      exact hK _ _ (Ext.refl _) rfl
    | 12, _, ho =>
      obtain rfl := Option.some.inj ho
      intro s W hX hd K hK
      rw [if_pos (wanted_plain rfl)]
      have d55 : (s 2) = .bool false := hd 2 (by decide) (by decide)
      have d64 : (s 11) = .bool false := hd 11 (by decide) (by decide)
      clear hd
      replace hK : ∀ (v : Value) (W' : World), Ext W W' → (v = .bool false) → _ := hK
      simp only [mkOf, List.map_cons, List.map_nil, Act.put, List.setIfInBounds_toArray, List.set_cons_succ, List.set_cons_zero, Nat.reduceAdd, Nat.zero_add] at hK ⊢
      simp only [d55, d64] at hK ⊢
      go_simp
      exact hK _ _ (Ext.refl _) rfl
    | 13, _, ho =>
      obtain rfl := Option.some.inj ho
      intro s W hX hd K hK
      rw [if_pos (wanted_plain rfl)]
      have d65 : (s 12) = .bool false := hd 12 (by decide) (by decide)
      clear hd
      replace hK : ∀ (v : Value) (W' : World), Ext W W' → (v = .bool false) → _ := hK
      simp only [mkOf, List.map_cons, List.map_nil, Act.put, List.setIfInBounds_toArray, List.set_cons_succ, List.set_cons_zero, Nat.reduceAdd, Nat.zero_add] at hK ⊢
      simp only [d65] at hK ⊢
      go_simp
      exact hK _ _ (Ext.refl _) rfl
    | 14, _, ho =>
      obtain rfl := Option.some.inj ho
      intro s W hX hd K hK
      have d66 : (s 13) = .bool false := hd 13 (by decide) (by decide)
      clear hd
      replace hK : ∀ (v : Value) (W' : World), Ext W W' → (v = .pointer (some ⟨g, 0, none⟩)) → _ := hK
      simp only [mkOf, List.map_cons, List.map_nil, Act.put, List.setIfInBounds_toArray, List.set_cons_succ, List.set_cons_zero, Nat.reduceAdd, Nat.zero_add] at hK ⊢
      simp only [d66] at hK ⊢
      rw [if_pos (by kernel_rfl)]
      go_simp
      exact hK _ _ (Ext.refl _) rfl
    | 15, _, ho =>
      obtain rfl := Option.some.inj ho
      intro s W hX hd K hK
      have d66 : (s 13) = .bool false := hd 13 (by decide) (by decide)
      have d67 : (s 14) = .pointer (some ⟨g, 0, none⟩) := hd 14 (by decide) (by decide)
      clear hd
      replace hK : ∀ (v : Value) (W' : World), Ext W W' → (v = .int .i64 (n : Int)) → _ := hK
      simp only [mkOf, List.map_cons, List.map_nil, Act.put, List.setIfInBounds_toArray, List.set_cons_succ, List.set_cons_zero, Nat.reduceAdd, Nat.zero_add] at hK ⊢
      simp only [d66, d67] at hK ⊢
      rw [if_pos (by kernel_rfl)]
      go_simp
      refine (HTALL.out _ hX).mono ?_
      rintro e w' ⟨rfl, hx⟩
      exact hK _ _ hx rfl
    | 16, _, ho =>
      obtain rfl := Option.some.inj ho
      intro s W hX hd K hK
      have d66 : (s 13) = .bool false := hd 13 (by decide) (by decide)
      clear hd
      replace hK : ∀ (v : Value) (W' : World), Ext W W' → (v = .int .i64 (n : Int)) → _ := hK
      simp only [mkOf, List.map_cons, List.map_nil, Act.put, List.setIfInBounds_toArray, List.set_cons_succ, List.set_cons_zero, Nat.reduceAdd, Nat.zero_add] at hK ⊢
      simp only [d66] at hK ⊢
      rw [if_pos (by kernel_rfl)]
      go_simp
      exact hK _ _ (Ext.refl _) rfl
    | 17, _, ho =>
      obtain rfl := Option.some.inj ho
      intro s W hX hd K hK
      have d66 : (s 13) = .bool false := hd 13 (by decide) (by decide)
      have d68 : (s 15) = .int .i64 (n : Int) := hd 15 (by decide) (by decide)
      have d69 : (s 16) = .int .i64 (n : Int) := hd 16 (by decide) (by decide)
      clear hd
      replace hK : ∀ (v : Value) (W' : World), Ext W W' → (v = .bool false) → _ := hK
      simp only [mkOf, List.map_cons, List.map_nil, Act.put, List.setIfInBounds_toArray, List.set_cons_succ, List.set_cons_zero, Nat.reduceAdd, Nat.zero_add] at hK ⊢
      simp only [d66, d68, d69] at hK ⊢
      rw [if_pos (by kernel_rfl)]
      go_simp
      exact hK _ _ (Ext.refl _) (by simp)
    | 18, _, ho =>
      obtain rfl := Option.some.inj ho
      intro s W hX hd K hK
      rw [if_pos (wanted_plain rfl)]
      have d66 : (s 13) = .bool false := hd 13 (by decide) (by decide)
      have d70 : (s 17) = .bool false := hd 17 (by decide) (by decide)
      clear hd
      replace hK : ∀ (v : Value) (W' : World), Ext W W' → (v = .bool false) → _ := hK
      simp only [mkOf, List.map_cons, List.map_nil, Act.put, List.setIfInBounds_toArray, List.set_cons_succ, List.set_cons_zero, Nat.reduceAdd, Nat.zero_add] at hK ⊢
      simp only [d66, d70] at hK ⊢
      go_simp
      exact hK _ _ (Ext.refl _) rfl
    | 19, _, ho =>
      obtain rfl := Option.some.inj ho
      intro s W hX hd K hK
      rw [if_pos (wanted_plain rfl)]
      have d71 : (s 18) = .bool false := hd 18 (by decide) (by decide)
      clear hd
      replace hK : ∀ (v : Value) (W' : World), Ext W W' → (v = .bool false) → _ := hK
      simp only [mkOf, List.map_cons, List.map_nil, Act.put, List.setIfInBounds_toArray, List.set_cons_succ, List.set_cons_zero, Nat.reduceAdd, Nat.zero_add] at hK ⊢
      simp only [d71] at hK ⊢
      go_simp
      exact hK _ _ (Ext.refl _) rfl
    | 20, _, ho =>
      obtain rfl := Option.some.inj ho
      intro s W hX hd K hK
      have d72 : (s 19) = .bool false := hd 19 (by decide) (by decide)
      clear hd
      replace hK : ∀ (v : Value) (W' : World), Ext W W' → (v = .bool true) → _ := hK
      simp only [mkOf, List.map_cons, List.map_nil, Act.put, List.setIfInBounds_toArray, List.set_cons_succ, List.set_cons_zero, Nat.reduceAdd, Nat.zero_add] at hK ⊢
      simp only [d72] at hK ⊢
      rw [if_pos (by kernel_rfl)]
      go_simp
      refine (Awake05 _).mono ?_
      rintro e w' ⟨rfl, hx⟩
      exact hK _ _ hx rfl
    | 21, _, ho =>
      obtain rfl := Option.some.inj ho
      intro s W hX hd K hK
      have d72 : (s 19) = .bool false := hd 19 (by decide) (by decide)
      have d73 : (s 20) = .bool true := hd 20 (by decide) (by decide)
      clear hd
      replace hK : ∀ (v : Value) (W' : World), Ext W W' → (v = .bool false) → _ := hK
      simp only [mkOf, List.map_cons, List.map_nil, Act.put, List.setIfInBounds_toArray, List.set_cons_succ, List.set_cons_zero, Nat.reduceAdd, Nat.zero_add] at hK ⊢
      simp only [d72, d73] at hK ⊢
      rw [if_pos (by kernel_rfl)]
      go_simp
      exact hK _ _ (Ext.refl _) rfl
    | 22, _, ho =>
      obtain rfl := Option.some.inj ho
      intro s W hX hd K hK
      rw [if_pos (wanted_plain rfl)]
      have d72 : (s 19) = .bool false := hd 19 (by decide) (by decide)
      have d74 : (s 21) = .bool false := hd 21 (by decide) (by decide)
      clear hd
      replace hK : ∀ (v : Value) (W' : World), Ext W W' → (v = .bool false) → _ := hK
      simp only [mkOf, List.map_cons, List.map_nil, Act.put, List.setIfInBounds_toArray, List.set_cons_succ, List.set_cons_zero, Nat.reduceAdd, Nat.zero_add] at hK ⊢
      simp only [d72, d74] at hK ⊢
      go_simp
      exact hK _ _ (Ext.refl _) rfl
    | i + 23, hi, _ => exact absurd hi (by simp)
  · intro s W hX hd
    have d53 : (s 0) = .int .i64 0 := hd 0 (by decide)
    have d54 : (s 1) = .bool false := hd 1 (by decide)
    have d55 : (s 2) = .bool false := hd 2 (by decide)
    have d56 : (s 3) = .pointer (some ⟨g, 0, none⟩) := hd 3 (by decide)
    have d57 : (s 4) = .agg RT.toArray := hd 4 (by decide)
    have d58 : (s 5) = .slice (some ad2) (n + 1) cr := hd 5 (by decide)
    have d59 : (s 6) = .int .i64 (n : Int) := hd 6 (by decide)
    have d60 : (s 7) = .pointer (some (ad2.add n)) := hd 7 (by decide)
    have d61 : (s 8) = .slice (some ad3) 1 c3 := hd 8 (by decide)
    have d62 : (s 9) = .pointer (some ad3) := hd 9 (by decide)
    have d63 : (s 10) = .agg RT.toArray := hd 10 (by decide)
    have d64 : (s 11) = .bool false := hd 11 (by decide)
    have d65 : (s 12) = .bool false := hd 12 (by decide)
    have d66 : (s 13) = .bool false := hd 13 (by decide)
    have d67 : (s 14) = .pointer (some ⟨g, 0, none⟩) := hd 14 (by decide)
    have d68 : (s 15) = .int .i64 (n : Int) := hd 15 (by decide)
    have d69 : (s 16) = .int .i64 (n : Int) := hd 16 (by decide)
    have d70 : (s 17) = .bool false := hd 17 (by decide)
    have d71 : (s 18) = .bool false := hd 18 (by decide)
    have d72 : (s 19) = .bool false := hd 19 (by decide)
    have d73 : (s 20) = .bool true := hd 20 (by decide)
    have d74 : (s 21) = .bool false := hd 21 (by decide)
    have d75 : (s 22) = .bool false := hd 22 (by decide)
    clear hd
    simp only [mkOf, List.map_cons, List.map_nil, Act.put, List.setIfInBounds_toArray, List.set_cons_succ, List.set_cons_zero, Nat.reduceAdd, Nat.zero_add]
    obtain ⟨hgn, htbn, hFn⟩ := HNEW.out
    have hz0 := HWZ0.out
    have hz3 := HZ3B.out
    have hz4 := (HX3A.out.trans HX4.out).size
    have hx5 := HX4.out.trans hX
    have hx15 := HX13.out.trans hx5
    have hrf := HRING3.out.fp
    have hrg := HRING3.out.blk.lt
    have hrt := HRING3.out.tak.lt
    have hb3 := HBT3.out.lt
    have hrz : (w3.alloc (.cells TB.toArray 44)).heap.size = w3.heap.size + 1 := by simp
    have hz5 := hx5.size
    have hpow := HNE2.out
    have hal : Ext W (W.alloc (.cells (boolsC (List.replicate N false)).toArray 4)) := (Ext.refl W).alloc _
    have hgrow3 : w3.heap.size ≤ w3.heap.size := Nat.le_refl _
    have hrlt : g < w3.heap.size ∧ tb < w3.heap.size ∧ ∀ b, F b → b < w3.heap.size := HR3.out
    have hI0 : KeysI w (W.alloc (.cells (boolsC (List.replicate N false)).toArray 4)).heap.size g tb W.heap.size w3.heap.size F F2 R (.slice (some ad2) (n + 1) cr) seed n TB SC DC (W.alloc (.cells (boolsC (List.replicate N false)).toArray 4)) (List.replicate N false) (List.replicate N false) := by
      refine ⟨(HX0.out.trans hx15).trans hal, Nat.le_refl _, ?_, Blk.new _ _ _, ?_, ?_, ?_, ?_, ?_, ?_, ?_, ?_, ?_⟩
      · have h := (HRING3.out.ext hx5).ext hal
        rw [← hpow] at h
        exact h
      · exact Ty.keep (fun b hb => ((HX4D.out.trans hX).trans hal).block b (HF2.out b hb).2 (by simp)) (fun _ h => h) _ HLEV.out
      · exact (HBT3.out.keep hx5 (by simp)).keep hal (by simp)
      · exact (HBS0.out.keep hx15 (by simp)).keep hal (by simp)
      · exact (HBD0.out.keep hx15 (by simp)).keep hal (by simp)
      · simp only [World.size_alloc]; omega
      · refine ⟨fun b hb => ?_, fun b hb => ?_⟩
        · have := hrlt.2.2 b hb; simp only [World.size_alloc]; omega
        · have h1 := (HF2.out b hb).2; have h2 := (HX4D.out.trans hX).size; simp only [World.size_alloc]; omega
      · omega
      · omega
      · refine ⟨fun b hb => ?_, fun b hb => ?_⟩
        · have := hrlt.2.2 b hb; omega
        · have h1 := HF2.out b hb; have h2 := (HX4D.out.trans hX).size; omega
    have HI0 := Lib.hid hI0
    clear hgn htbn hFn hz0 hz3 hz4 hx5 hx15 hrf hrg hrt hb3 hrz hz5 hpow hal hgrow3 hrlt hI0 hX HLC HLR HROOT HTALL HNE HRTL HLEV HX4 HX4D HF2 HX13 HX3A HRING3 HBT3 HBS3 HBS0 HBD0 HNEW HX1 HR3
    simp only [d53, d54, d55, d56, d57, d58, d59, d60, d61, d62, d63, d64, d65, d66, d67, d68, d69, d70, d71, d72, d73, d74, d75]
    clear d53 d54 d55 d56 d57 d58 d59 d60 d61 d62 d63 d64 d65 d66 d67 d68 d69 d70 d71 d72 d73 d74 d75
    (try simp only [Exit.then])
    go_wp2_with (first
      | (go_at_call 25; refine (HPW.out _).mono ?_; rintro e w2 ⟨rfl, rfl⟩)
      | ((with_reducible refine wpDst 78 rfl ?_); go_must (refine wpList_makeB rfl 67 (.tmp 77) (.tmp 77) rfl N (by omega) rfl rfl Try.underlying67 ?_))
      | fail)
    obtain ⟨tk2, htk2⟩ : ∃ t, t = W.heap.size := ⟨_, rfl⟩
    obtain ⟨B1, hB1⟩ : ∃ B, B = (W.alloc (.cells (boolsC (List.replicate N false)).toArray 4)).heap.size := ⟨_, rfl⟩
    rw [← htk2, ← hB1] at HI0
    try rw [← htk2]
    clear hB1 htk2
    generalize W.alloc (.cells (boolsC (List.replicate N false)).toArray 4) = ws at *
    generalize w3.heap.size = tbB at *
    go_loopw [81] (fun i wr => ∃ (k : Nat) (tk : List Bool), k ≤ ks.length ∧ i = .int .i64 k ∧ KeysI w B1 g tb tk2 tbB F F2 R (.slice (some ad2) (n + 1) cr) seed n TB SC DC wr tk tk) (fun i _ => ks.length - (intOf i).toNat)
    case atStart => exact ⟨0, _, by omega, rfl, HI0.out⟩
    case round =>
      clear HI0
      obtain ⟨k, tk, hk, rfl, hI⟩ := hrel
      have HI := Lib.hid hI
      clear hI
      by_cases hlt : k < ks.length
      · obtain ⟨ad1, rfl, hf1, hc1⟩ := HK4.out (by intro e; rw [e] at hlt; simp at hlt)
        obtain ⟨hkc, hkey⟩ := AllH.nat_at HK5.out hlt
        have ckk : wr.cell? (ad1.add k) = some (.int .u32 ((ks[k] : Nat) : Int)) := (hc1.keep (HI.out.ext.block _ (HFA.out _ hf1) (by simp))) k _ hkc
        obtain ⟨key, hkeye⟩ : ∃ key, key = ks[k] := ⟨_, rfl⟩
        rw [← hkeye] at ckk hkey
        have hk32 : key < 4294967296 := by have := bounds_u32 hkey; omega
        clear hkeye hkc hc1 hf1
        by_cases hbr : qs.length ≤ k
        · go_wp2_with fail
          go_ret
          exact ⟨rfl, HI.out.ext⟩
        by_cases h20 : 20 ≤ k
        · go_wp2_with fail
          go_ret
          exact ⟨rfl, HI.out.ext⟩
        obtain ⟨adq, rfl, hfq, hcq⟩ := HJ4.out (by intro e; rw [e] at hbr; simp at hbr)
        have hqc := AllH.u8_at HJ5.out (show k < qs.length by omega)
        obtain ⟨q, hqe⟩ : ∃ q, q = qs[k].toNat := ⟨_, rfl⟩
        rw [← hqe] at hqc
        have hq256 : q < 256 := by rw [hqe]; exact qs[k].toNat_lt
        have HKQ : Hid (∀ W, Ext w W → W.cell? (adq.add k) = some (.int .u8 (q : Int))) := Lib.hid fun W hx => (hcq.keep (hx.block _ (HFA.out _ hfq) (by simp))) k _ hqc
        have hal0 : Ext wr (wr.alloc (.cells ZA.toArray 39)) := (Ext.refl wr).alloc _
        have hIb := HI.out.far hal0 (by simp)
        have ckq0 : (wr.alloc (.cells ZA.toArray 39)).cell? (adq.add k) = some (.int .u8 (q : Int)) := HKQ.out _ hIb.ext
        have HIB := Lib.hid hIb
        have HB19 : Hid (Blk (wr.alloc (.cells ZA.toArray 39)) wr.heap.size 39 ZA) := Lib.hid (Blk.new _ _ _)
        have hwk : IntKind.u64.wrap (key : Int) = (key : Int) := by simp [IntKind.wrap, IntKind.bits, IntKind.signed]; omega
        have hwn : IntKind.u64.wrap (N : Int) = (N : Int) := by simp [IntKind.wrap, IntKind.bits, IntKind.signed]; omega
        have hwki : IntKind.i64.wrap (key : Int) = (key : Int) := by simp [IntKind.wrap, IntKind.bits, IntKind.signed]; omega
        have hrem0 := fun P t W => rem_three_u8 P t q W
        have HN2 := HNE2.out
        have HPOW : Hid (N = 2 ^ n) := Lib.hid HN2
        clear hqe hqc hcq hfq hal0 hIb HN2
        obtain hq3 | hq3 | hq3 : q % 3 = 0 ∨ q % 3 = 1 ∨ q % 3 = 2 := by omega
        · have hrem : ∀ (P : Program) (t : TypeId) (W : World), (binOp .rem t (.int .u8 (q : Int)) (.int .u8 3)).run P W = .ok (.int .u8 0) W := fun P t W => by have h := hrem0 P t W; rw [hq3] at h; exact h
          have HREM := Lib.hid hrem
          clear hrem hrem0
          by_cases hin : key < 2 ^ n
          · have hkn : (key : Int) < (N : Int) := by have := HPOW.out; omega
            cases hT : takenM tk key with
            | false =>
              have HT := Lib.hid hT
              clear hT
              clear hq3
              go_wp2_with (first
                | ((with_reducible refine wpDst 19 rfl ?_); refine wpList_alloc _ rfl 39 rfl _ hza ?_)
                | ((with_reducible refine wpDst 104 rfl ?_); refine wpList_bin2 rfl .rem 5 (.tmp 103) _ rfl (.int .u8 (q : Int)) (.int .u8 3) rfl rfl rfl (HREM.out _ _ _) ?_)
                | ((with_reducible refine wpDst 113 rfl ?_); refine wpList_load_agg _ rfl 31 (.tmp 9) rfl _ rfl DC _ Try.underlying31 rfl (szElTo05 HDL.out) (by exact HIB.out.dg.cells) ?_)
                | fail)
              refine (HSIGN.out key hkey hin tk _ HIB.out.ring HT.out).mono ?_
              rintro e w1 ⟨v1, rfl, ho1, hr1, hg1, hn1⟩
              have hI1 := HIB.out.ring' hg1 hr1
              have hb19 := HB19.out.keep hg1 (by have := hI1.lt; have := HI.out.size; simp; omega)
              have hs1 : SigK (wr.heap.size + 1) w1.heap.size w1 (sigC (bv (signM seed key d)) key v1) (signM seed key d) key (wayM seed n key) := SigK.own ho1 (fun b hb => by have := hn1 b hb; simp at this; omega)
              have hwz : wr.heap.size + 1 ≤ w1.heap.size := by have := hg1.size; simpa using this
              obtain ⟨M1, hM1⟩ : ∃ M1, M1 = sigC (bv (signM seed key d)) key v1 := ⟨_, rfl⟩
              rw [← hM1] at hs1 ⊢
              have hss : List.length (α := UInt8) (signM seed key d) = 1024 := signM_length _ _ _
              have hwn : List.length (α := Dg) (wayM seed n key) ≤ 8 := by rw [wayM_length]; omega
              clear hM1 ho1 hn1 hr1
              have hm1l : M1.length = 1026 := hs1.len hss
              have hm1o : ∀ u ∈ M1, u.oneCell' = true := hs1.one
              have hrow : w1.grownBy (w1.setRow wr.heap.size M1.toArray) (some wr.heap.size) := setRow_only _
              have hI2 := hI1.far hrow (by rintro b ⟨⟩; exact HI.out.size)
              have hb19b : Blk (w1.setRow wr.heap.size M1.toArray) wr.heap.size 39 M1 := setRow_at hb19
              have hs2 := hs1.keep hrow (by rintro b ⟨⟩; exact .inl (by omega))
              have hz2 : (w1.setRow wr.heap.size M1.toArray).heap.size = w1.heap.size := by simp [World.setRow]
              have ck2 : (w1.setRow wr.heap.size M1.toArray).cell? ⟨tk2, key, none⟩ = some (.bool false) := by have h := hI2.bit (key := key) (by have := HI.out.ring.len; omega); rw [HT.out] at h; exact h
              have fk2 : (w1.setRow wr.heap.size M1.toArray).frozen? ⟨tk2, key, none⟩ = false := hI2.bools.free key
              have hst : (w1.setRow wr.heap.size M1.toArray).grownBy ((w1.setRow wr.heap.size M1.toArray).setCell ⟨tk2, key, none⟩ (.bool true)) (some tk2) := only_set key _
              have hI3 := hI2.set key
              have hb19c := hb19b.keep hst (by have := hI2.lt; have := HI.out.size; simp; omega)
              have hs3 := hs2.keep hst (by rintro b ⟨⟩; exact .inl (by have := hI2.lt; have := HI.out.size; omega))
              have hz3 : ((w1.setRow wr.heap.size M1.toArray).setCell ⟨tk2, key, none⟩ (.bool true)).heap.size = w1.heap.size := by simp [World.setRow]
              have hal : Ext ((w1.setRow wr.heap.size M1.toArray).setCell ⟨tk2, key, none⟩ (.bool true)) (((w1.setRow wr.heap.size M1.toArray).setCell ⟨tk2, key, none⟩ (.bool true)).alloc (.cells ZB.toArray 30)) := (Ext.refl _).alloc _
              have hI4 := hI3.far hal (by simp)
              have hb19d := hb19c.keep hal (by simp)
              have hs4 := hs3.ext hal
              have hb22 : Blk (((w1.setRow wr.heap.size M1.toArray).setCell ⟨tk2, key, none⟩ (.bool true)).alloc (.cells ZB.toArray 30)) w1.heap.size 30 ZB := by have h := Blk.new ((w1.setRow wr.heap.size M1.toArray).setCell ⟨tk2, key, none⟩ (.bool true)) 30 ZB; rw [hz3] at h; exact h
              have ckq : (((w1.setRow wr.heap.size M1.toArray).setCell ⟨tk2, key, none⟩ (.bool true)).alloc (.cells ZB.toArray 30)).cell? (adq.add k) = some (.int .u8 (q : Int)) := HKQ.out _ hI4.ext
              have hz4 : (((w1.setRow wr.heap.size M1.toArray).setCell ⟨tk2, key, none⟩ (.bool true)).alloc (.cells ZB.toArray 30)).heap.size = w1.heap.size + 1 := by rw [World.size_alloc, hz3]
              have HI1 := Lib.hid hI1
              have HI4 := Lib.hid hI4
              have HB19D := Lib.hid hb19d
              have HS4 := Lib.hid hs4
              have HB22 := Lib.hid hb22
              have HM1L := Lib.hid hm1l
              have HSSL := Lib.hid hss
              have HWWN := Lib.hid hwn
              have HB19A := Lib.hid hb19
              have HZ4 := Lib.hid hz4
              have HWZ := Lib.hid hwz
              have HZ3 := Lib.hid hz3
              clear hI1 hI2 hI3 hI4 hb19 hb19b hb19c hb19d hs1 hs2 hs3 hs4 hb22 hm1l hss hwn hal hz2 hz3 hz4 hwz hg1 hrow hst
              go_wp2_with (first
                | ((with_reducible refine wpSto 19 115 rfl ?_); go_must (refine wpList_store_row _ rfl 39 (.tmp 19) (.tmp 115) rfl wr.heap.size (by simp [Act.put, Act.eval]) ZA M1 39 (by simp [Act.put, Act.eval]) (by exact HB19A.out) (szOutTo05 HM1L.out) (by first | rfl | rw [HM1L.out, HZA.out]) hm1o ?_))
                | ((with_reducible refine wpDst 151 rfl ?_); refine wpList_build (.inl rfl) 30 #[] rfl (.agg ZB.toArray) (exec_build0 _ _ rfl HBU.out) ?_)
                | ((with_reducible refine wpDst 22 rfl ?_); refine wpList_alloc _ rfl 30 rfl _ hzb ?_)
                | ((with_reducible refine wpSto 22 151 rfl ?_); go_must (refine wpList_storeN rfl 30 (.tmp 22) (.tmp 151) rfl ((w1.setRow wr.heap.size M1.toArray).setCell ⟨tk2, key, none⟩ (.bool true)) (by simp [Act.put, Act.eval]) ZB ZB 30 rfl (by simp [Act.put, Act.eval]) (szOutFrom05 HZB.out) rfl hzbo ?_))
                | ((with_reducible refine wpDst 159 rfl ?_); go_must (refine wpList_bin2V (.inr (by kernel_rfl)) .rem 5 (.tmp 158) _ rfl (.int .u8 (q : Int)) (.int .u8 3) rfl rfl rfl (HREM.out _ _ _) ?_))
                | ((with_reducible refine wpDst 162 rfl ?_); refine wpList_load_agg _ rfl 44 (.tmp 13) rfl _ rfl TB _ Try.underlying44 rfl HTS.out (by exact HI4.out.tabs.cells) ?_)
                | ((with_reducible refine wpDst 163 rfl ?_); refine wpList_load_agg _ rfl 31 (.tmp 5) rfl _ rfl SC _ Try.underlying31 rfl (szElTo05 HSL.out) (by exact HI4.out.sd.cells) ?_)
                | ((with_reducible refine wpDst 167 rfl ?_); refine wpList_load_agg _ rfl 31 (.tmp 9) rfl _ rfl DC _ Try.underlying31 rfl (szElTo05 HDL.out) (by exact HI4.out.dg.cells) ?_)
                | fail)
              refine (HRSG.out key hin _ _ _ HI4.out.levs (fun b hb => by have h1 := HI4.out.ltF.2 b hb; have h2 := HI4.out.size; omega)).mono ?_
              rintro e w2 ⟨v2, rfl, ho2, hx2, hn2⟩
              have hI5 := HI4.out.far hx2 (by simp)
              have hb22b := HB22.out.keep hx2 (by simp)
              have hb19e := HB19D.out.keep hx2 (by simp)
              have hs5 := HS4.out.ext hx2
              have ht1 : SigK (w1.heap.size + 1) w2.heap.size w2 (sigC (bv (signM seed key d)) key v2) (signM seed key d) key (wayM seed n key) := SigK.own ho2 (fun b hb => by have h1 := hn2 b hb; have h2 := HZ4.out; omega)
              obtain ⟨M2, hM2⟩ : ∃ M2, M2 = sigC (bv (signM seed key d)) key v2 := ⟨_, rfl⟩
              rw [← hM2] at ht1 ⊢
              have hm2l : M2.length = 1026 := ht1.len HSSL.out
              have hm2o : ∀ u ∈ M2, u.oneCell' = true := ht1.one
              have hrow2 : w2.grownBy (w2.setRow w1.heap.size M2.toArray) (some w1.heap.size) := setRow_only _
              have hwzz := HWZ.out
              have hI6 := hI5.far hrow2 (by rintro b ⟨⟩; have := HI.out.size; omega)
              have hb22c : Blk (w2.setRow w1.heap.size M2.toArray) w1.heap.size 30 M2 := setRow_at hb22b
              have hb19f := hb19e.keep hrow2 (by simp; omega)
              have hs6 := hs5.keep hrow2 (by rintro b ⟨⟩; exact .inr (Nat.le_refl _))
              have ht2 := ht1.keep hrow2 (by rintro b ⟨⟩; exact .inl (by omega))
              have HI6 := Lib.hid hI6
              have H22A := Lib.hid hb22c
              have H19A := Lib.hid hb19f
              have HS6 := Lib.hid hs6
              have HT2 := Lib.hid ht2
              have HM2L := Lib.hid hm2l
              have HB22B := Lib.hid hb22b
              clear hI5 hb22b hb19e hs5 ht1 hM2 hm2l hrow2 hI6 hb22c hb19f hs6 ht2 ho2 hx2 hn2 hwzz
              go_wp2_with (first
                | ((with_reducible refine wpSto 22 168 rfl ?_); go_must (refine wpList_store_row _ rfl 30 (.tmp 22) (.tmp 168) rfl w1.heap.size (by simp [Act.put, Act.eval, World.setRow]) ZB M2 30 (by simp [Act.put, Act.eval]) (by exact HB22B.out) (szOutFrom05 HM2L.out) (by rw [HM2L.out, HZB.out]) hm2o ?_))
                | fail)
              generalize w2.setRow w1.heap.size M2.toArray = wz at *
              have hxd : Ext wz wz.drew := (Ext.refl wz).drew
              have HI7 := Lib.hid (HI6.out.far hxd (by simp))
              have H22 := Lib.hid (H22A.out.keep hxd (by simp))
              have H19 := Lib.hid (H19A.out.keep hxd (by simp))
              have HS1 := Lib.hid (HS6.out.ext hxd)
              have HS2 := Lib.hid (HT2.out.ext hxd)
              try simp only [World.size_setCell, World.size_alloc]
              have htk : takenM (tk.set key true) key = true := taken_set (by have := HI.out.ring.len; omega)
              have HTAKEN : Hid (∀ W, Ext wz.drew W → Calls Try.prog 20 #[.pointer (some ⟨g, 0, none⟩), .int .u32 (key : Int)] W fun e w' => e = .returned (.bool true) ∧ Ext W w') := Lib.hid fun W hx => by rw [← htk]; exact Ring_Taken (HI7.out.ring.ext hx) key hkey
              have HKN : Hid (key < N) := Lib.hid (by rw [HNE2.out]; exact hin)
              have HBIT : Hid (∀ W, Ext wz.drew W → W.cell? ⟨tk2, key, none⟩ = some (.bool true)) := Lib.hid fun W hx => by have h := (HI7.out.far hx (by simp)).bit (key := key) (by have := HI.out.ring.len; simp; omega); rw [taken_set (by have := HI.out.ring.len; omega)] at h; exact h
              clear htk hxd
              refine stab_plain Ext ext_refl ext_trans [[0], [0, 1], [2], [0, 1, 2, 3], [0, 1, 2, 3, 4], [0, 1, 2, 3, 4, 5], [0, 1, 2, 3, 4, 5, 6], [0, 1, 2, 3, 4, 5, 7], [0, 1, 2, 3, 4, 5, 6, 7, 8], [0, 1, 2, 3, 4, 5, 9], [0, 1, 2, 3, 4, 5, 6, 7, 8, 9, 10], [0, 1, 2, 3, 4, 5, 6, 7, 8, 9, 10, 11], [0, 1, 2, 3, 4, 5, 6, 7, 8, 9, 10, 12], [0, 1, 2, 3, 4, 5, 6, 7, 8, 9, 10, 11, 12, 13], [0, 1, 2, 3, 4, 5, 6, 7, 8, 9, 10, 11, 12, 13, 14], [0, 1, 2, 3, 4, 5, 6, 7, 8, 9, 10, 11, 12, 13, 14, 15], [0, 1, 2, 3, 4, 5, 6, 7, 8, 9, 10, 11, 12, 13, 14, 15, 16], [0, 1, 2, 3, 4, 5, 6, 7, 8, 9, 10, 11, 12, 13, 14, 15, 16, 17]] (fun i v wv => match i with | 0 => v = .agg M1.toArray | 1 => ∃ (M' : List Value) (L U : Nat), v = .agg M'.toArray ∧ SigK L U wv M' (signM seed key d) key (wayM seed n key) | 2 => v = .agg M2.toArray | 3 => v = .bool true | 4 => v = .bool false | 5 => v = .bool false | 6 => v = .pointer (some ⟨g, 0, none⟩) | 7 => v = .int .u32 (key : Int) | 8 => v = .bool true | 9 => v = .bool true | 10 => v = .bool true | 11 => v = .slice (some ⟨tk2, 0, none⟩) N N | 12 => v = .int .u32 (key : Int) | 13 => v = .pointer (some ⟨tk2, key, none⟩) | 14 => v = .bool true | 15 => v = .bool true | 16 => v = .bool false | 17 => v = .bool false | _ => True) (by kernel_rfl) (by kernel_rfl) (by kernel_rfl) ?_ ?_ ?_
              · intro i v w1 w2 h hx
                match i, h with
                | 0, h => exact h
                | 1, h =>
                  replace h : ∃ (M' : List Value) (L U : Nat), v = .agg M'.toArray ∧ SigK L U w1 M' (signM seed key d) key (wayM seed n key) := h
                  show ∃ (M' : List Value) (L U : Nat), v = .agg M'.toArray ∧ SigK L U w2 M' (signM seed key d) key (wayM seed n key)
                  obtain ⟨M', L, U, h1, h2⟩ := h
                  exact ⟨M', L, U, h1, h2.ext hx⟩
                | 2, h => exact h
                | 3, h => exact h
                | 4, h => exact h
                | 5, h => exact h
                | 6, h => exact h
                | 7, h => exact h
                | 8, h => exact h
                | 9, h => exact h
                | 10, h => exact h
                | 11, h => exact h
                | 12, h => exact h
                | 13, h => exact h
                | 14, h => exact h
                | 15, h => exact h
                | 16, h => exact h
                | 17, h => exact h
                | i + 18, h => trivial
              · intro i hi o ho
                match i, hi, ho with
                | 0, _, ho =>
                  obtain rfl := Option.some.inj ho
                  intro s W hX hd K hK
                  rw [if_pos (wanted_plain rfl)]
                  clear hd
                  replace hK : ∀ (v : Value) (W' : World), Ext W W' → (v = .agg M1.toArray) → _ := hK
                  simp only [mkOf, List.map_cons, List.map_nil, Act.put, List.setIfInBounds_toArray, List.set_cons_succ, List.set_cons_zero, Nat.reduceAdd, Nat.zero_add] at hK ⊢
                  refine wp_load_agg 39 (.tmp 19) rfl ⟨wr.heap.size, 0, none⟩ (by simp [Act.eval, World.setRow]) M1 _ Try.underlying39 rfl (szOutTo05 HM1L.out) (H19.out.keep hX (by simp)).cells ?_
                  exact hK _ _ (Ext.refl _) rfl
                | 1, _, ho =>
                  obtain rfl := Option.some.inj ho
                  intro s W hX hd K hK
                  rw [if_pos (wanted_plain rfl)]
                  have d169 : (s 0) = .agg M1.toArray := hd 0 (by decide) (by decide)
                  clear hd
                  replace hK : ∀ (v : Value) (W' : World), Ext W W' → (∃ (M' : List Value) (L U : Nat), v = .agg M'.toArray ∧ SigK L U W' M' (signM seed key d) key (wayM seed n key)) → _ := hK
                  simp only [mkOf, List.map_cons, List.map_nil, Act.put, List.setIfInBounds_toArray, List.set_cons_succ, List.set_cons_zero, Nat.reduceAdd, Nat.zero_add] at hK ⊢
                  simp only [d169] at hK ⊢
                  go_simp
                  refine ((HS1.out.ext hX).from_ HSSL.out HWWN.out).mono ?_
                  rintro e w' ⟨M', rfl, hs, hx⟩
                  exact hK _ _ hx ⟨M', _, _, rfl, hs⟩
                | 2, _, ho =>
                  obtain rfl := Option.some.inj ho
                  intro s W hX hd K hK
                  rw [if_pos (wanted_plain rfl)]
                  clear hd
                  replace hK : ∀ (v : Value) (W' : World), Ext W W' → (v = .agg M2.toArray) → _ := hK
                  simp only [mkOf, List.map_cons, List.map_nil, Act.put, List.setIfInBounds_toArray, List.set_cons_succ, List.set_cons_zero, Nat.reduceAdd, Nat.zero_add] at hK ⊢
                  refine wp_load_agg 30 (.tmp 22) rfl ⟨w1.heap.size, 0, none⟩ (by simp [Act.eval, World.setRow]) M2 _ Try.underlying30 rfl (szOutFrom05 HM2L.out) (H22.out.keep hX (by simp)).cells ?_
                  exact hK _ _ (Ext.refl _) rfl
                | 3, _, ho =>
                  obtain rfl := Option.some.inj ho
                  intro s W hX hd K hK
                  rw [if_pos (wanted_plain rfl)]
                  have d170 : ∃ (M' : List Value) (L U : Nat), (s 1) = .agg M'.toArray ∧ SigK L U W M' (signM seed key d) key (wayM seed n key) := hd 1 (by decide) (by decide)
                  have d171 : (s 2) = .agg M2.toArray := hd 2 (by decide) (by decide)
                  clear hd
                  replace hK : ∀ (v : Value) (W' : World), Ext W W' → (v = .bool true) → _ := hK
                  simp only [mkOf, List.map_cons, List.map_nil, Act.put, List.setIfInBounds_toArray, List.set_cons_succ, List.set_cons_zero, Nat.reduceAdd, Nat.zero_add] at hK ⊢
                  simp only [d171] at hK ⊢
                  obtain ⟨M', L, U, h1, h2⟩ := d170
                  simp only [h1] at hK ⊢
                  go_simp
                  refine (h2.same HSSL.out (HS2.out.ext hX)).mono ?_
                  rintro e w' ⟨rfl, hx⟩
                  exact hK _ _ hx rfl
                | 4, _, ho =>
                  obtain rfl := Option.some.inj ho
                  intro s W hX hd K hK
                  rw [if_pos (wanted_plain rfl)]
                  have d172 : (s 3) = .bool true := hd 3 (by decide) (by decide)
                  clear hd
                  replace hK : ∀ (v : Value) (W' : World), Ext W W' → (v = .bool false) → _ := hK
                  simp only [mkOf, List.map_cons, List.map_nil, Act.put, List.setIfInBounds_toArray, List.set_cons_succ, List.set_cons_zero, Nat.reduceAdd, Nat.zero_add] at hK ⊢
                  simp only [d172] at hK ⊢
                  go_simp
                  exact hK _ _ (Ext.refl _) rfl
                | 5, _, ho =>
                  obtain rfl := Option.some.inj ho
                  intro s W hX hd K hK
                  rw [if_pos (wanted_plain rfl)]
                  have d173 : (s 4) = .bool false := hd 4 (by decide) (by decide)
                  clear hd
                  replace hK : ∀ (v : Value) (W' : World), Ext W W' → (v = .bool false) → _ := hK
                  simp only [mkOf, List.map_cons, List.map_nil, Act.put, List.setIfInBounds_toArray, List.set_cons_succ, List.set_cons_zero, Nat.reduceAdd, Nat.zero_add] at hK ⊢
                  simp only [d173] at hK ⊢
                  go_simp
                  exact hK _ _ (Ext.refl _) rfl
                | 6, _, ho =>
                  obtain rfl := Option.some.inj ho
                  intro s W hX hd K hK
                  have d174 : (s 5) = .bool false := hd 5 (by decide) (by decide)
                  clear hd
                  replace hK : ∀ (v : Value) (W' : World), Ext W W' → (v = .pointer (some ⟨g, 0, none⟩)) → _ := hK
                  simp only [mkOf, List.map_cons, List.map_nil, Act.put, List.setIfInBounds_toArray, List.set_cons_succ, List.set_cons_zero, Nat.reduceAdd, Nat.zero_add] at hK ⊢
                  simp only [d174] at hK ⊢
                  rw [if_pos (by kernel_rfl)]
                  go_simp
                  exact hK _ _ (Ext.refl _) rfl
                | 7, _, ho =>
                  obtain rfl := Option.some.inj ho
                  intro s W hX hd K hK
                  have d174 : (s 5) = .bool false := hd 5 (by decide) (by decide)
                  clear hd
                  replace hK : ∀ (v : Value) (W' : World), Ext W W' → (v = .int .u32 (key : Int)) → _ := hK
                  simp only [mkOf, List.map_cons, List.map_nil, Act.put, List.setIfInBounds_toArray, List.set_cons_succ, List.set_cons_zero, Nat.reduceAdd, Nat.zero_add] at hK ⊢
                  simp only [d174] at hK ⊢
                  rw [if_pos (by kernel_rfl)]
                  go_simp
                  exact hK _ _ (Ext.refl _) rfl
                | 8, _, ho =>
                  obtain rfl := Option.some.inj ho
                  intro s W hX hd K hK
                  have d174 : (s 5) = .bool false := hd 5 (by decide) (by decide)
                  have d175 : (s 6) = .pointer (some ⟨g, 0, none⟩) := hd 6 (by decide) (by decide)
                  have d176 : (s 7) = .int .u32 (key : Int) := hd 7 (by decide) (by decide)
                  clear hd
                  replace hK : ∀ (v : Value) (W' : World), Ext W W' → (v = .bool true) → _ := hK
                  simp only [mkOf, List.map_cons, List.map_nil, Act.put, List.setIfInBounds_toArray, List.set_cons_succ, List.set_cons_zero, Nat.reduceAdd, Nat.zero_add] at hK ⊢
                  simp only [d174, d175, d176] at hK ⊢
                  rw [if_pos (by kernel_rfl)]
                  go_simp
                  refine (HTAKEN.out _ hX).mono ?_
                  rintro e w' ⟨rfl, hx⟩
                  exact hK _ _ hx rfl
                | 9, _, ho =>
                  obtain rfl := Option.some.inj ho
                  intro s W hX hd K hK
                  have d174 : (s 5) = .bool false := hd 5 (by decide) (by decide)
                  clear hd
                  replace hK : ∀ (v : Value) (W' : World), Ext W W' → (v = .bool true) → _ := hK
                  simp only [mkOf, List.map_cons, List.map_nil, Act.put, List.setIfInBounds_toArray, List.set_cons_succ, List.set_cons_zero, Nat.reduceAdd, Nat.zero_add] at hK ⊢
                  simp only [d174] at hK ⊢
                  rw [if_pos (by kernel_rfl)]
                  go_simp
                  exact hK _ _ (Ext.refl _) rfl
                | 10, _, ho =>
                  obtain rfl := Option.some.inj ho
                  intro s W hX hd K hK
                  have d174 : (s 5) = .bool false := hd 5 (by decide) (by decide)
                  have d178 : (s 9) = .bool true := hd 9 (by decide) (by decide)
                  clear hd
                  replace hK : ∀ (v : Value) (W' : World), Ext W W' → (v = .bool true) → _ := hK
                  simp only [mkOf, List.map_cons, List.map_nil, Act.put, List.setIfInBounds_toArray, List.set_cons_succ, List.set_cons_zero, Nat.reduceAdd, Nat.zero_add] at hK ⊢
                  simp only [d174, d178] at hK ⊢
                  rw [if_pos (by kernel_rfl)]
                  go_simp
                  exact hK _ _ (Ext.refl _) rfl
                | 11, _, ho =>
                  obtain rfl := Option.some.inj ho
                  intro s W hX hd K hK
                  have d179 : (s 10) = .bool true := hd 10 (by decide) (by decide)
                  clear hd
                  replace hK : ∀ (v : Value) (W' : World), Ext W W' → (v = .slice (some ⟨tk2, 0, none⟩) N N) → _ := hK
                  simp only [mkOf, List.map_cons, List.map_nil, Act.put, List.setIfInBounds_toArray, List.set_cons_succ, List.set_cons_zero, Nat.reduceAdd, Nat.zero_add] at hK ⊢
                  simp only [d179] at hK ⊢
                  rw [if_pos (by kernel_rfl)]
                  go_simp
                  exact hK _ _ (Ext.refl _) rfl
                | 12, _, ho =>
                  obtain rfl := Option.some.inj ho
                  intro s W hX hd K hK
                  have d179 : (s 10) = .bool true := hd 10 (by decide) (by decide)
                  clear hd
                  replace hK : ∀ (v : Value) (W' : World), Ext W W' → (v = .int .u32 (key : Int)) → _ := hK
                  simp only [mkOf, List.map_cons, List.map_nil, Act.put, List.setIfInBounds_toArray, List.set_cons_succ, List.set_cons_zero, Nat.reduceAdd, Nat.zero_add] at hK ⊢
                  simp only [d179] at hK ⊢
                  rw [if_pos (by kernel_rfl)]
                  go_simp
                  exact hK _ _ (Ext.refl _) rfl
                | 13, _, ho =>
                  obtain rfl := Option.some.inj ho
                  intro s W hX hd K hK
                  have d179 : (s 10) = .bool true := hd 10 (by decide) (by decide)
                  have d180 : (s 11) = .slice (some ⟨tk2, 0, none⟩) N N := hd 11 (by decide) (by decide)
                  have d181 : (s 12) = .int .u32 (key : Int) := hd 12 (by decide) (by decide)
                  clear hd
                  replace hK : ∀ (v : Value) (W' : World), Ext W W' → (v = .pointer (some ⟨tk2, key, none⟩)) → _ := hK
                  simp only [mkOf, List.map_cons, List.map_nil, Act.put, List.setIfInBounds_toArray, List.set_cons_succ, List.set_cons_zero, Nat.reduceAdd, Nat.zero_add] at hK ⊢
                  simp only [d179, d180, d181] at hK ⊢
                  rw [if_pos (by kernel_rfl)]
                  have hkn := HKN.out
                  go_simp
                  exact hK _ _ (Ext.refl _) rfl
                | 14, _, ho =>
                  obtain rfl := Option.some.inj ho
                  intro s W hX hd K hK
                  have d179 : (s 10) = .bool true := hd 10 (by decide) (by decide)
                  have d182 : (s 13) = .pointer (some ⟨tk2, key, none⟩) := hd 13 (by decide) (by decide)
                  clear hd
                  replace hK : ∀ (v : Value) (W' : World), Ext W W' → (v = .bool true) → _ := hK
                  simp only [mkOf, List.map_cons, List.map_nil, Act.put, List.setIfInBounds_toArray, List.set_cons_succ, List.set_cons_zero, Nat.reduceAdd, Nat.zero_add] at hK ⊢
                  simp only [d179, d182] at hK ⊢
                  rw [if_pos (by kernel_rfl)]
                  have c183 := HBIT.out W hX
                  go_simp
                  exact hK _ _ (Ext.refl _) rfl
                | 15, _, ho =>
                  obtain rfl := Option.some.inj ho
                  intro s W hX hd K hK
                  have d174 : (s 5) = .bool false := hd 5 (by decide) (by decide)
                  have d179 : (s 10) = .bool true := hd 10 (by decide) (by decide)
                  have d183 : (s 14) = .bool true := hd 14 (by decide) (by decide)
                  clear hd
                  replace hK : ∀ (v : Value) (W' : World), Ext W W' → (v = .bool true) → _ := hK
                  simp only [mkOf, List.map_cons, List.map_nil, Act.put, List.setIfInBounds_toArray, List.set_cons_succ, List.set_cons_zero, Nat.reduceAdd, Nat.zero_add] at hK ⊢
                  simp only [d174, d179, d183] at hK ⊢
                  rw [if_pos (by kernel_rfl)]
                  go_simp
                  exact hK _ _ (Ext.refl _) rfl
                | 16, _, ho =>
                  obtain rfl := Option.some.inj ho
                  intro s W hX hd K hK
                  have d174 : (s 5) = .bool false := hd 5 (by decide) (by decide)
                  have d177 : (s 8) = .bool true := hd 8 (by decide) (by decide)
                  have d184 : (s 15) = .bool true := hd 15 (by decide) (by decide)
                  clear hd
                  replace hK : ∀ (v : Value) (W' : World), Ext W W' → (v = .bool false) → _ := hK
                  simp only [mkOf, List.map_cons, List.map_nil, Act.put, List.setIfInBounds_toArray, List.set_cons_succ, List.set_cons_zero, Nat.reduceAdd, Nat.zero_add] at hK ⊢
                  simp only [d174, d177, d184] at hK ⊢
                  rw [if_pos (by kernel_rfl)]
                  go_simp
                  exact hK _ _ (Ext.refl _) rfl
                | 17, _, ho =>
                  obtain rfl := Option.some.inj ho
                  intro s W hX hd K hK
                  rw [if_pos (wanted_plain rfl)]
                  have d174 : (s 5) = .bool false := hd 5 (by decide) (by decide)
                  have d185 : (s 16) = .bool false := hd 16 (by decide) (by decide)
                  clear hd
                  replace hK : ∀ (v : Value) (W' : World), Ext W W' → (v = .bool false) → _ := hK
                  simp only [mkOf, List.map_cons, List.map_nil, Act.put, List.setIfInBounds_toArray, List.set_cons_succ, List.set_cons_zero, Nat.reduceAdd, Nat.zero_add] at hK ⊢
                  simp only [d174, d185] at hK ⊢
                  go_simp
                  exact hK _ _ (Ext.refl _) rfl
                | i + 18, hi, _ => exact absurd hi (by simp)
              · intro s W hX hd
                have d169 : (s 0) = .agg M1.toArray := hd 0 (by decide)
                have d170 : ∃ (M' : List Value) (L U : Nat), (s 1) = .agg M'.toArray ∧ SigK L U W M' (signM seed key d) key (wayM seed n key) := hd 1 (by decide)
                have d171 : (s 2) = .agg M2.toArray := hd 2 (by decide)
                have d172 : (s 3) = .bool true := hd 3 (by decide)
                have d173 : (s 4) = .bool false := hd 4 (by decide)
                have d174 : (s 5) = .bool false := hd 5 (by decide)
                have d175 : (s 6) = .pointer (some ⟨g, 0, none⟩) := hd 6 (by decide)
                have d176 : (s 7) = .int .u32 (key : Int) := hd 7 (by decide)
                have d177 : (s 8) = .bool true := hd 8 (by decide)
                have d178 : (s 9) = .bool true := hd 9 (by decide)
                have d179 : (s 10) = .bool true := hd 10 (by decide)
                have d180 : (s 11) = .slice (some ⟨tk2, 0, none⟩) N N := hd 11 (by decide)
                have d181 : (s 12) = .int .u32 (key : Int) := hd 12 (by decide)
                have d182 : (s 13) = .pointer (some ⟨tk2, key, none⟩) := hd 13 (by decide)
                have d183 : (s 14) = .bool true := hd 14 (by decide)
                have d184 : (s 15) = .bool true := hd 15 (by decide)
                have d185 : (s 16) = .bool false := hd 16 (by decide)
                have d186 : (s 17) = .bool false := hd 17 (by decide)
                clear hd
                simp only [mkOf, List.map_cons, List.map_nil, Act.put, List.setIfInBounds_toArray, List.set_cons_succ, List.set_cons_zero, Nat.reduceAdd, Nat.zero_add]
                (try simp only [Exit.inBlock, Exit.then])
                have hI9 := HI7.out.far hX (by simp)
                have HI9 := Lib.hid hI9
                simp only [d169, d171, d172, d173, d174, d175, d176, d177, d178, d179, d184, d185, d186, d180, d181, d182, d183]
                clear hI9 hX d169 d170 d171 d172 d173 d174 d175 d176 d177 d178 d179 d184 d185 d186 d180 d181 d182 d183
                go_wp2_with fail
                go_roundw
                case rel => exact ⟨k + 1, (tk.set key true), by omega, by go_num, HI9.out⟩
                case measure => simp [intOf]; omega
            | true =>
              have HT := Lib.hid hT
              clear hT
              clear hq3
              go_wp2_with (first
                | ((with_reducible refine wpDst 19 rfl ?_); refine wpList_alloc _ rfl 39 rfl _ hza ?_)
                | ((with_reducible refine wpDst 104 rfl ?_); refine wpList_bin2 rfl .rem 5 (.tmp 103) _ rfl (.int .u8 (q : Int)) (.int .u8 3) rfl rfl rfl (HREM.out _ _ _) ?_)
                | ((with_reducible refine wpDst 113 rfl ?_); refine wpList_load_agg _ rfl 31 (.tmp 9) rfl _ rfl DC _ Try.underlying31 rfl (szElTo05 HDL.out) (by exact HIB.out.dg.cells) ?_)
                | fail)
              have hcall := Ring_Sign_no HIB.out.ring key hkey hin HT.out d
              rw [HDCE.out, HZAE.out] at hcall
              refine hcall.mono ?_
              rintro e w1 ⟨rfl, hg1⟩
              have hI1 := HIB.out.far hg1 (by simp)
              have hb19 := HB19.out.keep hg1 (by simp)
              have hwz : wr.heap.size + 1 ≤ w1.heap.size := by have := hg1.size; simpa using this
              have hs1 : SigK (wr.heap.size + 1) w1.heap.size w1 ZA (List.replicate 1024 0) 0 [] := by rw [← HZAE.out]; exact SigK.nil _
              have hss : List.length (α := UInt8) (List.replicate 1024 0) = 1024 := List.length_replicate
              have hwn : List.length (α := Dg) [] ≤ 8 := Nat.zero_le 8
              have hm1l : ZA.length = 1026 := hs1.len hss
              have hm1o : ∀ u ∈ ZA, u.oneCell' = true := hs1.one
              have hrow : w1.grownBy (w1.setRow wr.heap.size ZA.toArray) (some wr.heap.size) := setRow_only _
              have hI2 := hI1.far hrow (by rintro b ⟨⟩; exact HI.out.size)
              have hb19b : Blk (w1.setRow wr.heap.size ZA.toArray) wr.heap.size 39 ZA := setRow_at hb19
              have hs2 := hs1.keep hrow (by rintro b ⟨⟩; exact .inl (by omega))
              have hz2 : (w1.setRow wr.heap.size ZA.toArray).heap.size = w1.heap.size := by simp [World.setRow]
              have ck2 : (w1.setRow wr.heap.size ZA.toArray).cell? ⟨tk2, key, none⟩ = some (.bool true) := by have h := hI2.bit (key := key) (by have := HI.out.ring.len; omega); rw [HT.out] at h; exact h
              have hI3 := hI2
              have hb19c := hb19b
              have hs3 := hs2
              have hz3 := hz2
              have hal : Ext (w1.setRow wr.heap.size ZA.toArray) ((w1.setRow wr.heap.size ZA.toArray).alloc (.cells ZB.toArray 30)) := (Ext.refl _).alloc _
              have hI4 := hI3.far hal (by simp)
              have hb19d := hb19c.keep hal (by simp)
              have hs4 := hs3.ext hal
              have hb22 : Blk ((w1.setRow wr.heap.size ZA.toArray).alloc (.cells ZB.toArray 30)) w1.heap.size 30 ZB := by have h := Blk.new (w1.setRow wr.heap.size ZA.toArray) 30 ZB; rw [hz3] at h; exact h
              have ckq : ((w1.setRow wr.heap.size ZA.toArray).alloc (.cells ZB.toArray 30)).cell? (adq.add k) = some (.int .u8 (q : Int)) := HKQ.out _ hI4.ext
              have hz4 : ((w1.setRow wr.heap.size ZA.toArray).alloc (.cells ZB.toArray 30)).heap.size = w1.heap.size + 1 := by rw [World.size_alloc, hz3]
              have HI1 := Lib.hid hI1
              have HI4 := Lib.hid hI4
              have HB19D := Lib.hid hb19d
              have HS4 := Lib.hid hs4
              have HB22 := Lib.hid hb22
              have HM1L := Lib.hid hm1l
              have HSSL := Lib.hid hss
              have HWWN := Lib.hid hwn
              have HB19A := Lib.hid hb19
              have HZ4 := Lib.hid hz4
              have HWZ := Lib.hid hwz
              have HZ3 := Lib.hid hz3
              clear hI1 hI2 hI3 hI4 hb19 hb19b hb19c hb19d hs1 hs2 hs3 hs4 hb22 hm1l hss hwn hal hz2 hz3 hz4 hwz hg1 hrow
              go_wp2_with (first
                | ((with_reducible refine wpSto 19 115 rfl ?_); go_must (refine wpList_store_row _ rfl 39 (.tmp 19) (.tmp 115) rfl wr.heap.size (by simp [Act.put, Act.eval]) ZA ZA 39 (by simp [Act.put, Act.eval]) (by exact HB19A.out) (szOutTo05 HM1L.out) (by first | rfl | rw [HM1L.out, HZA.out]) hm1o ?_))
                | ((with_reducible refine wpDst 151 rfl ?_); refine wpList_build (.inl rfl) 30 #[] rfl (.agg ZB.toArray) (exec_build0 _ _ rfl HBU.out) ?_)
                | ((with_reducible refine wpDst 22 rfl ?_); refine wpList_alloc _ rfl 30 rfl _ hzb ?_)
                | ((with_reducible refine wpSto 22 151 rfl ?_); go_must (refine wpList_storeN rfl 30 (.tmp 22) (.tmp 151) rfl (w1.setRow wr.heap.size ZA.toArray) (by simp [Act.put, Act.eval]) ZB ZB 30 rfl (by simp [Act.put, Act.eval]) (szOutFrom05 HZB.out) rfl hzbo ?_))
                | fail)
              have HM2L : Hid (ZB.length = 1026) := HZB
              have ht2 : SigK (w1.heap.size + 1) ((w1.setRow wr.heap.size ZA.toArray).alloc (.cells ZB.toArray 30)).heap.size ((w1.setRow wr.heap.size ZA.toArray).alloc (.cells ZB.toArray 30)) ZB (List.replicate 1024 0) 0 [] := by rw [← HZBE.out]; exact SigK.nil _
              have HT2 := Lib.hid ht2
              have HI6 := HI4
              have H22A := HB22
              have H19A := HB19D
              have HS6 := HS4
              clear ht2
              generalize ((w1.setRow wr.heap.size ZA.toArray).alloc (.cells ZB.toArray 30)) = wz at *
              have hxd : Ext wz wz.drew := (Ext.refl wz).drew
              have HI7 := Lib.hid (HI6.out.far hxd (by simp))
              have H22 := Lib.hid (H22A.out.keep hxd (by simp))
              have H19 := Lib.hid (H19A.out.keep hxd (by simp))
              have HS1 := Lib.hid (HS6.out.ext hxd)
              have HS2 := Lib.hid (HT2.out.ext hxd)
              try simp only [World.size_setCell, World.size_alloc]
              have htk : takenM tk key = true := HT.out
              have HTAKEN : Hid (∀ W, Ext wz.drew W → Calls Try.prog 20 #[.pointer (some ⟨g, 0, none⟩), .int .u32 (key : Int)] W fun e w' => e = .returned (.bool true) ∧ Ext W w') := Lib.hid fun W hx => by rw [← htk]; exact Ring_Taken (HI7.out.ring.ext hx) key hkey
              have HKN : Hid (key < N) := Lib.hid (by rw [HNE2.out]; exact hin)
              have HBIT : Hid (∀ W, Ext wz.drew W → W.cell? ⟨tk2, key, none⟩ = some (.bool true)) := Lib.hid fun W hx => by have h := (HI7.out.far hx (by simp)).bit (key := key) (by have := HI.out.ring.len; omega); rw [HT.out] at h; exact h
              clear htk hxd
              refine stab_plain Ext ext_refl ext_trans [[0], [0, 1], [2], [0, 1, 2, 3], [0, 1, 2, 3, 4], [0, 1, 2, 3, 4, 5], [0, 1, 2, 3, 4, 5, 6], [0, 1, 2, 3, 4, 5, 7], [0, 1, 2, 3, 4, 5, 6, 7, 8], [0, 1, 2, 3, 4, 5, 9], [0, 1, 2, 3, 4, 5, 6, 7, 8, 9, 10], [0, 1, 2, 3, 4, 5, 6, 7, 8, 9, 10, 11], [0, 1, 2, 3, 4, 5, 6, 7, 8, 9, 10, 12], [0, 1, 2, 3, 4, 5, 6, 7, 8, 9, 10, 11, 12, 13], [0, 1, 2, 3, 4, 5, 6, 7, 8, 9, 10, 11, 12, 13, 14], [0, 1, 2, 3, 4, 5, 6, 7, 8, 9, 10, 11, 12, 13, 14, 15], [0, 1, 2, 3, 4, 5, 6, 7, 8, 9, 10, 11, 12, 13, 14, 15, 16], [0, 1, 2, 3, 4, 5, 6, 7, 8, 9, 10, 11, 12, 13, 14, 15, 16, 17]] (fun i v wv => match i with | 0 => v = .agg ZA.toArray | 1 => ∃ (M' : List Value) (L U : Nat), v = .agg M'.toArray ∧ SigK L U wv M' (List.replicate 1024 0) 0 [] | 2 => v = .agg ZB.toArray | 3 => v = .bool true | 4 => v = .bool false | 5 => v = .bool false | 6 => v = .pointer (some ⟨g, 0, none⟩) | 7 => v = .int .u32 (key : Int) | 8 => v = .bool true | 9 => v = .bool true | 10 => v = .bool true | 11 => v = .slice (some ⟨tk2, 0, none⟩) N N | 12 => v = .int .u32 (key : Int) | 13 => v = .pointer (some ⟨tk2, key, none⟩) | 14 => v = .bool true | 15 => v = .bool true | 16 => v = .bool false | 17 => v = .bool false | _ => True) (by kernel_rfl) (by kernel_rfl) (by kernel_rfl) ?_ ?_ ?_
              · intro i v w1 w2 h hx
                match i, h with
                | 0, h => exact h
                | 1, h =>
                  replace h : ∃ (M' : List Value) (L U : Nat), v = .agg M'.toArray ∧ SigK L U w1 M' (List.replicate 1024 0) 0 [] := h
                  show ∃ (M' : List Value) (L U : Nat), v = .agg M'.toArray ∧ SigK L U w2 M' (List.replicate 1024 0) 0 []
                  obtain ⟨M', L, U, h1, h2⟩ := h
                  exact ⟨M', L, U, h1, h2.ext hx⟩
                | 2, h => exact h
                | 3, h => exact h
                | 4, h => exact h
                | 5, h => exact h
                | 6, h => exact h
                | 7, h => exact h
                | 8, h => exact h
                | 9, h => exact h
                | 10, h => exact h
                | 11, h => exact h
                | 12, h => exact h
                | 13, h => exact h
                | 14, h => exact h
                | 15, h => exact h
                | 16, h => exact h
                | 17, h => exact h
                | i + 18, h => trivial
              · intro i hi o ho
                match i, hi, ho with
                | 0, _, ho =>
                  obtain rfl := Option.some.inj ho
                  intro s W hX hd K hK
                  rw [if_pos (wanted_plain rfl)]
                  clear hd
                  replace hK : ∀ (v : Value) (W' : World), Ext W W' → (v = .agg ZA.toArray) → _ := hK
                  simp only [mkOf, List.map_cons, List.map_nil, Act.put, List.setIfInBounds_toArray, List.set_cons_succ, List.set_cons_zero, Nat.reduceAdd, Nat.zero_add] at hK ⊢
                  refine wp_load_agg 39 (.tmp 19) rfl ⟨wr.heap.size, 0, none⟩ (by simp [Act.eval, World.setRow]) ZA _ Try.underlying39 rfl (szOutTo05 HM1L.out) (H19.out.keep hX (by simp)).cells ?_
                  exact hK _ _ (Ext.refl _) rfl
                | 1, _, ho =>
                  obtain rfl := Option.some.inj ho
                  intro s W hX hd K hK
                  rw [if_pos (wanted_plain rfl)]
                  have d169 : (s 0) = .agg ZA.toArray := hd 0 (by decide) (by decide)
                  clear hd
                  replace hK : ∀ (v : Value) (W' : World), Ext W W' → (∃ (M' : List Value) (L U : Nat), v = .agg M'.toArray ∧ SigK L U W' M' (List.replicate 1024 0) 0 []) → _ := hK
                  simp only [mkOf, List.map_cons, List.map_nil, Act.put, List.setIfInBounds_toArray, List.set_cons_succ, List.set_cons_zero, Nat.reduceAdd, Nat.zero_add] at hK ⊢
                  simp only [d169] at hK ⊢
                  go_simp
                  refine ((HS1.out.ext hX).from_ HSSL.out HWWN.out).mono ?_
                  rintro e w' ⟨M', rfl, hs, hx⟩
                  exact hK _ _ hx ⟨M', _, _, rfl, hs⟩
                | 2, _, ho =>
                  obtain rfl := Option.some.inj ho
                  intro s W hX hd K hK
                  rw [if_pos (wanted_plain rfl)]
                  clear hd
                  replace hK : ∀ (v : Value) (W' : World), Ext W W' → (v = .agg ZB.toArray) → _ := hK
                  simp only [mkOf, List.map_cons, List.map_nil, Act.put, List.setIfInBounds_toArray, List.set_cons_succ, List.set_cons_zero, Nat.reduceAdd, Nat.zero_add] at hK ⊢
                  refine wp_load_agg 30 (.tmp 22) rfl ⟨w1.heap.size, 0, none⟩ (by simp [Act.eval, World.setRow]) ZB _ Try.underlying30 rfl (szOutFrom05 HM2L.out) (H22.out.keep hX (by simp)).cells ?_
                  exact hK _ _ (Ext.refl _) rfl
                | 3, _, ho =>
                  obtain rfl := Option.some.inj ho
                  intro s W hX hd K hK
                  rw [if_pos (wanted_plain rfl)]
                  have d170 : ∃ (M' : List Value) (L U : Nat), (s 1) = .agg M'.toArray ∧ SigK L U W M' (List.replicate 1024 0) 0 [] := hd 1 (by decide) (by decide)
                  have d171 : (s 2) = .agg ZB.toArray := hd 2 (by decide) (by decide)
                  clear hd
                  replace hK : ∀ (v : Value) (W' : World), Ext W W' → (v = .bool true) → _ := hK
                  simp only [mkOf, List.map_cons, List.map_nil, Act.put, List.setIfInBounds_toArray, List.set_cons_succ, List.set_cons_zero, Nat.reduceAdd, Nat.zero_add] at hK ⊢
                  simp only [d171] at hK ⊢
                  obtain ⟨M', L, U, h1, h2⟩ := d170
                  simp only [h1] at hK ⊢
                  go_simp
                  refine (h2.same HSSL.out (HS2.out.ext hX)).mono ?_
                  rintro e w' ⟨rfl, hx⟩
                  exact hK _ _ hx rfl
                | 4, _, ho =>
                  obtain rfl := Option.some.inj ho
                  intro s W hX hd K hK
                  rw [if_pos (wanted_plain rfl)]
                  have d172 : (s 3) = .bool true := hd 3 (by decide) (by decide)
                  clear hd
                  replace hK : ∀ (v : Value) (W' : World), Ext W W' → (v = .bool false) → _ := hK
                  simp only [mkOf, List.map_cons, List.map_nil, Act.put, List.setIfInBounds_toArray, List.set_cons_succ, List.set_cons_zero, Nat.reduceAdd, Nat.zero_add] at hK ⊢
                  simp only [d172] at hK ⊢
                  go_simp
                  exact hK _ _ (Ext.refl _) rfl
                | 5, _, ho =>
                  obtain rfl := Option.some.inj ho
                  intro s W hX hd K hK
                  rw [if_pos (wanted_plain rfl)]
                  have d173 : (s 4) = .bool false := hd 4 (by decide) (by decide)
                  clear hd
                  replace hK : ∀ (v : Value) (W' : World), Ext W W' → (v = .bool false) → _ := hK
                  simp only [mkOf, List.map_cons, List.map_nil, Act.put, List.setIfInBounds_toArray, List.set_cons_succ, List.set_cons_zero, Nat.reduceAdd, Nat.zero_add] at hK ⊢
                  simp only [d173] at hK ⊢
                  go_simp
                  exact hK _ _ (Ext.refl _) rfl
                | 6, _, ho =>
                  obtain rfl := Option.some.inj ho
                  intro s W hX hd K hK
                  have d174 : (s 5) = .bool false := hd 5 (by decide) (by decide)
                  clear hd
                  replace hK : ∀ (v : Value) (W' : World), Ext W W' → (v = .pointer (some ⟨g, 0, none⟩)) → _ := hK
                  simp only [mkOf, List.map_cons, List.map_nil, Act.put, List.setIfInBounds_toArray, List.set_cons_succ, List.set_cons_zero, Nat.reduceAdd, Nat.zero_add] at hK ⊢
                  simp only [d174] at hK ⊢
                  rw [if_pos (by kernel_rfl)]
                  go_simp
                  exact hK _ _ (Ext.refl _) rfl
                | 7, _, ho =>
                  obtain rfl := Option.some.inj ho
                  intro s W hX hd K hK
                  have d174 : (s 5) = .bool false := hd 5 (by decide) (by decide)
                  clear hd
                  replace hK : ∀ (v : Value) (W' : World), Ext W W' → (v = .int .u32 (key : Int)) → _ := hK
                  simp only [mkOf, List.map_cons, List.map_nil, Act.put, List.setIfInBounds_toArray, List.set_cons_succ, List.set_cons_zero, Nat.reduceAdd, Nat.zero_add] at hK ⊢
                  simp only [d174] at hK ⊢
                  rw [if_pos (by kernel_rfl)]
                  go_simp
                  exact hK _ _ (Ext.refl _) rfl
                | 8, _, ho =>
                  obtain rfl := Option.some.inj ho
                  intro s W hX hd K hK
                  have d174 : (s 5) = .bool false := hd 5 (by decide) (by decide)
                  have d175 : (s 6) = .pointer (some ⟨g, 0, none⟩) := hd 6 (by decide) (by decide)
                  have d176 : (s 7) = .int .u32 (key : Int) := hd 7 (by decide) (by decide)
                  clear hd
                  replace hK : ∀ (v : Value) (W' : World), Ext W W' → (v = .bool true) → _ := hK
                  simp only [mkOf, List.map_cons, List.map_nil, Act.put, List.setIfInBounds_toArray, List.set_cons_succ, List.set_cons_zero, Nat.reduceAdd, Nat.zero_add] at hK ⊢
                  simp only [d174, d175, d176] at hK ⊢
                  rw [if_pos (by kernel_rfl)]
                  go_simp
                  refine (HTAKEN.out _ hX).mono ?_
                  rintro e w' ⟨rfl, hx⟩
                  exact hK _ _ hx rfl
                | 9, _, ho =>
                  obtain rfl := Option.some.inj ho
                  intro s W hX hd K hK
                  have d174 : (s 5) = .bool false := hd 5 (by decide) (by decide)
                  clear hd
                  replace hK : ∀ (v : Value) (W' : World), Ext W W' → (v = .bool true) → _ := hK
                  simp only [mkOf, List.map_cons, List.map_nil, Act.put, List.setIfInBounds_toArray, List.set_cons_succ, List.set_cons_zero, Nat.reduceAdd, Nat.zero_add] at hK ⊢
                  simp only [d174] at hK ⊢
                  rw [if_pos (by kernel_rfl)]
                  go_simp
                  exact hK _ _ (Ext.refl _) rfl
                | 10, _, ho =>
                  obtain rfl := Option.some.inj ho
                  intro s W hX hd K hK
                  have d174 : (s 5) = .bool false := hd 5 (by decide) (by decide)
                  have d178 : (s 9) = .bool true := hd 9 (by decide) (by decide)
                  clear hd
                  replace hK : ∀ (v : Value) (W' : World), Ext W W' → (v = .bool true) → _ := hK
                  simp only [mkOf, List.map_cons, List.map_nil, Act.put, List.setIfInBounds_toArray, List.set_cons_succ, List.set_cons_zero, Nat.reduceAdd, Nat.zero_add] at hK ⊢
                  simp only [d174, d178] at hK ⊢
                  rw [if_pos (by kernel_rfl)]
                  go_simp
                  exact hK _ _ (Ext.refl _) rfl
                | 11, _, ho =>
                  obtain rfl := Option.some.inj ho
                  intro s W hX hd K hK
                  have d179 : (s 10) = .bool true := hd 10 (by decide) (by decide)
                  clear hd
                  replace hK : ∀ (v : Value) (W' : World), Ext W W' → (v = .slice (some ⟨tk2, 0, none⟩) N N) → _ := hK
                  simp only [mkOf, List.map_cons, List.map_nil, Act.put, List.setIfInBounds_toArray, List.set_cons_succ, List.set_cons_zero, Nat.reduceAdd, Nat.zero_add] at hK ⊢
                  simp only [d179] at hK ⊢
                  rw [if_pos (by kernel_rfl)]
                  go_simp
                  exact hK _ _ (Ext.refl _) rfl
                | 12, _, ho =>
                  obtain rfl := Option.some.inj ho
                  intro s W hX hd K hK
                  have d179 : (s 10) = .bool true := hd 10 (by decide) (by decide)
                  clear hd
                  replace hK : ∀ (v : Value) (W' : World), Ext W W' → (v = .int .u32 (key : Int)) → _ := hK
                  simp only [mkOf, List.map_cons, List.map_nil, Act.put, List.setIfInBounds_toArray, List.set_cons_succ, List.set_cons_zero, Nat.reduceAdd, Nat.zero_add] at hK ⊢
                  simp only [d179] at hK ⊢
                  rw [if_pos (by kernel_rfl)]
                  go_simp
                  exact hK _ _ (Ext.refl _) rfl
                | 13, _, ho =>
                  obtain rfl := Option.some.inj ho
                  intro s W hX hd K hK
                  have d179 : (s 10) = .bool true := hd 10 (by decide) (by decide)
                  have d180 : (s 11) = .slice (some ⟨tk2, 0, none⟩) N N := hd 11 (by decide) (by decide)
                  have d181 : (s 12) = .int .u32 (key : Int) := hd 12 (by decide) (by decide)
                  clear hd
                  replace hK : ∀ (v : Value) (W' : World), Ext W W' → (v = .pointer (some ⟨tk2, key, none⟩)) → _ := hK
                  simp only [mkOf, List.map_cons, List.map_nil, Act.put, List.setIfInBounds_toArray, List.set_cons_succ, List.set_cons_zero, Nat.reduceAdd, Nat.zero_add] at hK ⊢
                  simp only [d179, d180, d181] at hK ⊢
                  rw [if_pos (by kernel_rfl)]
                  have hkn := HKN.out
                  go_simp
                  exact hK _ _ (Ext.refl _) rfl
                | 14, _, ho =>
                  obtain rfl := Option.some.inj ho
                  intro s W hX hd K hK
                  have d179 : (s 10) = .bool true := hd 10 (by decide) (by decide)
                  have d182 : (s 13) = .pointer (some ⟨tk2, key, none⟩) := hd 13 (by decide) (by decide)
                  clear hd
                  replace hK : ∀ (v : Value) (W' : World), Ext W W' → (v = .bool true) → _ := hK
                  simp only [mkOf, List.map_cons, List.map_nil, Act.put, List.setIfInBounds_toArray, List.set_cons_succ, List.set_cons_zero, Nat.reduceAdd, Nat.zero_add] at hK ⊢
                  simp only [d179, d182] at hK ⊢
                  rw [if_pos (by kernel_rfl)]
                  have c183 := HBIT.out W hX
                  go_simp
                  exact hK _ _ (Ext.refl _) rfl
                | 15, _, ho =>
                  obtain rfl := Option.some.inj ho
                  intro s W hX hd K hK
                  have d174 : (s 5) = .bool false := hd 5 (by decide) (by decide)
                  have d179 : (s 10) = .bool true := hd 10 (by decide) (by decide)
                  have d183 : (s 14) = .bool true := hd 14 (by decide) (by decide)
                  clear hd
                  replace hK : ∀ (v : Value) (W' : World), Ext W W' → (v = .bool true) → _ := hK
                  simp only [mkOf, List.map_cons, List.map_nil, Act.put, List.setIfInBounds_toArray, List.set_cons_succ, List.set_cons_zero, Nat.reduceAdd, Nat.zero_add] at hK ⊢
                  simp only [d174, d179, d183] at hK ⊢
                  rw [if_pos (by kernel_rfl)]
                  go_simp
                  exact hK _ _ (Ext.refl _) rfl
                | 16, _, ho =>
                  obtain rfl := Option.some.inj ho
                  intro s W hX hd K hK
                  have d174 : (s 5) = .bool false := hd 5 (by decide) (by decide)
                  have d177 : (s 8) = .bool true := hd 8 (by decide) (by decide)
                  have d184 : (s 15) = .bool true := hd 15 (by decide) (by decide)
                  clear hd
                  replace hK : ∀ (v : Value) (W' : World), Ext W W' → (v = .bool false) → _ := hK
                  simp only [mkOf, List.map_cons, List.map_nil, Act.put, List.setIfInBounds_toArray, List.set_cons_succ, List.set_cons_zero, Nat.reduceAdd, Nat.zero_add] at hK ⊢
                  simp only [d174, d177, d184] at hK ⊢
                  rw [if_pos (by kernel_rfl)]
                  go_simp
                  exact hK _ _ (Ext.refl _) rfl
                | 17, _, ho =>
                  obtain rfl := Option.some.inj ho
                  intro s W hX hd K hK
                  rw [if_pos (wanted_plain rfl)]
                  have d174 : (s 5) = .bool false := hd 5 (by decide) (by decide)
                  have d185 : (s 16) = .bool false := hd 16 (by decide) (by decide)
                  clear hd
                  replace hK : ∀ (v : Value) (W' : World), Ext W W' → (v = .bool false) → _ := hK
                  simp only [mkOf, List.map_cons, List.map_nil, Act.put, List.setIfInBounds_toArray, List.set_cons_succ, List.set_cons_zero, Nat.reduceAdd, Nat.zero_add] at hK ⊢
                  simp only [d174, d185] at hK ⊢
                  go_simp
                  exact hK _ _ (Ext.refl _) rfl
                | i + 18, hi, _ => exact absurd hi (by simp)
              · intro s W hX hd
                have d169 : (s 0) = .agg ZA.toArray := hd 0 (by decide)
                have d170 : ∃ (M' : List Value) (L U : Nat), (s 1) = .agg M'.toArray ∧ SigK L U W M' (List.replicate 1024 0) 0 [] := hd 1 (by decide)
                have d171 : (s 2) = .agg ZB.toArray := hd 2 (by decide)
                have d172 : (s 3) = .bool true := hd 3 (by decide)
                have d173 : (s 4) = .bool false := hd 4 (by decide)
                have d174 : (s 5) = .bool false := hd 5 (by decide)
                have d175 : (s 6) = .pointer (some ⟨g, 0, none⟩) := hd 6 (by decide)
                have d176 : (s 7) = .int .u32 (key : Int) := hd 7 (by decide)
                have d177 : (s 8) = .bool true := hd 8 (by decide)
                have d178 : (s 9) = .bool true := hd 9 (by decide)
                have d179 : (s 10) = .bool true := hd 10 (by decide)
                have d180 : (s 11) = .slice (some ⟨tk2, 0, none⟩) N N := hd 11 (by decide)
                have d181 : (s 12) = .int .u32 (key : Int) := hd 12 (by decide)
                have d182 : (s 13) = .pointer (some ⟨tk2, key, none⟩) := hd 13 (by decide)
                have d183 : (s 14) = .bool true := hd 14 (by decide)
                have d184 : (s 15) = .bool true := hd 15 (by decide)
                have d185 : (s 16) = .bool false := hd 16 (by decide)
                have d186 : (s 17) = .bool false := hd 17 (by decide)
                clear hd
                simp only [mkOf, List.map_cons, List.map_nil, Act.put, List.setIfInBounds_toArray, List.set_cons_succ, List.set_cons_zero, Nat.reduceAdd, Nat.zero_add]
                (try simp only [Exit.inBlock, Exit.then])
                have hI9 := HI7.out.far hX (by simp)
                have HI9 := Lib.hid hI9
                simp only [d169, d171, d172, d173, d174, d175, d176, d177, d178, d179, d184, d185, d186, d180, d181, d182, d183]
                clear hI9 hX d169 d170 d171 d172 d173 d174 d175 d176 d177 d178 d179 d184 d185 d186 d180 d181 d182 d183
                go_wp2_with fail
                go_roundw
                case rel => exact ⟨k + 1, tk, by omega, by go_num, HI9.out⟩
                case measure => simp [intOf]; omega
          · have hkn : ¬ (key : Int) < (N : Int) := by have := HPOW.out; omega
            clear hq3
            go_wp2_with (first
              | ((with_reducible refine wpDst 19 rfl ?_); refine wpList_alloc _ rfl 39 rfl _ hza ?_)
              | ((with_reducible refine wpDst 104 rfl ?_); refine wpList_bin2 rfl .rem 5 (.tmp 103) _ rfl (.int .u8 (q : Int)) (.int .u8 3) rfl rfl rfl (HREM.out _ _ _) ?_)
              | ((with_reducible refine wpDst 113 rfl ?_); refine wpList_load_agg _ rfl 31 (.tmp 9) rfl _ rfl DC _ Try.underlying31 rfl (szElTo05 HDL.out) (by exact HIB.out.dg.cells) ?_)
              | fail)
            have hcall := Ring_Sign_arg HIB.out.ring key hkey hin d
            rw [HDCE.out, HZAE.out] at hcall
            refine hcall.mono ?_
            rintro e w1 ⟨rfl, hg1⟩
            have hI1 := HIB.out.far hg1 (by simp)
            have hb19 := HB19.out.keep hg1 (by simp)
            have hwz : wr.heap.size + 1 ≤ w1.heap.size := by have := hg1.size; simpa using this
            have hs1 : SigK (wr.heap.size + 1) w1.heap.size w1 ZA (List.replicate 1024 0) 0 [] := by rw [← HZAE.out]; exact SigK.nil _
            have hss : List.length (α := UInt8) (List.replicate 1024 0) = 1024 := List.length_replicate
            have hwn : List.length (α := Dg) [] ≤ 8 := Nat.zero_le 8
            have hm1l : ZA.length = 1026 := hs1.len hss
            have hm1o : ∀ u ∈ ZA, u.oneCell' = true := hs1.one
            have hrow : w1.grownBy (w1.setRow wr.heap.size ZA.toArray) (some wr.heap.size) := setRow_only _
            have hI2 := hI1.far hrow (by rintro b ⟨⟩; exact HI.out.size)
            have hb19b : Blk (w1.setRow wr.heap.size ZA.toArray) wr.heap.size 39 ZA := setRow_at hb19
            have hs2 := hs1.keep hrow (by rintro b ⟨⟩; exact .inl (by omega))
            have hz2 : (w1.setRow wr.heap.size ZA.toArray).heap.size = w1.heap.size := by simp [World.setRow]
            have hI3 := hI2
            have hb19c := hb19b
            have hs3 := hs2
            have hz3 := hz2
            have hal : Ext (w1.setRow wr.heap.size ZA.toArray) ((w1.setRow wr.heap.size ZA.toArray).alloc (.cells ZB.toArray 30)) := (Ext.refl _).alloc _
            have hI4 := hI3.far hal (by simp)
            have hb19d := hb19c.keep hal (by simp)
            have hs4 := hs3.ext hal
            have hb22 : Blk ((w1.setRow wr.heap.size ZA.toArray).alloc (.cells ZB.toArray 30)) w1.heap.size 30 ZB := by have h := Blk.new (w1.setRow wr.heap.size ZA.toArray) 30 ZB; rw [hz3] at h; exact h
            have ckq : ((w1.setRow wr.heap.size ZA.toArray).alloc (.cells ZB.toArray 30)).cell? (adq.add k) = some (.int .u8 (q : Int)) := HKQ.out _ hI4.ext
            have hz4 : ((w1.setRow wr.heap.size ZA.toArray).alloc (.cells ZB.toArray 30)).heap.size = w1.heap.size + 1 := by rw [World.size_alloc, hz3]
            have HI1 := Lib.hid hI1
            have HI4 := Lib.hid hI4
            have HB19D := Lib.hid hb19d
            have HS4 := Lib.hid hs4
            have HB22 := Lib.hid hb22
            have HM1L := Lib.hid hm1l
            have HSSL := Lib.hid hss
            have HWWN := Lib.hid hwn
            have HB19A := Lib.hid hb19
            have HZ4 := Lib.hid hz4
            have HWZ := Lib.hid hwz
            have HZ3 := Lib.hid hz3
            clear hI1 hI2 hI3 hI4 hb19 hb19b hb19c hb19d hs1 hs2 hs3 hs4 hb22 hm1l hss hwn hal hz2 hz3 hz4 hwz hg1 hrow
            go_wp2_with (first
              | ((with_reducible refine wpSto 19 115 rfl ?_); go_must (refine wpList_store_row _ rfl 39 (.tmp 19) (.tmp 115) rfl wr.heap.size (by simp [Act.put, Act.eval]) ZA ZA 39 (by simp [Act.put, Act.eval]) (by exact HB19A.out) (szOutTo05 HM1L.out) (by first | rfl | rw [HM1L.out, HZA.out]) hm1o ?_))
              | ((with_reducible refine wpDst 151 rfl ?_); refine wpList_build (.inl rfl) 30 #[] rfl (.agg ZB.toArray) (exec_build0 _ _ rfl HBU.out) ?_)
              | ((with_reducible refine wpDst 22 rfl ?_); refine wpList_alloc _ rfl 30 rfl _ hzb ?_)
              | ((with_reducible refine wpSto 22 151 rfl ?_); go_must (refine wpList_storeN rfl 30 (.tmp 22) (.tmp 151) rfl (w1.setRow wr.heap.size ZA.toArray) (by simp [Act.put, Act.eval]) ZB ZB 30 rfl (by simp [Act.put, Act.eval]) (szOutFrom05 HZB.out) rfl hzbo ?_))
              | fail)
            have HM2L : Hid (ZB.length = 1026) := HZB
            have ht2 : SigK (w1.heap.size + 1) ((w1.setRow wr.heap.size ZA.toArray).alloc (.cells ZB.toArray 30)).heap.size ((w1.setRow wr.heap.size ZA.toArray).alloc (.cells ZB.toArray 30)) ZB (List.replicate 1024 0) 0 [] := by rw [← HZBE.out]; exact SigK.nil _
            have HT2 := Lib.hid ht2
            have HI6 := HI4
            have H22A := HB22
            have H19A := HB19D
            have HS6 := HS4
            clear ht2
            generalize ((w1.setRow wr.heap.size ZA.toArray).alloc (.cells ZB.toArray 30)) = wz at *
            have hxd : Ext wz wz.drew := (Ext.refl wz).drew
            have HI7 := Lib.hid (HI6.out.far hxd (by simp))
            have H22 := Lib.hid (H22A.out.keep hxd (by simp))
            have H19 := Lib.hid (H19A.out.keep hxd (by simp))
            have HS1 := Lib.hid (HS6.out.ext hxd)
            have HS2 := Lib.hid (HT2.out.ext hxd)
            try simp only [World.size_setCell, World.size_alloc]
            have htk : takenM tk key = false := taken_out HI.out.ring hin
            have HTAKEN : Hid (∀ W, Ext wz.drew W → Calls Try.prog 20 #[.pointer (some ⟨g, 0, none⟩), .int .u32 (key : Int)] W fun e w' => e = .returned (.bool false) ∧ Ext W w') := Lib.hid fun W hx => by rw [← htk]; exact Ring_Taken (HI7.out.ring.ext hx) key hkey
            clear htk hxd
            refine stab_plain Ext ext_refl ext_trans [[0], [0, 1], [2], [0, 1, 2, 3], [0, 1, 2, 3, 4], [0, 1, 2, 3, 4, 5], [0, 1, 2, 3, 4, 5, 6], [0, 1, 2, 3, 4, 5, 7], [0, 1, 2, 3, 4, 5, 6, 7, 8], [0, 1, 2, 3, 4, 5, 9], [0, 1, 2, 3, 4, 5, 6, 7, 8, 9, 10], [0, 1, 2, 3, 4, 5, 6, 7, 8, 9, 10, 11], [0, 1, 2, 3, 4, 5, 6, 7, 8, 9, 10, 12], [0, 1, 2, 3, 4, 5, 6, 7, 8, 9, 10, 11, 12, 13], [0, 1, 2, 3, 4, 5, 6, 7, 8, 9, 10, 11, 12, 13, 14], [0, 1, 2, 3, 4, 5, 6, 7, 8, 9, 10, 11, 12, 13, 14, 15], [0, 1, 2, 3, 4, 5, 6, 7, 8, 9, 10, 11, 12, 13, 14, 15, 16], [0, 1, 2, 3, 4, 5, 6, 7, 8, 9, 10, 11, 12, 13, 14, 15, 16, 17]] (fun i v wv => match i with | 0 => v = .agg ZA.toArray | 1 => ∃ (M' : List Value) (L U : Nat), v = .agg M'.toArray ∧ SigK L U wv M' (List.replicate 1024 0) 0 [] | 2 => v = .agg ZB.toArray | 3 => v = .bool true | 4 => v = .bool false | 5 => v = .bool false | 6 => v = .pointer (some ⟨g, 0, none⟩) | 7 => v = .int .u32 (key : Int) | 8 => v = .bool false | 9 => v = .bool false | 10 => v = .bool false | 15 => v = .bool false | 16 => v = .bool false | 17 => v = .bool false | _ => True) (by kernel_rfl) (by kernel_rfl) (by kernel_rfl) ?_ ?_ ?_
            · intro i v w1 w2 h hx
              match i, h with
              | 0, h => exact h
              | 1, h =>
                replace h : ∃ (M' : List Value) (L U : Nat), v = .agg M'.toArray ∧ SigK L U w1 M' (List.replicate 1024 0) 0 [] := h
                show ∃ (M' : List Value) (L U : Nat), v = .agg M'.toArray ∧ SigK L U w2 M' (List.replicate 1024 0) 0 []
                obtain ⟨M', L, U, h1, h2⟩ := h
                exact ⟨M', L, U, h1, h2.ext hx⟩
              | 2, h => exact h
              | 3, h => exact h
              | 4, h => exact h
              | 5, h => exact h
              | 6, h => exact h
              | 7, h => exact h
              | 8, h => exact h
              | 9, h => exact h
              | 10, h => exact h
              | 15, h => exact h
              | 16, h => exact h
              | 17, h => exact h
              | 11, h => trivial
              | 12, h => trivial
              | 13, h => trivial
              | 14, h => trivial
              | i + 18, h => trivial
            · intro i hi o ho
              match i, hi, ho with
              | 0, _, ho =>
                obtain rfl := Option.some.inj ho
                intro s W hX hd K hK
                rw [if_pos (wanted_plain rfl)]
                clear hd
                replace hK : ∀ (v : Value) (W' : World), Ext W W' → (v = .agg ZA.toArray) → _ := hK
                simp only [mkOf, List.map_cons, List.map_nil, Act.put, List.setIfInBounds_toArray, List.set_cons_succ, List.set_cons_zero, Nat.reduceAdd, Nat.zero_add] at hK ⊢
                refine wp_load_agg 39 (.tmp 19) rfl ⟨wr.heap.size, 0, none⟩ (by simp [Act.eval, World.setRow]) ZA _ Try.underlying39 rfl (szOutTo05 HM1L.out) (H19.out.keep hX (by simp)).cells ?_
                exact hK _ _ (Ext.refl _) rfl
              | 1, _, ho =>
                obtain rfl := Option.some.inj ho
                intro s W hX hd K hK
                rw [if_pos (wanted_plain rfl)]
                have d169 : (s 0) = .agg ZA.toArray := hd 0 (by decide) (by decide)
                clear hd
                replace hK : ∀ (v : Value) (W' : World), Ext W W' → (∃ (M' : List Value) (L U : Nat), v = .agg M'.toArray ∧ SigK L U W' M' (List.replicate 1024 0) 0 []) → _ := hK
                simp only [mkOf, List.map_cons, List.map_nil, Act.put, List.setIfInBounds_toArray, List.set_cons_succ, List.set_cons_zero, Nat.reduceAdd, Nat.zero_add] at hK ⊢
                simp only [d169] at hK ⊢
                go_simp
                refine ((HS1.out.ext hX).from_ HSSL.out HWWN.out).mono ?_
                rintro e w' ⟨M', rfl, hs, hx⟩
                exact hK _ _ hx ⟨M', _, _, rfl, hs⟩
              | 2, _, ho =>
                obtain rfl := Option.some.inj ho
                intro s W hX hd K hK
                rw [if_pos (wanted_plain rfl)]
                clear hd
                replace hK : ∀ (v : Value) (W' : World), Ext W W' → (v = .agg ZB.toArray) → _ := hK
                simp only [mkOf, List.map_cons, List.map_nil, Act.put, List.setIfInBounds_toArray, List.set_cons_succ, List.set_cons_zero, Nat.reduceAdd, Nat.zero_add] at hK ⊢
                refine wp_load_agg 30 (.tmp 22) rfl ⟨w1.heap.size, 0, none⟩ (by simp [Act.eval, World.setRow]) ZB _ Try.underlying30 rfl (szOutFrom05 HM2L.out) (H22.out.keep hX (by simp)).cells ?_
                exact hK _ _ (Ext.refl _) rfl
              | 3, _, ho =>
                obtain rfl := Option.some.inj ho
                intro s W hX hd K hK
                rw [if_pos (wanted_plain rfl)]
                have d170 : ∃ (M' : List Value) (L U : Nat), (s 1) = .agg M'.toArray ∧ SigK L U W M' (List.replicate 1024 0) 0 [] := hd 1 (by decide) (by decide)
                have d171 : (s 2) = .agg ZB.toArray := hd 2 (by decide) (by decide)
                clear hd
                replace hK : ∀ (v : Value) (W' : World), Ext W W' → (v = .bool true) → _ := hK
                simp only [mkOf, List.map_cons, List.map_nil, Act.put, List.setIfInBounds_toArray, List.set_cons_succ, List.set_cons_zero, Nat.reduceAdd, Nat.zero_add] at hK ⊢
                simp only [d171] at hK ⊢
                obtain ⟨M', L, U, h1, h2⟩ := d170
                simp only [h1] at hK ⊢
                go_simp
                refine (h2.same HSSL.out (HS2.out.ext hX)).mono ?_
                rintro e w' ⟨rfl, hx⟩
                exact hK _ _ hx rfl
              | 4, _, ho =>
                obtain rfl := Option.some.inj ho
                intro s W hX hd K hK
                rw [if_pos (wanted_plain rfl)]
                have d172 : (s 3) = .bool true := hd 3 (by decide) (by decide)
                clear hd
                replace hK : ∀ (v : Value) (W' : World), Ext W W' → (v = .bool false) → _ := hK
                simp only [mkOf, List.map_cons, List.map_nil, Act.put, List.setIfInBounds_toArray, List.set_cons_succ, List.set_cons_zero, Nat.reduceAdd, Nat.zero_add] at hK ⊢
                simp only [d172] at hK ⊢
                go_simp
                exact hK _ _ (Ext.refl _) rfl
              | 5, _, ho =>
                obtain rfl := Option.some.inj ho
                intro s W hX hd K hK
                rw [if_pos (wanted_plain rfl)]
                have d173 : (s 4) = .bool false := hd 4 (by decide) (by decide)
                clear hd
                replace hK : ∀ (v : Value) (W' : World), Ext W W' → (v = .bool false) → _ := hK
                simp only [mkOf, List.map_cons, List.map_nil, Act.put, List.setIfInBounds_toArray, List.set_cons_succ, List.set_cons_zero, Nat.reduceAdd, Nat.zero_add] at hK ⊢
                simp only [d173] at hK ⊢
                go_simp
                exact hK _ _ (Ext.refl _) rfl
              | 6, _, ho =>
                obtain rfl := Option.some.inj ho
                intro s W hX hd K hK
                have d174 : (s 5) = .bool false := hd 5 (by decide) (by decide)
                clear hd
                replace hK : ∀ (v : Value) (W' : World), Ext W W' → (v = .pointer (some ⟨g, 0, none⟩)) → _ := hK
                simp only [mkOf, List.map_cons, List.map_nil, Act.put, List.setIfInBounds_toArray, List.set_cons_succ, List.set_cons_zero, Nat.reduceAdd, Nat.zero_add] at hK ⊢
                simp only [d174] at hK ⊢
                rw [if_pos (by kernel_rfl)]
                go_simp
                exact hK _ _ (Ext.refl _) rfl
              | 7, _, ho =>
                obtain rfl := Option.some.inj ho
                intro s W hX hd K hK
                have d174 : (s 5) = .bool false := hd 5 (by decide) (by decide)
                clear hd
                replace hK : ∀ (v : Value) (W' : World), Ext W W' → (v = .int .u32 (key : Int)) → _ := hK
                simp only [mkOf, List.map_cons, List.map_nil, Act.put, List.setIfInBounds_toArray, List.set_cons_succ, List.set_cons_zero, Nat.reduceAdd, Nat.zero_add] at hK ⊢
                simp only [d174] at hK ⊢
                rw [if_pos (by kernel_rfl)]
                go_simp
                exact hK _ _ (Ext.refl _) rfl
              | 8, _, ho =>
                obtain rfl := Option.some.inj ho
                intro s W hX hd K hK
                have d174 : (s 5) = .bool false := hd 5 (by decide) (by decide)
                have d175 : (s 6) = .pointer (some ⟨g, 0, none⟩) := hd 6 (by decide) (by decide)
                have d176 : (s 7) = .int .u32 (key : Int) := hd 7 (by decide) (by decide)
                clear hd
                replace hK : ∀ (v : Value) (W' : World), Ext W W' → (v = .bool false) → _ := hK
                simp only [mkOf, List.map_cons, List.map_nil, Act.put, List.setIfInBounds_toArray, List.set_cons_succ, List.set_cons_zero, Nat.reduceAdd, Nat.zero_add] at hK ⊢
                simp only [d174, d175, d176] at hK ⊢
                rw [if_pos (by kernel_rfl)]
                go_simp
                refine (HTAKEN.out _ hX).mono ?_
                rintro e w' ⟨rfl, hx⟩
                exact hK _ _ hx rfl
              | 9, _, ho =>
                obtain rfl := Option.some.inj ho
                intro s W hX hd K hK
                have d174 : (s 5) = .bool false := hd 5 (by decide) (by decide)
                clear hd
                replace hK : ∀ (v : Value) (W' : World), Ext W W' → (v = .bool false) → _ := hK
                simp only [mkOf, List.map_cons, List.map_nil, Act.put, List.setIfInBounds_toArray, List.set_cons_succ, List.set_cons_zero, Nat.reduceAdd, Nat.zero_add] at hK ⊢
                simp only [d174] at hK ⊢
                rw [if_pos (by kernel_rfl)]
                go_simp
                exact hK _ _ (Ext.refl _) rfl
              | 10, _, ho =>
                obtain rfl := Option.some.inj ho
                intro s W hX hd K hK
                have d174 : (s 5) = .bool false := hd 5 (by decide) (by decide)
                have d178 : (s 9) = .bool false := hd 9 (by decide) (by decide)
                clear hd
                replace hK : ∀ (v : Value) (W' : World), Ext W W' → (v = .bool false) → _ := hK
                simp only [mkOf, List.map_cons, List.map_nil, Act.put, List.setIfInBounds_toArray, List.set_cons_succ, List.set_cons_zero, Nat.reduceAdd, Nat.zero_add] at hK ⊢
                simp only [d174, d178] at hK ⊢
                rw [if_pos (by kernel_rfl)]
                go_simp
                exact hK _ _ (Ext.refl _) rfl
              | 11, _, ho =>
                obtain rfl := Option.some.inj ho
                intro s W hX hd K hK
                have d179 : (s 10) = .bool false := hd 10 (by decide) (by decide)
                clear hd
                replace hK : ∀ (v : Value) (W' : World), Ext W W' → (True) → _ := hK
                simp only [mkOf, List.map_cons, List.map_nil, Act.put, List.setIfInBounds_toArray, List.set_cons_succ, List.set_cons_zero, Nat.reduceAdd, Nat.zero_add] at hK ⊢
                simp only [d179] at hK ⊢
                refine skippedG (by kernel_rfl) ?_
                exact hK _ _ (Ext.refl _) trivial
              | 12, _, ho =>
                obtain rfl := Option.some.inj ho
                intro s W hX hd K hK
                have d179 : (s 10) = .bool false := hd 10 (by decide) (by decide)
                clear hd
                replace hK : ∀ (v : Value) (W' : World), Ext W W' → (True) → _ := hK
                simp only [mkOf, List.map_cons, List.map_nil, Act.put, List.setIfInBounds_toArray, List.set_cons_succ, List.set_cons_zero, Nat.reduceAdd, Nat.zero_add] at hK ⊢
                simp only [d179] at hK ⊢
                refine skippedG (by kernel_rfl) ?_
                exact hK _ _ (Ext.refl _) trivial
              | 13, _, ho =>
                obtain rfl := Option.some.inj ho
                intro s W hX hd K hK
                have d179 : (s 10) = .bool false := hd 10 (by decide) (by decide)
                clear hd
                replace hK : ∀ (v : Value) (W' : World), Ext W W' → (True) → _ := hK
                simp only [mkOf, List.map_cons, List.map_nil, Act.put, List.setIfInBounds_toArray, List.set_cons_succ, List.set_cons_zero, Nat.reduceAdd, Nat.zero_add] at hK ⊢
                simp only [d179] at hK ⊢
                refine skippedG (by kernel_rfl) ?_
                exact hK _ _ (Ext.refl _) trivial
              | 14, _, ho =>
                obtain rfl := Option.some.inj ho
                intro s W hX hd K hK
                have d179 : (s 10) = .bool false := hd 10 (by decide) (by decide)
                clear hd
                replace hK : ∀ (v : Value) (W' : World), Ext W W' → (True) → _ := hK
                simp only [mkOf, List.map_cons, List.map_nil, Act.put, List.setIfInBounds_toArray, List.set_cons_succ, List.set_cons_zero, Nat.reduceAdd, Nat.zero_add] at hK ⊢
                simp only [d179] at hK ⊢
                refine skippedG (by kernel_rfl) ?_
                exact hK _ _ (Ext.refl _) trivial
              | 15, _, ho =>
                obtain rfl := Option.some.inj ho
                intro s W hX hd K hK
                have d174 : (s 5) = .bool false := hd 5 (by decide) (by decide)
                have d179 : (s 10) = .bool false := hd 10 (by decide) (by decide)
                clear hd
                replace hK : ∀ (v : Value) (W' : World), Ext W W' → (v = .bool false) → _ := hK
                simp only [mkOf, List.map_cons, List.map_nil, Act.put, List.setIfInBounds_toArray, List.set_cons_succ, List.set_cons_zero, Nat.reduceAdd, Nat.zero_add] at hK ⊢
                simp only [d174, d179] at hK ⊢
                rw [if_pos (by kernel_rfl)]
                go_simp
                exact hK _ _ (Ext.refl _) rfl
              | 16, _, ho =>
                obtain rfl := Option.some.inj ho
                intro s W hX hd K hK
                have d174 : (s 5) = .bool false := hd 5 (by decide) (by decide)
                have d177 : (s 8) = .bool false := hd 8 (by decide) (by decide)
                have d184 : (s 15) = .bool false := hd 15 (by decide) (by decide)
                clear hd
                replace hK : ∀ (v : Value) (W' : World), Ext W W' → (v = .bool false) → _ := hK
                simp only [mkOf, List.map_cons, List.map_nil, Act.put, List.setIfInBounds_toArray, List.set_cons_succ, List.set_cons_zero, Nat.reduceAdd, Nat.zero_add] at hK ⊢
                simp only [d174, d177, d184] at hK ⊢
                rw [if_pos (by kernel_rfl)]
                go_simp
                exact hK _ _ (Ext.refl _) rfl
              | 17, _, ho =>
                obtain rfl := Option.some.inj ho
                intro s W hX hd K hK
                rw [if_pos (wanted_plain rfl)]
                have d174 : (s 5) = .bool false := hd 5 (by decide) (by decide)
                have d185 : (s 16) = .bool false := hd 16 (by decide) (by decide)
                clear hd
                replace hK : ∀ (v : Value) (W' : World), Ext W W' → (v = .bool false) → _ := hK
                simp only [mkOf, List.map_cons, List.map_nil, Act.put, List.setIfInBounds_toArray, List.set_cons_succ, List.set_cons_zero, Nat.reduceAdd, Nat.zero_add] at hK ⊢
                simp only [d174, d185] at hK ⊢
                go_simp
                exact hK _ _ (Ext.refl _) rfl
              | i + 18, hi, _ => exact absurd hi (by simp)
            · intro s W hX hd
              have d169 : (s 0) = .agg ZA.toArray := hd 0 (by decide)
              have d170 : ∃ (M' : List Value) (L U : Nat), (s 1) = .agg M'.toArray ∧ SigK L U W M' (List.replicate 1024 0) 0 [] := hd 1 (by decide)
              have d171 : (s 2) = .agg ZB.toArray := hd 2 (by decide)
              have d172 : (s 3) = .bool true := hd 3 (by decide)
              have d173 : (s 4) = .bool false := hd 4 (by decide)
              have d174 : (s 5) = .bool false := hd 5 (by decide)
              have d175 : (s 6) = .pointer (some ⟨g, 0, none⟩) := hd 6 (by decide)
              have d176 : (s 7) = .int .u32 (key : Int) := hd 7 (by decide)
              have d177 : (s 8) = .bool false := hd 8 (by decide)
              have d178 : (s 9) = .bool false := hd 9 (by decide)
              have d179 : (s 10) = .bool false := hd 10 (by decide)
              have d184 : (s 15) = .bool false := hd 15 (by decide)
              have d185 : (s 16) = .bool false := hd 16 (by decide)
              have d186 : (s 17) = .bool false := hd 17 (by decide)
              clear hd
              simp only [mkOf, List.map_cons, List.map_nil, Act.put, List.setIfInBounds_toArray, List.set_cons_succ, List.set_cons_zero, Nat.reduceAdd, Nat.zero_add]
              (try simp only [Exit.inBlock, Exit.then])
              have hI9 := HI7.out.far hX (by simp)
              have HI9 := Lib.hid hI9
              simp only [d169, d171, d172, d173, d174, d175, d176, d177, d178, d179, d184, d185, d186]
              clear hI9 hX d169 d170 d171 d172 d173 d174 d175 d176 d177 d178 d179 d184 d185 d186
              go_wp2_with fail
              go_roundw
              case rel => exact ⟨k + 1, tk, by omega, by go_num, HI9.out⟩
              case measure => simp [intOf]; omega
        · have hrem : ∀ (P : Program) (t : TypeId) (W : World), (binOp .rem t (.int .u8 (q : Int)) (.int .u8 3)).run P W = .ok (.int .u8 1) W := fun P t W => by have h := hrem0 P t W; rw [hq3] at h; exact h
          have HREM := Lib.hid hrem
          clear hrem hrem0
          by_cases hin : key < 2 ^ n
          · have hkn : (key : Int) < (N : Int) := by have := HPOW.out; omega
            cases hT : takenM tk key with
            | false =>
              have HT := Lib.hid hT
              clear hT
              clear hq3
              go_wp2_with (first
                | ((with_reducible refine wpDst 19 rfl ?_); refine wpList_alloc _ rfl 39 rfl _ hza ?_)
                | ((with_reducible refine wpDst 104 rfl ?_); refine wpList_bin2 rfl .rem 5 (.tmp 103) _ rfl (.int .u8 (q : Int)) (.int .u8 3) rfl rfl rfl (HREM.out _ _ _) ?_)
                | ((with_reducible refine wpDst 129 rfl ?_); refine wpList_load_agg _ rfl 31 (.tmp 9) rfl _ rfl DC _ Try.underlying31 rfl (szElTo05 HDL.out) (by exact HIB.out.dg.cells) ?_)
                | fail)
              have hcall := Ring_Again_no HIB.out.ring key hkey hin HT.out d
              rw [HDCE.out, HZAE.out] at hcall
              refine hcall.mono ?_
              rintro e w1 ⟨rfl, hg1⟩
              have hI1 := HIB.out.far hg1 (by simp)
              have hb19 := HB19.out.keep hg1 (by simp)
              have hwz : wr.heap.size + 1 ≤ w1.heap.size := by have := hg1.size; simpa using this
              have hs1 : SigK (wr.heap.size + 1) w1.heap.size w1 ZA (List.replicate 1024 0) 0 [] := by rw [← HZAE.out]; exact SigK.nil _
              have hss : List.length (α := UInt8) (List.replicate 1024 0) = 1024 := List.length_replicate
              have hwn : List.length (α := Dg) [] ≤ 8 := Nat.zero_le 8
              have hm1l : ZA.length = 1026 := hs1.len hss
              have hm1o : ∀ u ∈ ZA, u.oneCell' = true := hs1.one
              have hrow : w1.grownBy (w1.setRow wr.heap.size ZA.toArray) (some wr.heap.size) := setRow_only _
              have hI2 := hI1.far hrow (by rintro b ⟨⟩; exact HI.out.size)
              have hb19b : Blk (w1.setRow wr.heap.size ZA.toArray) wr.heap.size 39 ZA := setRow_at hb19
              have hs2 := hs1.keep hrow (by rintro b ⟨⟩; exact .inl (by omega))
              have hz2 : (w1.setRow wr.heap.size ZA.toArray).heap.size = w1.heap.size := by simp [World.setRow]
              have ck2 : (w1.setRow wr.heap.size ZA.toArray).cell? ⟨tk2, key, none⟩ = some (.bool false) := by have h := hI2.bit (key := key) (by have := HI.out.ring.len; omega); rw [HT.out] at h; exact h
              have hI3 := hI2
              have hb19c := hb19b
              have hs3 := hs2
              have hz3 := hz2
              have hal : Ext (w1.setRow wr.heap.size ZA.toArray) ((w1.setRow wr.heap.size ZA.toArray).alloc (.cells ZB.toArray 30)) := (Ext.refl _).alloc _
              have hI4 := hI3.far hal (by simp)
              have hb19d := hb19c.keep hal (by simp)
              have hs4 := hs3.ext hal
              have hb22 : Blk ((w1.setRow wr.heap.size ZA.toArray).alloc (.cells ZB.toArray 30)) w1.heap.size 30 ZB := by have h := Blk.new (w1.setRow wr.heap.size ZA.toArray) 30 ZB; rw [hz3] at h; exact h
              have ckq : ((w1.setRow wr.heap.size ZA.toArray).alloc (.cells ZB.toArray 30)).cell? (adq.add k) = some (.int .u8 (q : Int)) := HKQ.out _ hI4.ext
              have hz4 : ((w1.setRow wr.heap.size ZA.toArray).alloc (.cells ZB.toArray 30)).heap.size = w1.heap.size + 1 := by rw [World.size_alloc, hz3]
              have HI1 := Lib.hid hI1
              have HI4 := Lib.hid hI4
              have HB19D := Lib.hid hb19d
              have HS4 := Lib.hid hs4
              have HB22 := Lib.hid hb22
              have HM1L := Lib.hid hm1l
              have HSSL := Lib.hid hss
              have HWWN := Lib.hid hwn
              have HB19A := Lib.hid hb19
              have HZ4 := Lib.hid hz4
              have HWZ := Lib.hid hwz
              have HZ3 := Lib.hid hz3
              clear hI1 hI2 hI3 hI4 hb19 hb19b hb19c hb19d hs1 hs2 hs3 hs4 hb22 hm1l hss hwn hal hz2 hz3 hz4 hwz hg1 hrow
              go_wp2_with (first
                | ((with_reducible refine wpSto 19 131 rfl ?_); go_must (refine wpList_store_row _ rfl 39 (.tmp 19) (.tmp 131) rfl wr.heap.size (by simp [Act.put, Act.eval]) ZA ZA 39 (by simp [Act.put, Act.eval]) (by exact HB19A.out) (szOutTo05 HM1L.out) (by first | rfl | rw [HM1L.out, HZA.out]) hm1o ?_))
                | ((with_reducible refine wpDst 151 rfl ?_); refine wpList_build (.inl rfl) 30 #[] rfl (.agg ZB.toArray) (exec_build0 _ _ rfl HBU.out) ?_)
                | ((with_reducible refine wpDst 22 rfl ?_); refine wpList_alloc _ rfl 30 rfl _ hzb ?_)
                | ((with_reducible refine wpSto 22 151 rfl ?_); go_must (refine wpList_storeN rfl 30 (.tmp 22) (.tmp 151) rfl (w1.setRow wr.heap.size ZA.toArray) (by simp [Act.put, Act.eval]) ZB ZB 30 rfl (by simp [Act.put, Act.eval]) (szOutFrom05 HZB.out) rfl hzbo ?_))
                | fail)
              have HM2L : Hid (ZB.length = 1026) := HZB
              have ht2 : SigK (w1.heap.size + 1) ((w1.setRow wr.heap.size ZA.toArray).alloc (.cells ZB.toArray 30)).heap.size ((w1.setRow wr.heap.size ZA.toArray).alloc (.cells ZB.toArray 30)) ZB (List.replicate 1024 0) 0 [] := by rw [← HZBE.out]; exact SigK.nil _
              have HT2 := Lib.hid ht2
              have HI6 := HI4
              have H22A := HB22
              have H19A := HB19D
              have HS6 := HS4
              clear ht2
              generalize ((w1.setRow wr.heap.size ZA.toArray).alloc (.cells ZB.toArray 30)) = wz at *
              have hxd : Ext wz wz.drew := (Ext.refl wz).drew
              have HI7 := Lib.hid (HI6.out.far hxd (by simp))
              have H22 := Lib.hid (H22A.out.keep hxd (by simp))
              have H19 := Lib.hid (H19A.out.keep hxd (by simp))
              have HS1 := Lib.hid (HS6.out.ext hxd)
              have HS2 := Lib.hid (HT2.out.ext hxd)
              try simp only [World.size_setCell, World.size_alloc]
              have htk : takenM tk key = false := HT.out
              have HTAKEN : Hid (∀ W, Ext wz.drew W → Calls Try.prog 20 #[.pointer (some ⟨g, 0, none⟩), .int .u32 (key : Int)] W fun e w' => e = .returned (.bool false) ∧ Ext W w') := Lib.hid fun W hx => by rw [← htk]; exact Ring_Taken (HI7.out.ring.ext hx) key hkey
              have HKN : Hid (key < N) := Lib.hid (by rw [HNE2.out]; exact hin)
              have HBIT : Hid (∀ W, Ext wz.drew W → W.cell? ⟨tk2, key, none⟩ = some (.bool false)) := Lib.hid fun W hx => by have h := (HI7.out.far hx (by simp)).bit (key := key) (by have := HI.out.ring.len; omega); rw [HT.out] at h; exact h
              clear htk hxd
              refine stab_plain Ext ext_refl ext_trans [[0], [0, 1], [2], [0, 1, 2, 3], [0, 1, 2, 3, 4], [0, 1, 2, 3, 4, 5], [0, 1, 2, 3, 4, 5, 6], [0, 1, 2, 3, 4, 5, 7], [0, 1, 2, 3, 4, 5, 6, 7, 8], [0, 1, 2, 3, 4, 5, 9], [0, 1, 2, 3, 4, 5, 6, 7, 8, 9, 10], [0, 1, 2, 3, 4, 5, 6, 7, 8, 9, 10, 11], [0, 1, 2, 3, 4, 5, 6, 7, 8, 9, 10, 12], [0, 1, 2, 3, 4, 5, 6, 7, 8, 9, 10, 11, 12, 13], [0, 1, 2, 3, 4, 5, 6, 7, 8, 9, 10, 11, 12, 13, 14], [0, 1, 2, 3, 4, 5, 6, 7, 8, 9, 10, 11, 12, 13, 14, 15], [0, 1, 2, 3, 4, 5, 6, 7, 8, 9, 10, 11, 12, 13, 14, 15, 16], [0, 1, 2, 3, 4, 5, 6, 7, 8, 9, 10, 11, 12, 13, 14, 15, 16, 17]] (fun i v wv => match i with | 0 => v = .agg ZA.toArray | 1 => ∃ (M' : List Value) (L U : Nat), v = .agg M'.toArray ∧ SigK L U wv M' (List.replicate 1024 0) 0 [] | 2 => v = .agg ZB.toArray | 3 => v = .bool true | 4 => v = .bool false | 5 => v = .bool false | 6 => v = .pointer (some ⟨g, 0, none⟩) | 7 => v = .int .u32 (key : Int) | 8 => v = .bool false | 9 => v = .bool true | 10 => v = .bool true | 11 => v = .slice (some ⟨tk2, 0, none⟩) N N | 12 => v = .int .u32 (key : Int) | 13 => v = .pointer (some ⟨tk2, key, none⟩) | 14 => v = .bool false | 15 => v = .bool false | 16 => v = .bool false | 17 => v = .bool false | _ => True) (by kernel_rfl) (by kernel_rfl) (by kernel_rfl) ?_ ?_ ?_
              · intro i v w1 w2 h hx
                match i, h with
                | 0, h => exact h
                | 1, h =>
                  replace h : ∃ (M' : List Value) (L U : Nat), v = .agg M'.toArray ∧ SigK L U w1 M' (List.replicate 1024 0) 0 [] := h
                  show ∃ (M' : List Value) (L U : Nat), v = .agg M'.toArray ∧ SigK L U w2 M' (List.replicate 1024 0) 0 []
                  obtain ⟨M', L, U, h1, h2⟩ := h
                  exact ⟨M', L, U, h1, h2.ext hx⟩
                | 2, h => exact h
                | 3, h => exact h
                | 4, h => exact h
                | 5, h => exact h
                | 6, h => exact h
                | 7, h => exact h
                | 8, h => exact h
                | 9, h => exact h
                | 10, h => exact h
                | 11, h => exact h
                | 12, h => exact h
                | 13, h => exact h
                | 14, h => exact h
                | 15, h => exact h
                | 16, h => exact h
                | 17, h => exact h
                | i + 18, h => trivial
              · intro i hi o ho
                match i, hi, ho with
                | 0, _, ho =>
                  obtain rfl := Option.some.inj ho
                  intro s W hX hd K hK
                  rw [if_pos (wanted_plain rfl)]
                  clear hd
                  replace hK : ∀ (v : Value) (W' : World), Ext W W' → (v = .agg ZA.toArray) → _ := hK
                  simp only [mkOf, List.map_cons, List.map_nil, Act.put, List.setIfInBounds_toArray, List.set_cons_succ, List.set_cons_zero, Nat.reduceAdd, Nat.zero_add] at hK ⊢
                  refine wp_load_agg 39 (.tmp 19) rfl ⟨wr.heap.size, 0, none⟩ (by simp [Act.eval, World.setRow]) ZA _ Try.underlying39 rfl (szOutTo05 HM1L.out) (H19.out.keep hX (by simp)).cells ?_
                  exact hK _ _ (Ext.refl _) rfl
                | 1, _, ho =>
                  obtain rfl := Option.some.inj ho
                  intro s W hX hd K hK
                  rw [if_pos (wanted_plain rfl)]
                  have d169 : (s 0) = .agg ZA.toArray := hd 0 (by decide) (by decide)
                  clear hd
                  replace hK : ∀ (v : Value) (W' : World), Ext W W' → (∃ (M' : List Value) (L U : Nat), v = .agg M'.toArray ∧ SigK L U W' M' (List.replicate 1024 0) 0 []) → _ := hK
                  simp only [mkOf, List.map_cons, List.map_nil, Act.put, List.setIfInBounds_toArray, List.set_cons_succ, List.set_cons_zero, Nat.reduceAdd, Nat.zero_add] at hK ⊢
                  simp only [d169] at hK ⊢
                  go_simp
                  refine ((HS1.out.ext hX).from_ HSSL.out HWWN.out).mono ?_
                  rintro e w' ⟨M', rfl, hs, hx⟩
                  exact hK _ _ hx ⟨M', _, _, rfl, hs⟩
                | 2, _, ho =>
                  obtain rfl := Option.some.inj ho
                  intro s W hX hd K hK
                  rw [if_pos (wanted_plain rfl)]
                  clear hd
                  replace hK : ∀ (v : Value) (W' : World), Ext W W' → (v = .agg ZB.toArray) → _ := hK
                  simp only [mkOf, List.map_cons, List.map_nil, Act.put, List.setIfInBounds_toArray, List.set_cons_succ, List.set_cons_zero, Nat.reduceAdd, Nat.zero_add] at hK ⊢
                  refine wp_load_agg 30 (.tmp 22) rfl ⟨w1.heap.size, 0, none⟩ (by simp [Act.eval, World.setRow]) ZB _ Try.underlying30 rfl (szOutFrom05 HM2L.out) (H22.out.keep hX (by simp)).cells ?_
                  exact hK _ _ (Ext.refl _) rfl
                | 3, _, ho =>
                  obtain rfl := Option.some.inj ho
                  intro s W hX hd K hK
                  rw [if_pos (wanted_plain rfl)]
                  have d170 : ∃ (M' : List Value) (L U : Nat), (s 1) = .agg M'.toArray ∧ SigK L U W M' (List.replicate 1024 0) 0 [] := hd 1 (by decide) (by decide)
                  have d171 : (s 2) = .agg ZB.toArray := hd 2 (by decide) (by decide)
                  clear hd
                  replace hK : ∀ (v : Value) (W' : World), Ext W W' → (v = .bool true) → _ := hK
                  simp only [mkOf, List.map_cons, List.map_nil, Act.put, List.setIfInBounds_toArray, List.set_cons_succ, List.set_cons_zero, Nat.reduceAdd, Nat.zero_add] at hK ⊢
                  simp only [d171] at hK ⊢
                  obtain ⟨M', L, U, h1, h2⟩ := d170
                  simp only [h1] at hK ⊢
                  go_simp
                  refine (h2.same HSSL.out (HS2.out.ext hX)).mono ?_
                  rintro e w' ⟨rfl, hx⟩
                  exact hK _ _ hx rfl
                | 4, _, ho =>
                  obtain rfl := Option.some.inj ho
                  intro s W hX hd K hK
                  rw [if_pos (wanted_plain rfl)]
                  have d172 : (s 3) = .bool true := hd 3 (by decide) (by decide)
                  clear hd
                  replace hK : ∀ (v : Value) (W' : World), Ext W W' → (v = .bool false) → _ := hK
                  simp only [mkOf, List.map_cons, List.map_nil, Act.put, List.setIfInBounds_toArray, List.set_cons_succ, List.set_cons_zero, Nat.reduceAdd, Nat.zero_add] at hK ⊢
                  simp only [d172] at hK ⊢
                  go_simp
                  exact hK _ _ (Ext.refl _) rfl
                | 5, _, ho =>
                  obtain rfl := Option.some.inj ho
                  intro s W hX hd K hK
                  rw [if_pos (wanted_plain rfl)]
                  have d173 : (s 4) = .bool false := hd 4 (by decide) (by decide)
                  clear hd
                  replace hK : ∀ (v : Value) (W' : World), Ext W W' → (v = .bool false) → _ := hK
                  simp only [mkOf, List.map_cons, List.map_nil, Act.put, List.setIfInBounds_toArray, List.set_cons_succ, List.set_cons_zero, Nat.reduceAdd, Nat.zero_add] at hK ⊢
                  simp only [d173] at hK ⊢
                  go_simp
                  exact hK _ _ (Ext.refl _) rfl
                | 6, _, ho =>
                  obtain rfl := Option.some.inj ho
                  intro s W hX hd K hK
                  have d174 : (s 5) = .bool false := hd 5 (by decide) (by decide)
                  clear hd
                  replace hK : ∀ (v : Value) (W' : World), Ext W W' → (v = .pointer (some ⟨g, 0, none⟩)) → _ := hK
                  simp only [mkOf, List.map_cons, List.map_nil, Act.put, List.setIfInBounds_toArray, List.set_cons_succ, List.set_cons_zero, Nat.reduceAdd, Nat.zero_add] at hK ⊢
                  simp only [d174] at hK ⊢
                  rw [if_pos (by kernel_rfl)]
                  go_simp
                  exact hK _ _ (Ext.refl _) rfl
                | 7, _, ho =>
                  obtain rfl := Option.some.inj ho
                  intro s W hX hd K hK
                  have d174 : (s 5) = .bool false := hd 5 (by decide) (by decide)
                  clear hd
                  replace hK : ∀ (v : Value) (W' : World), Ext W W' → (v = .int .u32 (key : Int)) → _ := hK
                  simp only [mkOf, List.map_cons, List.map_nil, Act.put, List.setIfInBounds_toArray, List.set_cons_succ, List.set_cons_zero, Nat.reduceAdd, Nat.zero_add] at hK ⊢
                  simp only [d174] at hK ⊢
                  rw [if_pos (by kernel_rfl)]
                  go_simp
                  exact hK _ _ (Ext.refl _) rfl
                | 8, _, ho =>
                  obtain rfl := Option.some.inj ho
                  intro s W hX hd K hK
                  have d174 : (s 5) = .bool false := hd 5 (by decide) (by decide)
                  have d175 : (s 6) = .pointer (some ⟨g, 0, none⟩) := hd 6 (by decide) (by decide)
                  have d176 : (s 7) = .int .u32 (key : Int) := hd 7 (by decide) (by decide)
                  clear hd
                  replace hK : ∀ (v : Value) (W' : World), Ext W W' → (v = .bool false) → _ := hK
                  simp only [mkOf, List.map_cons, List.map_nil, Act.put, List.setIfInBounds_toArray, List.set_cons_succ, List.set_cons_zero, Nat.reduceAdd, Nat.zero_add] at hK ⊢
                  simp only [d174, d175, d176] at hK ⊢
                  rw [if_pos (by kernel_rfl)]
                  go_simp
                  refine (HTAKEN.out _ hX).mono ?_
                  rintro e w' ⟨rfl, hx⟩
                  exact hK _ _ hx rfl
                | 9, _, ho =>
                  obtain rfl := Option.some.inj ho
                  intro s W hX hd K hK
                  have d174 : (s 5) = .bool false := hd 5 (by decide) (by decide)
                  clear hd
                  replace hK : ∀ (v : Value) (W' : World), Ext W W' → (v = .bool true) → _ := hK
                  simp only [mkOf, List.map_cons, List.map_nil, Act.put, List.setIfInBounds_toArray, List.set_cons_succ, List.set_cons_zero, Nat.reduceAdd, Nat.zero_add] at hK ⊢
                  simp only [d174] at hK ⊢
                  rw [if_pos (by kernel_rfl)]
                  go_simp
                  exact hK _ _ (Ext.refl _) rfl
                | 10, _, ho =>
                  obtain rfl := Option.some.inj ho
                  intro s W hX hd K hK
                  have d174 : (s 5) = .bool false := hd 5 (by decide) (by decide)
                  have d178 : (s 9) = .bool true := hd 9 (by decide) (by decide)
                  clear hd
                  replace hK : ∀ (v : Value) (W' : World), Ext W W' → (v = .bool true) → _ := hK
                  simp only [mkOf, List.map_cons, List.map_nil, Act.put, List.setIfInBounds_toArray, List.set_cons_succ, List.set_cons_zero, Nat.reduceAdd, Nat.zero_add] at hK ⊢
                  simp only [d174, d178] at hK ⊢
                  rw [if_pos (by kernel_rfl)]
                  go_simp
                  exact hK _ _ (Ext.refl _) rfl
                | 11, _, ho =>
                  obtain rfl := Option.some.inj ho
                  intro s W hX hd K hK
                  have d179 : (s 10) = .bool true := hd 10 (by decide) (by decide)
                  clear hd
                  replace hK : ∀ (v : Value) (W' : World), Ext W W' → (v = .slice (some ⟨tk2, 0, none⟩) N N) → _ := hK
                  simp only [mkOf, List.map_cons, List.map_nil, Act.put, List.setIfInBounds_toArray, List.set_cons_succ, List.set_cons_zero, Nat.reduceAdd, Nat.zero_add] at hK ⊢
                  simp only [d179] at hK ⊢
                  rw [if_pos (by kernel_rfl)]
                  go_simp
                  exact hK _ _ (Ext.refl _) rfl
                | 12, _, ho =>
                  obtain rfl := Option.some.inj ho
                  intro s W hX hd K hK
                  have d179 : (s 10) = .bool true := hd 10 (by decide) (by decide)
                  clear hd
                  replace hK : ∀ (v : Value) (W' : World), Ext W W' → (v = .int .u32 (key : Int)) → _ := hK
                  simp only [mkOf, List.map_cons, List.map_nil, Act.put, List.setIfInBounds_toArray, List.set_cons_succ, List.set_cons_zero, Nat.reduceAdd, Nat.zero_add] at hK ⊢
                  simp only [d179] at hK ⊢
                  rw [if_pos (by kernel_rfl)]
                  go_simp
                  exact hK _ _ (Ext.refl _) rfl
                | 13, _, ho =>
                  obtain rfl := Option.some.inj ho
                  intro s W hX hd K hK
                  have d179 : (s 10) = .bool true := hd 10 (by decide) (by decide)
                  have d180 : (s 11) = .slice (some ⟨tk2, 0, none⟩) N N := hd 11 (by decide) (by decide)
                  have d181 : (s 12) = .int .u32 (key : Int) := hd 12 (by decide) (by decide)
                  clear hd
                  replace hK : ∀ (v : Value) (W' : World), Ext W W' → (v = .pointer (some ⟨tk2, key, none⟩)) → _ := hK
                  simp only [mkOf, List.map_cons, List.map_nil, Act.put, List.setIfInBounds_toArray, List.set_cons_succ, List.set_cons_zero, Nat.reduceAdd, Nat.zero_add] at hK ⊢
                  simp only [d179, d180, d181] at hK ⊢
                  rw [if_pos (by kernel_rfl)]
                  have hkn := HKN.out
                  go_simp
                  exact hK _ _ (Ext.refl _) rfl
                | 14, _, ho =>
                  obtain rfl := Option.some.inj ho
                  intro s W hX hd K hK
                  have d179 : (s 10) = .bool true := hd 10 (by decide) (by decide)
                  have d182 : (s 13) = .pointer (some ⟨tk2, key, none⟩) := hd 13 (by decide) (by decide)
                  clear hd
                  replace hK : ∀ (v : Value) (W' : World), Ext W W' → (v = .bool false) → _ := hK
                  simp only [mkOf, List.map_cons, List.map_nil, Act.put, List.setIfInBounds_toArray, List.set_cons_succ, List.set_cons_zero, Nat.reduceAdd, Nat.zero_add] at hK ⊢
                  simp only [d179, d182] at hK ⊢
                  rw [if_pos (by kernel_rfl)]
                  have c183 := HBIT.out W hX
                  go_simp
                  exact hK _ _ (Ext.refl _) rfl
                | 15, _, ho =>
                  obtain rfl := Option.some.inj ho
                  intro s W hX hd K hK
                  have d174 : (s 5) = .bool false := hd 5 (by decide) (by decide)
                  have d179 : (s 10) = .bool true := hd 10 (by decide) (by decide)
                  have d183 : (s 14) = .bool false := hd 14 (by decide) (by decide)
                  clear hd
                  replace hK : ∀ (v : Value) (W' : World), Ext W W' → (v = .bool false) → _ := hK
                  simp only [mkOf, List.map_cons, List.map_nil, Act.put, List.setIfInBounds_toArray, List.set_cons_succ, List.set_cons_zero, Nat.reduceAdd, Nat.zero_add] at hK ⊢
                  simp only [d174, d179, d183] at hK ⊢
                  rw [if_pos (by kernel_rfl)]
                  go_simp
                  exact hK _ _ (Ext.refl _) rfl
                | 16, _, ho =>
                  obtain rfl := Option.some.inj ho
                  intro s W hX hd K hK
                  have d174 : (s 5) = .bool false := hd 5 (by decide) (by decide)
                  have d177 : (s 8) = .bool false := hd 8 (by decide) (by decide)
                  have d184 : (s 15) = .bool false := hd 15 (by decide) (by decide)
                  clear hd
                  replace hK : ∀ (v : Value) (W' : World), Ext W W' → (v = .bool false) → _ := hK
                  simp only [mkOf, List.map_cons, List.map_nil, Act.put, List.setIfInBounds_toArray, List.set_cons_succ, List.set_cons_zero, Nat.reduceAdd, Nat.zero_add] at hK ⊢
                  simp only [d174, d177, d184] at hK ⊢
                  rw [if_pos (by kernel_rfl)]
                  go_simp
                  exact hK _ _ (Ext.refl _) rfl
                | 17, _, ho =>
                  obtain rfl := Option.some.inj ho
                  intro s W hX hd K hK
                  rw [if_pos (wanted_plain rfl)]
                  have d174 : (s 5) = .bool false := hd 5 (by decide) (by decide)
                  have d185 : (s 16) = .bool false := hd 16 (by decide) (by decide)
                  clear hd
                  replace hK : ∀ (v : Value) (W' : World), Ext W W' → (v = .bool false) → _ := hK
                  simp only [mkOf, List.map_cons, List.map_nil, Act.put, List.setIfInBounds_toArray, List.set_cons_succ, List.set_cons_zero, Nat.reduceAdd, Nat.zero_add] at hK ⊢
                  simp only [d174, d185] at hK ⊢
                  go_simp
                  exact hK _ _ (Ext.refl _) rfl
                | i + 18, hi, _ => exact absurd hi (by simp)
              · intro s W hX hd
                have d169 : (s 0) = .agg ZA.toArray := hd 0 (by decide)
                have d170 : ∃ (M' : List Value) (L U : Nat), (s 1) = .agg M'.toArray ∧ SigK L U W M' (List.replicate 1024 0) 0 [] := hd 1 (by decide)
                have d171 : (s 2) = .agg ZB.toArray := hd 2 (by decide)
                have d172 : (s 3) = .bool true := hd 3 (by decide)
                have d173 : (s 4) = .bool false := hd 4 (by decide)
                have d174 : (s 5) = .bool false := hd 5 (by decide)
                have d175 : (s 6) = .pointer (some ⟨g, 0, none⟩) := hd 6 (by decide)
                have d176 : (s 7) = .int .u32 (key : Int) := hd 7 (by decide)
                have d177 : (s 8) = .bool false := hd 8 (by decide)
                have d178 : (s 9) = .bool true := hd 9 (by decide)
                have d179 : (s 10) = .bool true := hd 10 (by decide)
                have d180 : (s 11) = .slice (some ⟨tk2, 0, none⟩) N N := hd 11 (by decide)
                have d181 : (s 12) = .int .u32 (key : Int) := hd 12 (by decide)
                have d182 : (s 13) = .pointer (some ⟨tk2, key, none⟩) := hd 13 (by decide)
                have d183 : (s 14) = .bool false := hd 14 (by decide)
                have d184 : (s 15) = .bool false := hd 15 (by decide)
                have d185 : (s 16) = .bool false := hd 16 (by decide)
                have d186 : (s 17) = .bool false := hd 17 (by decide)
                clear hd
                simp only [mkOf, List.map_cons, List.map_nil, Act.put, List.setIfInBounds_toArray, List.set_cons_succ, List.set_cons_zero, Nat.reduceAdd, Nat.zero_add]
                (try simp only [Exit.inBlock, Exit.then])
                have hI9 := HI7.out.far hX (by simp)
                have HI9 := Lib.hid hI9
                simp only [d169, d171, d172, d173, d174, d175, d176, d177, d178, d179, d184, d185, d186, d180, d181, d182, d183]
                clear hI9 hX d169 d170 d171 d172 d173 d174 d175 d176 d177 d178 d179 d184 d185 d186 d180 d181 d182 d183
                go_wp2_with fail
                go_roundw
                case rel => exact ⟨k + 1, tk, by omega, by go_num, HI9.out⟩
                case measure => simp [intOf]; omega
            | true =>
              have HT := Lib.hid hT
              clear hT
              clear hq3
              go_wp2_with (first
                | ((with_reducible refine wpDst 19 rfl ?_); refine wpList_alloc _ rfl 39 rfl _ hza ?_)
                | ((with_reducible refine wpDst 104 rfl ?_); refine wpList_bin2 rfl .rem 5 (.tmp 103) _ rfl (.int .u8 (q : Int)) (.int .u8 3) rfl rfl rfl (HREM.out _ _ _) ?_)
                | ((with_reducible refine wpDst 129 rfl ?_); refine wpList_load_agg _ rfl 31 (.tmp 9) rfl _ rfl DC _ Try.underlying31 rfl (szElTo05 HDL.out) (by exact HIB.out.dg.cells) ?_)
                | fail)
              refine (HAGAIN.out key hkey hin tk _ HIB.out.ring HT.out).mono ?_
              rintro e w1 ⟨v1, rfl, ho1, hg1, hn1⟩
              have hI1 := HIB.out.far hg1 (by simp)
              have hb19 := HB19.out.keep hg1 (by simp)
              have hs1 : SigK (wr.heap.size + 1) w1.heap.size w1 (sigC (bv (signM seed key d)) key v1) (signM seed key d) key (wayM seed n key) := SigK.own ho1 (fun b hb => by have := hn1 b hb; simp at this; omega)
              have hwz : wr.heap.size + 1 ≤ w1.heap.size := by have := hg1.size; simpa using this
              obtain ⟨M1, hM1⟩ : ∃ M1, M1 = sigC (bv (signM seed key d)) key v1 := ⟨_, rfl⟩
              rw [← hM1] at hs1 ⊢
              have hss : List.length (α := UInt8) (signM seed key d) = 1024 := signM_length _ _ _
              have hwn : List.length (α := Dg) (wayM seed n key) ≤ 8 := by rw [wayM_length]; omega
              clear hM1 ho1 hn1
              have hm1l : M1.length = 1026 := hs1.len hss
              have hm1o : ∀ u ∈ M1, u.oneCell' = true := hs1.one
              have hrow : w1.grownBy (w1.setRow wr.heap.size M1.toArray) (some wr.heap.size) := setRow_only _
              have hI2 := hI1.far hrow (by rintro b ⟨⟩; exact HI.out.size)
              have hb19b : Blk (w1.setRow wr.heap.size M1.toArray) wr.heap.size 39 M1 := setRow_at hb19
              have hs2 := hs1.keep hrow (by rintro b ⟨⟩; exact .inl (by omega))
              have hz2 : (w1.setRow wr.heap.size M1.toArray).heap.size = w1.heap.size := by simp [World.setRow]
              have ck2 : (w1.setRow wr.heap.size M1.toArray).cell? ⟨tk2, key, none⟩ = some (.bool true) := by have h := hI2.bit (key := key) (by have := HI.out.ring.len; omega); rw [HT.out] at h; exact h
              have fk2 : (w1.setRow wr.heap.size M1.toArray).frozen? ⟨tk2, key, none⟩ = false := hI2.bools.free key
              have hst : (w1.setRow wr.heap.size M1.toArray).grownBy ((w1.setRow wr.heap.size M1.toArray).setCell ⟨tk2, key, none⟩ (.bool true)) (some tk2) := only_set key _
              have hI3 := hI2.set key
              have hb19c := hb19b.keep hst (by have := hI2.lt; have := HI.out.size; simp; omega)
              have hs3 := hs2.keep hst (by rintro b ⟨⟩; exact .inl (by have := hI2.lt; have := HI.out.size; omega))
              have hz3 : ((w1.setRow wr.heap.size M1.toArray).setCell ⟨tk2, key, none⟩ (.bool true)).heap.size = w1.heap.size := by simp [World.setRow]
              have hal : Ext ((w1.setRow wr.heap.size M1.toArray).setCell ⟨tk2, key, none⟩ (.bool true)) (((w1.setRow wr.heap.size M1.toArray).setCell ⟨tk2, key, none⟩ (.bool true)).alloc (.cells ZB.toArray 30)) := (Ext.refl _).alloc _
              have hI4 := hI3.far hal (by simp)
              have hb19d := hb19c.keep hal (by simp)
              have hs4 := hs3.ext hal
              have hb22 : Blk (((w1.setRow wr.heap.size M1.toArray).setCell ⟨tk2, key, none⟩ (.bool true)).alloc (.cells ZB.toArray 30)) w1.heap.size 30 ZB := by have h := Blk.new ((w1.setRow wr.heap.size M1.toArray).setCell ⟨tk2, key, none⟩ (.bool true)) 30 ZB; rw [hz3] at h; exact h
              have ckq : (((w1.setRow wr.heap.size M1.toArray).setCell ⟨tk2, key, none⟩ (.bool true)).alloc (.cells ZB.toArray 30)).cell? (adq.add k) = some (.int .u8 (q : Int)) := HKQ.out _ hI4.ext
              have hz4 : (((w1.setRow wr.heap.size M1.toArray).setCell ⟨tk2, key, none⟩ (.bool true)).alloc (.cells ZB.toArray 30)).heap.size = w1.heap.size + 1 := by rw [World.size_alloc, hz3]
              have HI1 := Lib.hid hI1
              have HI4 := Lib.hid hI4
              have HB19D := Lib.hid hb19d
              have HS4 := Lib.hid hs4
              have HB22 := Lib.hid hb22
              have HM1L := Lib.hid hm1l
              have HSSL := Lib.hid hss
              have HWWN := Lib.hid hwn
              have HB19A := Lib.hid hb19
              have HZ4 := Lib.hid hz4
              have HWZ := Lib.hid hwz
              have HZ3 := Lib.hid hz3
              clear hI1 hI2 hI3 hI4 hb19 hb19b hb19c hb19d hs1 hs2 hs3 hs4 hb22 hm1l hss hwn hal hz2 hz3 hz4 hwz hg1 hrow hst
              go_wp2_with (first
                | ((with_reducible refine wpSto 19 131 rfl ?_); go_must (refine wpList_store_row _ rfl 39 (.tmp 19) (.tmp 131) rfl wr.heap.size (by simp [Act.put, Act.eval]) ZA M1 39 (by simp [Act.put, Act.eval]) (by exact HB19A.out) (szOutTo05 HM1L.out) (by first | rfl | rw [HM1L.out, HZA.out]) hm1o ?_))
                | ((with_reducible refine wpDst 151 rfl ?_); refine wpList_build (.inl rfl) 30 #[] rfl (.agg ZB.toArray) (exec_build0 _ _ rfl HBU.out) ?_)
                | ((with_reducible refine wpDst 22 rfl ?_); refine wpList_alloc _ rfl 30 rfl _ hzb ?_)
                | ((with_reducible refine wpSto 22 151 rfl ?_); go_must (refine wpList_storeN rfl 30 (.tmp 22) (.tmp 151) rfl ((w1.setRow wr.heap.size M1.toArray).setCell ⟨tk2, key, none⟩ (.bool true)) (by simp [Act.put, Act.eval]) ZB ZB 30 rfl (by simp [Act.put, Act.eval]) (szOutFrom05 HZB.out) rfl hzbo ?_))
                | ((with_reducible refine wpDst 159 rfl ?_); go_must (refine wpList_bin2V (.inr (by kernel_rfl)) .rem 5 (.tmp 158) _ rfl (.int .u8 (q : Int)) (.int .u8 3) rfl rfl rfl (HREM.out _ _ _) ?_))
                | ((with_reducible refine wpDst 162 rfl ?_); refine wpList_load_agg _ rfl 44 (.tmp 13) rfl _ rfl TB _ Try.underlying44 rfl HTS.out (by exact HI4.out.tabs.cells) ?_)
                | ((with_reducible refine wpDst 163 rfl ?_); refine wpList_load_agg _ rfl 31 (.tmp 5) rfl _ rfl SC _ Try.underlying31 rfl (szElTo05 HSL.out) (by exact HI4.out.sd.cells) ?_)
                | ((with_reducible refine wpDst 167 rfl ?_); refine wpList_load_agg _ rfl 31 (.tmp 9) rfl _ rfl DC _ Try.underlying31 rfl (szElTo05 HDL.out) (by exact HI4.out.dg.cells) ?_)
                | fail)
              refine (HRSG.out key hin _ _ _ HI4.out.levs (fun b hb => by have h1 := HI4.out.ltF.2 b hb; have h2 := HI4.out.size; omega)).mono ?_
              rintro e w2 ⟨v2, rfl, ho2, hx2, hn2⟩
              have hI5 := HI4.out.far hx2 (by simp)
              have hb22b := HB22.out.keep hx2 (by simp)
              have hb19e := HB19D.out.keep hx2 (by simp)
              have hs5 := HS4.out.ext hx2
              have ht1 : SigK (w1.heap.size + 1) w2.heap.size w2 (sigC (bv (signM seed key d)) key v2) (signM seed key d) key (wayM seed n key) := SigK.own ho2 (fun b hb => by have h1 := hn2 b hb; have h2 := HZ4.out; omega)
              obtain ⟨M2, hM2⟩ : ∃ M2, M2 = sigC (bv (signM seed key d)) key v2 := ⟨_, rfl⟩
              rw [← hM2] at ht1 ⊢
              have hm2l : M2.length = 1026 := ht1.len HSSL.out
              have hm2o : ∀ u ∈ M2, u.oneCell' = true := ht1.one
              have hrow2 : w2.grownBy (w2.setRow w1.heap.size M2.toArray) (some w1.heap.size) := setRow_only _
              have hwzz := HWZ.out
              have hI6 := hI5.far hrow2 (by rintro b ⟨⟩; have := HI.out.size; omega)
              have hb22c : Blk (w2.setRow w1.heap.size M2.toArray) w1.heap.size 30 M2 := setRow_at hb22b
              have hb19f := hb19e.keep hrow2 (by simp; omega)
              have hs6 := hs5.keep hrow2 (by rintro b ⟨⟩; exact .inr (Nat.le_refl _))
              have ht2 := ht1.keep hrow2 (by rintro b ⟨⟩; exact .inl (by omega))
              have HI6 := Lib.hid hI6
              have H22A := Lib.hid hb22c
              have H19A := Lib.hid hb19f
              have HS6 := Lib.hid hs6
              have HT2 := Lib.hid ht2
              have HM2L := Lib.hid hm2l
              have HB22B := Lib.hid hb22b
              clear hI5 hb22b hb19e hs5 ht1 hM2 hm2l hrow2 hI6 hb22c hb19f hs6 ht2 ho2 hx2 hn2 hwzz
              go_wp2_with (first
                | ((with_reducible refine wpSto 22 168 rfl ?_); go_must (refine wpList_store_row _ rfl 30 (.tmp 22) (.tmp 168) rfl w1.heap.size (by simp [Act.put, Act.eval, World.setRow]) ZB M2 30 (by simp [Act.put, Act.eval]) (by exact HB22B.out) (szOutFrom05 HM2L.out) (by rw [HM2L.out, HZB.out]) hm2o ?_))
                | fail)
              generalize w2.setRow w1.heap.size M2.toArray = wz at *
              have hxd : Ext wz wz.drew := (Ext.refl wz).drew
              have HI7 := Lib.hid (HI6.out.far hxd (by simp))
              have H22 := Lib.hid (H22A.out.keep hxd (by simp))
              have H19 := Lib.hid (H19A.out.keep hxd (by simp))
              have HS1 := Lib.hid (HS6.out.ext hxd)
              have HS2 := Lib.hid (HT2.out.ext hxd)
              try simp only [World.size_setCell, World.size_alloc]
              have htk : takenM tk key = true := HT.out
              have HTAKEN : Hid (∀ W, Ext wz.drew W → Calls Try.prog 20 #[.pointer (some ⟨g, 0, none⟩), .int .u32 (key : Int)] W fun e w' => e = .returned (.bool true) ∧ Ext W w') := Lib.hid fun W hx => by rw [← htk]; exact Ring_Taken (HI7.out.ring.ext hx) key hkey
              have HKN : Hid (key < N) := Lib.hid (by rw [HNE2.out]; exact hin)
              have HBIT : Hid (∀ W, Ext wz.drew W → W.cell? ⟨tk2, key, none⟩ = some (.bool true)) := Lib.hid fun W hx => by have h := (HI7.out.far hx (by simp)).bit (key := key) (by have := HI.out.ring.len; simp; omega); rw [taken_set (by have := HI.out.ring.len; omega)] at h; exact h
              clear htk hxd
              refine stab_plain Ext ext_refl ext_trans [[0], [0, 1], [2], [0, 1, 2, 3], [0, 1, 2, 3, 4], [0, 1, 2, 3, 4, 5], [0, 1, 2, 3, 4, 5, 6], [0, 1, 2, 3, 4, 5, 7], [0, 1, 2, 3, 4, 5, 6, 7, 8], [0, 1, 2, 3, 4, 5, 9], [0, 1, 2, 3, 4, 5, 6, 7, 8, 9, 10], [0, 1, 2, 3, 4, 5, 6, 7, 8, 9, 10, 11], [0, 1, 2, 3, 4, 5, 6, 7, 8, 9, 10, 12], [0, 1, 2, 3, 4, 5, 6, 7, 8, 9, 10, 11, 12, 13], [0, 1, 2, 3, 4, 5, 6, 7, 8, 9, 10, 11, 12, 13, 14], [0, 1, 2, 3, 4, 5, 6, 7, 8, 9, 10, 11, 12, 13, 14, 15], [0, 1, 2, 3, 4, 5, 6, 7, 8, 9, 10, 11, 12, 13, 14, 15, 16], [0, 1, 2, 3, 4, 5, 6, 7, 8, 9, 10, 11, 12, 13, 14, 15, 16, 17]] (fun i v wv => match i with | 0 => v = .agg M1.toArray | 1 => ∃ (M' : List Value) (L U : Nat), v = .agg M'.toArray ∧ SigK L U wv M' (signM seed key d) key (wayM seed n key) | 2 => v = .agg M2.toArray | 3 => v = .bool true | 4 => v = .bool false | 5 => v = .bool false | 6 => v = .pointer (some ⟨g, 0, none⟩) | 7 => v = .int .u32 (key : Int) | 8 => v = .bool true | 9 => v = .bool true | 10 => v = .bool true | 11 => v = .slice (some ⟨tk2, 0, none⟩) N N | 12 => v = .int .u32 (key : Int) | 13 => v = .pointer (some ⟨tk2, key, none⟩) | 14 => v = .bool true | 15 => v = .bool true | 16 => v = .bool false | 17 => v = .bool false | _ => True) (by kernel_rfl) (by kernel_rfl) (by kernel_rfl) ?_ ?_ ?_
              · intro i v w1 w2 h hx
                match i, h with
                | 0, h => exact h
                | 1, h =>
                  replace h : ∃ (M' : List Value) (L U : Nat), v = .agg M'.toArray ∧ SigK L U w1 M' (signM seed key d) key (wayM seed n key) := h
                  show ∃ (M' : List Value) (L U : Nat), v = .agg M'.toArray ∧ SigK L U w2 M' (signM seed key d) key (wayM seed n key)
                  obtain ⟨M', L, U, h1, h2⟩ := h
                  exact ⟨M', L, U, h1, h2.ext hx⟩
                | 2, h => exact h
                | 3, h => exact h
                | 4, h => exact h
                | 5, h => exact h
                | 6, h => exact h
                | 7, h => exact h
                | 8, h => exact h
                | 9, h => exact h
                | 10, h => exact h
                | 11, h => exact h
                | 12, h => exact h
                | 13, h => exact h
                | 14, h => exact h
                | 15, h => exact h
                | 16, h => exact h
                | 17, h => exact h
                | i + 18, h => trivial
              · intro i hi o ho
                match i, hi, ho with
                | 0, _, ho =>
                  obtain rfl := Option.some.inj ho
                  intro s W hX hd K hK
                  rw [if_pos (wanted_plain rfl)]
                  clear hd
                  replace hK : ∀ (v : Value) (W' : World), Ext W W' → (v = .agg M1.toArray) → _ := hK
                  simp only [mkOf, List.map_cons, List.map_nil, Act.put, List.setIfInBounds_toArray, List.set_cons_succ, List.set_cons_zero, Nat.reduceAdd, Nat.zero_add] at hK ⊢
                  refine wp_load_agg 39 (.tmp 19) rfl ⟨wr.heap.size, 0, none⟩ (by simp [Act.eval, World.setRow]) M1 _ Try.underlying39 rfl (szOutTo05 HM1L.out) (H19.out.keep hX (by simp)).cells ?_
                  exact hK _ _ (Ext.refl _) rfl
                | 1, _, ho =>
                  obtain rfl := Option.some.inj ho
                  intro s W hX hd K hK
                  rw [if_pos (wanted_plain rfl)]
                  have d169 : (s 0) = .agg M1.toArray := hd 0 (by decide) (by decide)
                  clear hd
                  replace hK : ∀ (v : Value) (W' : World), Ext W W' → (∃ (M' : List Value) (L U : Nat), v = .agg M'.toArray ∧ SigK L U W' M' (signM seed key d) key (wayM seed n key)) → _ := hK
                  simp only [mkOf, List.map_cons, List.map_nil, Act.put, List.setIfInBounds_toArray, List.set_cons_succ, List.set_cons_zero, Nat.reduceAdd, Nat.zero_add] at hK ⊢
                  simp only [d169] at hK ⊢
                  go_simp
                  refine ((HS1.out.ext hX).from_ HSSL.out HWWN.out).mono ?_
                  rintro e w' ⟨M', rfl, hs, hx⟩
                  exact hK _ _ hx ⟨M', _, _, rfl, hs⟩
                | 2, _, ho =>
                  obtain rfl := Option.some.inj ho
                  intro s W hX hd K hK
                  rw [if_pos (wanted_plain rfl)]
                  clear hd
                  replace hK : ∀ (v : Value) (W' : World), Ext W W' → (v = .agg M2.toArray) → _ := hK
                  simp only [mkOf, List.map_cons, List.map_nil, Act.put, List.setIfInBounds_toArray, List.set_cons_succ, List.set_cons_zero, Nat.reduceAdd, Nat.zero_add] at hK ⊢
                  refine wp_load_agg 30 (.tmp 22) rfl ⟨w1.heap.size, 0, none⟩ (by simp [Act.eval, World.setRow]) M2 _ Try.underlying30 rfl (szOutFrom05 HM2L.out) (H22.out.keep hX (by simp)).cells ?_
                  exact hK _ _ (Ext.refl _) rfl
                | 3, _, ho =>
                  obtain rfl := Option.some.inj ho
                  intro s W hX hd K hK
                  rw [if_pos (wanted_plain rfl)]
                  have d170 : ∃ (M' : List Value) (L U : Nat), (s 1) = .agg M'.toArray ∧ SigK L U W M' (signM seed key d) key (wayM seed n key) := hd 1 (by decide) (by decide)
                  have d171 : (s 2) = .agg M2.toArray := hd 2 (by decide) (by decide)
                  clear hd
                  replace hK : ∀ (v : Value) (W' : World), Ext W W' → (v = .bool true) → _ := hK
                  simp only [mkOf, List.map_cons, List.map_nil, Act.put, List.setIfInBounds_toArray, List.set_cons_succ, List.set_cons_zero, Nat.reduceAdd, Nat.zero_add] at hK ⊢
                  simp only [d171] at hK ⊢
                  obtain ⟨M', L, U, h1, h2⟩ := d170
                  simp only [h1] at hK ⊢
                  go_simp
                  refine (h2.same HSSL.out (HS2.out.ext hX)).mono ?_
                  rintro e w' ⟨rfl, hx⟩
                  exact hK _ _ hx rfl
                | 4, _, ho =>
                  obtain rfl := Option.some.inj ho
                  intro s W hX hd K hK
                  rw [if_pos (wanted_plain rfl)]
                  have d172 : (s 3) = .bool true := hd 3 (by decide) (by decide)
                  clear hd
                  replace hK : ∀ (v : Value) (W' : World), Ext W W' → (v = .bool false) → _ := hK
                  simp only [mkOf, List.map_cons, List.map_nil, Act.put, List.setIfInBounds_toArray, List.set_cons_succ, List.set_cons_zero, Nat.reduceAdd, Nat.zero_add] at hK ⊢
                  simp only [d172] at hK ⊢
                  go_simp
                  exact hK _ _ (Ext.refl _) rfl
                | 5, _, ho =>
                  obtain rfl := Option.some.inj ho
                  intro s W hX hd K hK
                  rw [if_pos (wanted_plain rfl)]
                  have d173 : (s 4) = .bool false := hd 4 (by decide) (by decide)
                  clear hd
                  replace hK : ∀ (v : Value) (W' : World), Ext W W' → (v = .bool false) → _ := hK
                  simp only [mkOf, List.map_cons, List.map_nil, Act.put, List.setIfInBounds_toArray, List.set_cons_succ, List.set_cons_zero, Nat.reduceAdd, Nat.zero_add] at hK ⊢
                  simp only [d173] at hK ⊢
                  go_simp
                  exact hK _ _ (Ext.refl _) rfl
                | 6, _, ho =>
                  obtain rfl := Option.some.inj ho
                  intro s W hX hd K hK
                  have d174 : (s 5) = .bool false := hd 5 (by decide) (by decide)
                  clear hd
                  replace hK : ∀ (v : Value) (W' : World), Ext W W' → (v = .pointer (some ⟨g, 0, none⟩)) → _ := hK
                  simp only [mkOf, List.map_cons, List.map_nil, Act.put, List.setIfInBounds_toArray, List.set_cons_succ, List.set_cons_zero, Nat.reduceAdd, Nat.zero_add] at hK ⊢
                  simp only [d174] at hK ⊢
                  rw [if_pos (by kernel_rfl)]
                  go_simp
                  exact hK _ _ (Ext.refl _) rfl
                | 7, _, ho =>
                  obtain rfl := Option.some.inj ho
                  intro s W hX hd K hK
                  have d174 : (s 5) = .bool false := hd 5 (by decide) (by decide)
                  clear hd
                  replace hK : ∀ (v : Value) (W' : World), Ext W W' → (v = .int .u32 (key : Int)) → _ := hK
                  simp only [mkOf, List.map_cons, List.map_nil, Act.put, List.setIfInBounds_toArray, List.set_cons_succ, List.set_cons_zero, Nat.reduceAdd, Nat.zero_add] at hK ⊢
                  simp only [d174] at hK ⊢
                  rw [if_pos (by kernel_rfl)]
                  go_simp
                  exact hK _ _ (Ext.refl _) rfl
                | 8, _, ho =>
                  obtain rfl := Option.some.inj ho
                  intro s W hX hd K hK
                  have d174 : (s 5) = .bool false := hd 5 (by decide) (by decide)
                  have d175 : (s 6) = .pointer (some ⟨g, 0, none⟩) := hd 6 (by decide) (by decide)
                  have d176 : (s 7) = .int .u32 (key : Int) := hd 7 (by decide) (by decide)
                  clear hd
                  replace hK : ∀ (v : Value) (W' : World), Ext W W' → (v = .bool true) → _ := hK
                  simp only [mkOf, List.map_cons, List.map_nil, Act.put, List.setIfInBounds_toArray, List.set_cons_succ, List.set_cons_zero, Nat.reduceAdd, Nat.zero_add] at hK ⊢
                  simp only [d174, d175, d176] at hK ⊢
                  rw [if_pos (by kernel_rfl)]
                  go_simp
                  refine (HTAKEN.out _ hX).mono ?_
                  rintro e w' ⟨rfl, hx⟩
                  exact hK _ _ hx rfl
                | 9, _, ho =>
                  obtain rfl := Option.some.inj ho
                  intro s W hX hd K hK
                  have d174 : (s 5) = .bool false := hd 5 (by decide) (by decide)
                  clear hd
                  replace hK : ∀ (v : Value) (W' : World), Ext W W' → (v = .bool true) → _ := hK
                  simp only [mkOf, List.map_cons, List.map_nil, Act.put, List.setIfInBounds_toArray, List.set_cons_succ, List.set_cons_zero, Nat.reduceAdd, Nat.zero_add] at hK ⊢
                  simp only [d174] at hK ⊢
                  rw [if_pos (by kernel_rfl)]
                  go_simp
                  exact hK _ _ (Ext.refl _) rfl
                | 10, _, ho =>
                  obtain rfl := Option.some.inj ho
                  intro s W hX hd K hK
                  have d174 : (s 5) = .bool false := hd 5 (by decide) (by decide)
                  have d178 : (s 9) = .bool true := hd 9 (by decide) (by decide)
                  clear hd
                  replace hK : ∀ (v : Value) (W' : World), Ext W W' → (v = .bool true) → _ := hK
                  simp only [mkOf, List.map_cons, List.map_nil, Act.put, List.setIfInBounds_toArray, List.set_cons_succ, List.set_cons_zero, Nat.reduceAdd, Nat.zero_add] at hK ⊢
                  simp only [d174, d178] at hK ⊢
                  rw [if_pos (by kernel_rfl)]
                  go_simp
                  exact hK _ _ (Ext.refl _) rfl
                | 11, _, ho =>
                  obtain rfl := Option.some.inj ho
                  intro s W hX hd K hK
                  have d179 : (s 10) = .bool true := hd 10 (by decide) (by decide)
                  clear hd
                  replace hK : ∀ (v : Value) (W' : World), Ext W W' → (v = .slice (some ⟨tk2, 0, none⟩) N N) → _ := hK
                  simp only [mkOf, List.map_cons, List.map_nil, Act.put, List.setIfInBounds_toArray, List.set_cons_succ, List.set_cons_zero, Nat.reduceAdd, Nat.zero_add] at hK ⊢
                  simp only [d179] at hK ⊢
                  rw [if_pos (by kernel_rfl)]
                  go_simp
                  exact hK _ _ (Ext.refl _) rfl
                | 12, _, ho =>
                  obtain rfl := Option.some.inj ho
                  intro s W hX hd K hK
                  have d179 : (s 10) = .bool true := hd 10 (by decide) (by decide)
                  clear hd
                  replace hK : ∀ (v : Value) (W' : World), Ext W W' → (v = .int .u32 (key : Int)) → _ := hK
                  simp only [mkOf, List.map_cons, List.map_nil, Act.put, List.setIfInBounds_toArray, List.set_cons_succ, List.set_cons_zero, Nat.reduceAdd, Nat.zero_add] at hK ⊢
                  simp only [d179] at hK ⊢
                  rw [if_pos (by kernel_rfl)]
                  go_simp
                  exact hK _ _ (Ext.refl _) rfl
                | 13, _, ho =>
                  obtain rfl := Option.some.inj ho
                  intro s W hX hd K hK
                  have d179 : (s 10) = .bool true := hd 10 (by decide) (by decide)
                  have d180 : (s 11) = .slice (some ⟨tk2, 0, none⟩) N N := hd 11 (by decide) (by decide)
                  have d181 : (s 12) = .int .u32 (key : Int) := hd 12 (by decide) (by decide)
                  clear hd
                  replace hK : ∀ (v : Value) (W' : World), Ext W W' → (v = .pointer (some ⟨tk2, key, none⟩)) → _ := hK
                  simp only [mkOf, List.map_cons, List.map_nil, Act.put, List.setIfInBounds_toArray, List.set_cons_succ, List.set_cons_zero, Nat.reduceAdd, Nat.zero_add] at hK ⊢
                  simp only [d179, d180, d181] at hK ⊢
                  rw [if_pos (by kernel_rfl)]
                  have hkn := HKN.out
                  go_simp
                  exact hK _ _ (Ext.refl _) rfl
                | 14, _, ho =>
                  obtain rfl := Option.some.inj ho
                  intro s W hX hd K hK
                  have d179 : (s 10) = .bool true := hd 10 (by decide) (by decide)
                  have d182 : (s 13) = .pointer (some ⟨tk2, key, none⟩) := hd 13 (by decide) (by decide)
                  clear hd
                  replace hK : ∀ (v : Value) (W' : World), Ext W W' → (v = .bool true) → _ := hK
                  simp only [mkOf, List.map_cons, List.map_nil, Act.put, List.setIfInBounds_toArray, List.set_cons_succ, List.set_cons_zero, Nat.reduceAdd, Nat.zero_add] at hK ⊢
                  simp only [d179, d182] at hK ⊢
                  rw [if_pos (by kernel_rfl)]
                  have c183 := HBIT.out W hX
                  go_simp
                  exact hK _ _ (Ext.refl _) rfl
                | 15, _, ho =>
                  obtain rfl := Option.some.inj ho
                  intro s W hX hd K hK
                  have d174 : (s 5) = .bool false := hd 5 (by decide) (by decide)
                  have d179 : (s 10) = .bool true := hd 10 (by decide) (by decide)
                  have d183 : (s 14) = .bool true := hd 14 (by decide) (by decide)
                  clear hd
                  replace hK : ∀ (v : Value) (W' : World), Ext W W' → (v = .bool true) → _ := hK
                  simp only [mkOf, List.map_cons, List.map_nil, Act.put, List.setIfInBounds_toArray, List.set_cons_succ, List.set_cons_zero, Nat.reduceAdd, Nat.zero_add] at hK ⊢
                  simp only [d174, d179, d183] at hK ⊢
                  rw [if_pos (by kernel_rfl)]
                  go_simp
                  exact hK _ _ (Ext.refl _) rfl
                | 16, _, ho =>
                  obtain rfl := Option.some.inj ho
                  intro s W hX hd K hK
                  have d174 : (s 5) = .bool false := hd 5 (by decide) (by decide)
                  have d177 : (s 8) = .bool true := hd 8 (by decide) (by decide)
                  have d184 : (s 15) = .bool true := hd 15 (by decide) (by decide)
                  clear hd
                  replace hK : ∀ (v : Value) (W' : World), Ext W W' → (v = .bool false) → _ := hK
                  simp only [mkOf, List.map_cons, List.map_nil, Act.put, List.setIfInBounds_toArray, List.set_cons_succ, List.set_cons_zero, Nat.reduceAdd, Nat.zero_add] at hK ⊢
                  simp only [d174, d177, d184] at hK ⊢
                  rw [if_pos (by kernel_rfl)]
                  go_simp
                  exact hK _ _ (Ext.refl _) rfl
                | 17, _, ho =>
                  obtain rfl := Option.some.inj ho
                  intro s W hX hd K hK
                  rw [if_pos (wanted_plain rfl)]
                  have d174 : (s 5) = .bool false := hd 5 (by decide) (by decide)
                  have d185 : (s 16) = .bool false := hd 16 (by decide) (by decide)
                  clear hd
                  replace hK : ∀ (v : Value) (W' : World), Ext W W' → (v = .bool false) → _ := hK
                  simp only [mkOf, List.map_cons, List.map_nil, Act.put, List.setIfInBounds_toArray, List.set_cons_succ, List.set_cons_zero, Nat.reduceAdd, Nat.zero_add] at hK ⊢
                  simp only [d174, d185] at hK ⊢
                  go_simp
                  exact hK _ _ (Ext.refl _) rfl
                | i + 18, hi, _ => exact absurd hi (by simp)
              · intro s W hX hd
                have d169 : (s 0) = .agg M1.toArray := hd 0 (by decide)
                have d170 : ∃ (M' : List Value) (L U : Nat), (s 1) = .agg M'.toArray ∧ SigK L U W M' (signM seed key d) key (wayM seed n key) := hd 1 (by decide)
                have d171 : (s 2) = .agg M2.toArray := hd 2 (by decide)
                have d172 : (s 3) = .bool true := hd 3 (by decide)
                have d173 : (s 4) = .bool false := hd 4 (by decide)
                have d174 : (s 5) = .bool false := hd 5 (by decide)
                have d175 : (s 6) = .pointer (some ⟨g, 0, none⟩) := hd 6 (by decide)
                have d176 : (s 7) = .int .u32 (key : Int) := hd 7 (by decide)
                have d177 : (s 8) = .bool true := hd 8 (by decide)
                have d178 : (s 9) = .bool true := hd 9 (by decide)
                have d179 : (s 10) = .bool true := hd 10 (by decide)
                have d180 : (s 11) = .slice (some ⟨tk2, 0, none⟩) N N := hd 11 (by decide)
                have d181 : (s 12) = .int .u32 (key : Int) := hd 12 (by decide)
                have d182 : (s 13) = .pointer (some ⟨tk2, key, none⟩) := hd 13 (by decide)
                have d183 : (s 14) = .bool true := hd 14 (by decide)
                have d184 : (s 15) = .bool true := hd 15 (by decide)
                have d185 : (s 16) = .bool false := hd 16 (by decide)
                have d186 : (s 17) = .bool false := hd 17 (by decide)
                clear hd
                simp only [mkOf, List.map_cons, List.map_nil, Act.put, List.setIfInBounds_toArray, List.set_cons_succ, List.set_cons_zero, Nat.reduceAdd, Nat.zero_add]
                (try simp only [Exit.inBlock, Exit.then])
                have hI9 := HI7.out.far hX (by simp)
                rw [set_taken HT.out] at hI9
                have HI9 := Lib.hid hI9
                simp only [d169, d171, d172, d173, d174, d175, d176, d177, d178, d179, d184, d185, d186, d180, d181, d182, d183]
                clear hI9 hX d169 d170 d171 d172 d173 d174 d175 d176 d177 d178 d179 d184 d185 d186 d180 d181 d182 d183
                go_wp2_with fail
                go_roundw
                case rel => exact ⟨k + 1, tk, by omega, by go_num, HI9.out⟩
                case measure => simp [intOf]; omega
          · have hkn : ¬ (key : Int) < (N : Int) := by have := HPOW.out; omega
            clear hq3
            go_wp2_with (first
              | ((with_reducible refine wpDst 19 rfl ?_); refine wpList_alloc _ rfl 39 rfl _ hza ?_)
              | ((with_reducible refine wpDst 104 rfl ?_); refine wpList_bin2 rfl .rem 5 (.tmp 103) _ rfl (.int .u8 (q : Int)) (.int .u8 3) rfl rfl rfl (HREM.out _ _ _) ?_)
              | ((with_reducible refine wpDst 129 rfl ?_); refine wpList_load_agg _ rfl 31 (.tmp 9) rfl _ rfl DC _ Try.underlying31 rfl (szElTo05 HDL.out) (by exact HIB.out.dg.cells) ?_)
              | fail)
            have hcall := Ring_Again_arg HIB.out.ring key hkey hin d
            rw [HDCE.out, HZAE.out] at hcall
            refine hcall.mono ?_
            rintro e w1 ⟨rfl, hg1⟩
            have hI1 := HIB.out.far hg1 (by simp)
            have hb19 := HB19.out.keep hg1 (by simp)
            have hwz : wr.heap.size + 1 ≤ w1.heap.size := by have := hg1.size; simpa using this
            have hs1 : SigK (wr.heap.size + 1) w1.heap.size w1 ZA (List.replicate 1024 0) 0 [] := by rw [← HZAE.out]; exact SigK.nil _
            have hss : List.length (α := UInt8) (List.replicate 1024 0) = 1024 := List.length_replicate
            have hwn : List.length (α := Dg) [] ≤ 8 := Nat.zero_le 8
            have hm1l : ZA.length = 1026 := hs1.len hss
            have hm1o : ∀ u ∈ ZA, u.oneCell' = true := hs1.one
            have hrow : w1.grownBy (w1.setRow wr.heap.size ZA.toArray) (some wr.heap.size) := setRow_only _
            have hI2 := hI1.far hrow (by rintro b ⟨⟩; exact HI.out.size)
            have hb19b : Blk (w1.setRow wr.heap.size ZA.toArray) wr.heap.size 39 ZA := setRow_at hb19
            have hs2 := hs1.keep hrow (by rintro b ⟨⟩; exact .inl (by omega))
            have hz2 : (w1.setRow wr.heap.size ZA.toArray).heap.size = w1.heap.size := by simp [World.setRow]
            have hI3 := hI2
            have hb19c := hb19b
            have hs3 := hs2
            have hz3 := hz2
            have hal : Ext (w1.setRow wr.heap.size ZA.toArray) ((w1.setRow wr.heap.size ZA.toArray).alloc (.cells ZB.toArray 30)) := (Ext.refl _).alloc _
            have hI4 := hI3.far hal (by simp)
            have hb19d := hb19c.keep hal (by simp)
            have hs4 := hs3.ext hal
            have hb22 : Blk ((w1.setRow wr.heap.size ZA.toArray).alloc (.cells ZB.toArray 30)) w1.heap.size 30 ZB := by have h := Blk.new (w1.setRow wr.heap.size ZA.toArray) 30 ZB; rw [hz3] at h; exact h
            have ckq : ((w1.setRow wr.heap.size ZA.toArray).alloc (.cells ZB.toArray 30)).cell? (adq.add k) = some (.int .u8 (q : Int)) := HKQ.out _ hI4.ext
            have hz4 : ((w1.setRow wr.heap.size ZA.toArray).alloc (.cells ZB.toArray 30)).heap.size = w1.heap.size + 1 := by rw [World.size_alloc, hz3]
            have HI1 := Lib.hid hI1
            have HI4 := Lib.hid hI4
            have HB19D := Lib.hid hb19d
            have HS4 := Lib.hid hs4
            have HB22 := Lib.hid hb22
            have HM1L := Lib.hid hm1l
            have HSSL := Lib.hid hss
            have HWWN := Lib.hid hwn
            have HB19A := Lib.hid hb19
            have HZ4 := Lib.hid hz4
            have HWZ := Lib.hid hwz
            have HZ3 := Lib.hid hz3
            clear hI1 hI2 hI3 hI4 hb19 hb19b hb19c hb19d hs1 hs2 hs3 hs4 hb22 hm1l hss hwn hal hz2 hz3 hz4 hwz hg1 hrow
            go_wp2_with (first
              | ((with_reducible refine wpSto 19 131 rfl ?_); go_must (refine wpList_store_row _ rfl 39 (.tmp 19) (.tmp 131) rfl wr.heap.size (by simp [Act.put, Act.eval]) ZA ZA 39 (by simp [Act.put, Act.eval]) (by exact HB19A.out) (szOutTo05 HM1L.out) (by first | rfl | rw [HM1L.out, HZA.out]) hm1o ?_))
              | ((with_reducible refine wpDst 151 rfl ?_); refine wpList_build (.inl rfl) 30 #[] rfl (.agg ZB.toArray) (exec_build0 _ _ rfl HBU.out) ?_)
              | ((with_reducible refine wpDst 22 rfl ?_); refine wpList_alloc _ rfl 30 rfl _ hzb ?_)
              | ((with_reducible refine wpSto 22 151 rfl ?_); go_must (refine wpList_storeN rfl 30 (.tmp 22) (.tmp 151) rfl (w1.setRow wr.heap.size ZA.toArray) (by simp [Act.put, Act.eval]) ZB ZB 30 rfl (by simp [Act.put, Act.eval]) (szOutFrom05 HZB.out) rfl hzbo ?_))
              | fail)
            have HM2L : Hid (ZB.length = 1026) := HZB
            have ht2 : SigK (w1.heap.size + 1) ((w1.setRow wr.heap.size ZA.toArray).alloc (.cells ZB.toArray 30)).heap.size ((w1.setRow wr.heap.size ZA.toArray).alloc (.cells ZB.toArray 30)) ZB (List.replicate 1024 0) 0 [] := by rw [← HZBE.out]; exact SigK.nil _
            have HT2 := Lib.hid ht2
            have HI6 := HI4
            have H22A := HB22
            have H19A := HB19D
            have HS6 := HS4
            clear ht2
            generalize ((w1.setRow wr.heap.size ZA.toArray).alloc (.cells ZB.toArray 30)) = wz at *
            have hxd : Ext wz wz.drew := (Ext.refl wz).drew
            have HI7 := Lib.hid (HI6.out.far hxd (by simp))
            have H22 := Lib.hid (H22A.out.keep hxd (by simp))
            have H19 := Lib.hid (H19A.out.keep hxd (by simp))
            have HS1 := Lib.hid (HS6.out.ext hxd)
            have HS2 := Lib.hid (HT2.out.ext hxd)
            try simp only [World.size_setCell, World.size_alloc]
            have htk : takenM tk key = false := taken_out HI.out.ring hin
            have HTAKEN : Hid (∀ W, Ext wz.drew W → Calls Try.prog 20 #[.pointer (some ⟨g, 0, none⟩), .int .u32 (key : Int)] W fun e w' => e = .returned (.bool false) ∧ Ext W w') := Lib.hid fun W hx => by rw [← htk]; exact Ring_Taken (HI7.out.ring.ext hx) key hkey
            clear htk hxd
            refine stab_plain Ext ext_refl ext_trans [[0], [0, 1], [2], [0, 1, 2, 3], [0, 1, 2, 3, 4], [0, 1, 2, 3, 4, 5], [0, 1, 2, 3, 4, 5, 6], [0, 1, 2, 3, 4, 5, 7], [0, 1, 2, 3, 4, 5, 6, 7, 8], [0, 1, 2, 3, 4, 5, 9], [0, 1, 2, 3, 4, 5, 6, 7, 8, 9, 10], [0, 1, 2, 3, 4, 5, 6, 7, 8, 9, 10, 11], [0, 1, 2, 3, 4, 5, 6, 7, 8, 9, 10, 12], [0, 1, 2, 3, 4, 5, 6, 7, 8, 9, 10, 11, 12, 13], [0, 1, 2, 3, 4, 5, 6, 7, 8, 9, 10, 11, 12, 13, 14], [0, 1, 2, 3, 4, 5, 6, 7, 8, 9, 10, 11, 12, 13, 14, 15], [0, 1, 2, 3, 4, 5, 6, 7, 8, 9, 10, 11, 12, 13, 14, 15, 16], [0, 1, 2, 3, 4, 5, 6, 7, 8, 9, 10, 11, 12, 13, 14, 15, 16, 17]] (fun i v wv => match i with | 0 => v = .agg ZA.toArray | 1 => ∃ (M' : List Value) (L U : Nat), v = .agg M'.toArray ∧ SigK L U wv M' (List.replicate 1024 0) 0 [] | 2 => v = .agg ZB.toArray | 3 => v = .bool true | 4 => v = .bool false | 5 => v = .bool false | 6 => v = .pointer (some ⟨g, 0, none⟩) | 7 => v = .int .u32 (key : Int) | 8 => v = .bool false | 9 => v = .bool false | 10 => v = .bool false | 15 => v = .bool false | 16 => v = .bool false | 17 => v = .bool false | _ => True) (by kernel_rfl) (by kernel_rfl) (by kernel_rfl) ?_ ?_ ?_
            · intro i v w1 w2 h hx
              match i, h with
              | 0, h => exact h
              | 1, h =>
                replace h : ∃ (M' : List Value) (L U : Nat), v = .agg M'.toArray ∧ SigK L U w1 M' (List.replicate 1024 0) 0 [] := h
                show ∃ (M' : List Value) (L U : Nat), v = .agg M'.toArray ∧ SigK L U w2 M' (List.replicate 1024 0) 0 []
                obtain ⟨M', L, U, h1, h2⟩ := h
                exact ⟨M', L, U, h1, h2.ext hx⟩
              | 2, h => exact h
              | 3, h => exact h
              | 4, h => exact h
              | 5, h => exact h
              | 6, h => exact h
              | 7, h => exact h
              | 8, h => exact h
              | 9, h => exact h
              | 10, h => exact h
              | 15, h => exact h
              | 16, h => exact h
              | 17, h => exact h
              | 11, h => trivial
              | 12, h => trivial
              | 13, h => trivial
              | 14, h => trivial
              | i + 18, h => trivial
            · intro i hi o ho
              match i, hi, ho with
              | 0, _, ho =>
                obtain rfl := Option.some.inj ho
                intro s W hX hd K hK
                rw [if_pos (wanted_plain rfl)]
                clear hd
                replace hK : ∀ (v : Value) (W' : World), Ext W W' → (v = .agg ZA.toArray) → _ := hK
                simp only [mkOf, List.map_cons, List.map_nil, Act.put, List.setIfInBounds_toArray, List.set_cons_succ, List.set_cons_zero, Nat.reduceAdd, Nat.zero_add] at hK ⊢
                refine wp_load_agg 39 (.tmp 19) rfl ⟨wr.heap.size, 0, none⟩ (by simp [Act.eval, World.setRow]) ZA _ Try.underlying39 rfl (szOutTo05 HM1L.out) (H19.out.keep hX (by simp)).cells ?_
                exact hK _ _ (Ext.refl _) rfl
              | 1, _, ho =>
                obtain rfl := Option.some.inj ho
                intro s W hX hd K hK
                rw [if_pos (wanted_plain rfl)]
                have d169 : (s 0) = .agg ZA.toArray := hd 0 (by decide) (by decide)
                clear hd
                replace hK : ∀ (v : Value) (W' : World), Ext W W' → (∃ (M' : List Value) (L U : Nat), v = .agg M'.toArray ∧ SigK L U W' M' (List.replicate 1024 0) 0 []) → _ := hK
                simp only [mkOf, List.map_cons, List.map_nil, Act.put, List.setIfInBounds_toArray, List.set_cons_succ, List.set_cons_zero, Nat.reduceAdd, Nat.zero_add] at hK ⊢
                simp only [d169] at hK ⊢
                go_simp
                refine ((HS1.out.ext hX).from_ HSSL.out HWWN.out).mono ?_
                rintro e w' ⟨M', rfl, hs, hx⟩
                exact hK _ _ hx ⟨M', _, _, rfl, hs⟩
              | 2, _, ho =>
                obtain rfl := Option.some.inj ho
                intro s W hX hd K hK
                rw [if_pos (wanted_plain rfl)]
                clear hd
                replace hK : ∀ (v : Value) (W' : World), Ext W W' → (v = .agg ZB.toArray) → _ := hK
                simp only [mkOf, List.map_cons, List.map_nil, Act.put, List.setIfInBounds_toArray, List.set_cons_succ, List.set_cons_zero, Nat.reduceAdd, Nat.zero_add] at hK ⊢
                refine wp_load_agg 30 (.tmp 22) rfl ⟨w1.heap.size, 0, none⟩ (by simp [Act.eval, World.setRow]) ZB _ Try.underlying30 rfl (szOutFrom05 HM2L.out) (H22.out.keep hX (by simp)).cells ?_
                exact hK _ _ (Ext.refl _) rfl
              | 3, _, ho =>
                obtain rfl := Option.some.inj ho
                intro s W hX hd K hK
                rw [if_pos (wanted_plain rfl)]
                have d170 : ∃ (M' : List Value) (L U : Nat), (s 1) = .agg M'.toArray ∧ SigK L U W M' (List.replicate 1024 0) 0 [] := hd 1 (by decide) (by decide)
                have d171 : (s 2) = .agg ZB.toArray := hd 2 (by decide) (by decide)
                clear hd
                replace hK : ∀ (v : Value) (W' : World), Ext W W' → (v = .bool true) → _ := hK
                simp only [mkOf, List.map_cons, List.map_nil, Act.put, List.setIfInBounds_toArray, List.set_cons_succ, List.set_cons_zero, Nat.reduceAdd, Nat.zero_add] at hK ⊢
                simp only [d171] at hK ⊢
                obtain ⟨M', L, U, h1, h2⟩ := d170
                simp only [h1] at hK ⊢
                go_simp
                refine (h2.same HSSL.out (HS2.out.ext hX)).mono ?_
                rintro e w' ⟨rfl, hx⟩
                exact hK _ _ hx rfl
              | 4, _, ho =>
                obtain rfl := Option.some.inj ho
                intro s W hX hd K hK
                rw [if_pos (wanted_plain rfl)]
                have d172 : (s 3) = .bool true := hd 3 (by decide) (by decide)
                clear hd
                replace hK : ∀ (v : Value) (W' : World), Ext W W' → (v = .bool false) → _ := hK
                simp only [mkOf, List.map_cons, List.map_nil, Act.put, List.setIfInBounds_toArray, List.set_cons_succ, List.set_cons_zero, Nat.reduceAdd, Nat.zero_add] at hK ⊢
                simp only [d172] at hK ⊢
                go_simp
                exact hK _ _ (Ext.refl _) rfl
              | 5, _, ho =>
                obtain rfl := Option.some.inj ho
                intro s W hX hd K hK
                rw [if_pos (wanted_plain rfl)]
                have d173 : (s 4) = .bool false := hd 4 (by decide) (by decide)
                clear hd
                replace hK : ∀ (v : Value) (W' : World), Ext W W' → (v = .bool false) → _ := hK
                simp only [mkOf, List.map_cons, List.map_nil, Act.put, List.setIfInBounds_toArray, List.set_cons_succ, List.set_cons_zero, Nat.reduceAdd, Nat.zero_add] at hK ⊢
                simp only [d173] at hK ⊢
                go_simp
                exact hK _ _ (Ext.refl _) rfl
              | 6, _, ho =>
                obtain rfl := Option.some.inj ho
                intro s W hX hd K hK
                have d174 : (s 5) = .bool false := hd 5 (by decide) (by decide)
                clear hd
                replace hK : ∀ (v : Value) (W' : World), Ext W W' → (v = .pointer (some ⟨g, 0, none⟩)) → _ := hK
                simp only [mkOf, List.map_cons, List.map_nil, Act.put, List.setIfInBounds_toArray, List.set_cons_succ, List.set_cons_zero, Nat.reduceAdd, Nat.zero_add] at hK ⊢
                simp only [d174] at hK ⊢
                rw [if_pos (by kernel_rfl)]
                go_simp
                exact hK _ _ (Ext.refl _) rfl
              | 7, _, ho =>
                obtain rfl := Option.some.inj ho
                intro s W hX hd K hK
                have d174 : (s 5) = .bool false := hd 5 (by decide) (by decide)
                clear hd
                replace hK : ∀ (v : Value) (W' : World), Ext W W' → (v = .int .u32 (key : Int)) → _ := hK
                simp only [mkOf, List.map_cons, List.map_nil, Act.put, List.setIfInBounds_toArray, List.set_cons_succ, List.set_cons_zero, Nat.reduceAdd, Nat.zero_add] at hK ⊢
                simp only [d174] at hK ⊢
                rw [if_pos (by kernel_rfl)]
                go_simp
                exact hK _ _ (Ext.refl _) rfl
              | 8, _, ho =>
                obtain rfl := Option.some.inj ho
                intro s W hX hd K hK
                have d174 : (s 5) = .bool false := hd 5 (by decide) (by decide)
                have d175 : (s 6) = .pointer (some ⟨g, 0, none⟩) := hd 6 (by decide) (by decide)
                have d176 : (s 7) = .int .u32 (key : Int) := hd 7 (by decide) (by decide)
                clear hd
                replace hK : ∀ (v : Value) (W' : World), Ext W W' → (v = .bool false) → _ := hK
                simp only [mkOf, List.map_cons, List.map_nil, Act.put, List.setIfInBounds_toArray, List.set_cons_succ, List.set_cons_zero, Nat.reduceAdd, Nat.zero_add] at hK ⊢
                simp only [d174, d175, d176] at hK ⊢
                rw [if_pos (by kernel_rfl)]
                go_simp
                refine (HTAKEN.out _ hX).mono ?_
                rintro e w' ⟨rfl, hx⟩
                exact hK _ _ hx rfl
              | 9, _, ho =>
                obtain rfl := Option.some.inj ho
                intro s W hX hd K hK
                have d174 : (s 5) = .bool false := hd 5 (by decide) (by decide)
                clear hd
                replace hK : ∀ (v : Value) (W' : World), Ext W W' → (v = .bool false) → _ := hK
                simp only [mkOf, List.map_cons, List.map_nil, Act.put, List.setIfInBounds_toArray, List.set_cons_succ, List.set_cons_zero, Nat.reduceAdd, Nat.zero_add] at hK ⊢
                simp only [d174] at hK ⊢
                rw [if_pos (by kernel_rfl)]
                go_simp
                exact hK _ _ (Ext.refl _) rfl
              | 10, _, ho =>
                obtain rfl := Option.some.inj ho
                intro s W hX hd K hK
                have d174 : (s 5) = .bool false := hd 5 (by decide) (by decide)
                have d178 : (s 9) = .bool false := hd 9 (by decide) (by decide)
                clear hd
                replace hK : ∀ (v : Value) (W' : World), Ext W W' → (v = .bool false) → _ := hK
                simp only [mkOf, List.map_cons, List.map_nil, Act.put, List.setIfInBounds_toArray, List.set_cons_succ, List.set_cons_zero, Nat.reduceAdd, Nat.zero_add] at hK ⊢
                simp only [d174, d178] at hK ⊢
                rw [if_pos (by kernel_rfl)]
                go_simp
                exact hK _ _ (Ext.refl _) rfl
              | 11, _, ho =>
                obtain rfl := Option.some.inj ho
                intro s W hX hd K hK
                have d179 : (s 10) = .bool false := hd 10 (by decide) (by decide)
                clear hd
                replace hK : ∀ (v : Value) (W' : World), Ext W W' → (True) → _ := hK
                simp only [mkOf, List.map_cons, List.map_nil, Act.put, List.setIfInBounds_toArray, List.set_cons_succ, List.set_cons_zero, Nat.reduceAdd, Nat.zero_add] at hK ⊢
                simp only [d179] at hK ⊢
                refine skippedG (by kernel_rfl) ?_
                exact hK _ _ (Ext.refl _) trivial
              | 12, _, ho =>
                obtain rfl := Option.some.inj ho
                intro s W hX hd K hK
                have d179 : (s 10) = .bool false := hd 10 (by decide) (by decide)
                clear hd
                replace hK : ∀ (v : Value) (W' : World), Ext W W' → (True) → _ := hK
                simp only [mkOf, List.map_cons, List.map_nil, Act.put, List.setIfInBounds_toArray, List.set_cons_succ, List.set_cons_zero, Nat.reduceAdd, Nat.zero_add] at hK ⊢
                simp only [d179] at hK ⊢
                refine skippedG (by kernel_rfl) ?_
                exact hK _ _ (Ext.refl _) trivial
              | 13, _, ho =>
                obtain rfl := Option.some.inj ho
                intro s W hX hd K hK
                have d179 : (s 10) = .bool false := hd 10 (by decide) (by decide)
                clear hd
                replace hK : ∀ (v : Value) (W' : World), Ext W W' → (True) → _ := hK
                simp only [mkOf, List.map_cons, List.map_nil, Act.put, List.setIfInBounds_toArray, List.set_cons_succ, List.set_cons_zero, Nat.reduceAdd, Nat.zero_add] at hK ⊢
                simp only [d179] at hK ⊢
                refine skippedG (by kernel_rfl) ?_
                exact hK _ _ (Ext.refl _) trivial
              | 14, _, ho =>
                obtain rfl := Option.some.inj ho
                intro s W hX hd K hK
                have d179 : (s 10) = .bool false := hd 10 (by decide) (by decide)
                clear hd
                replace hK : ∀ (v : Value) (W' : World), Ext W W' → (True) → _ := hK
                simp only [mkOf, List.map_cons, List.map_nil, Act.put, List.setIfInBounds_toArray, List.set_cons_succ, List.set_cons_zero, Nat.reduceAdd, Nat.zero_add] at hK ⊢
                simp only [d179] at hK ⊢
                refine skippedG (by kernel_rfl) ?_
                exact hK _ _ (Ext.refl _) trivial
              | 15, _, ho =>
                obtain rfl := Option.some.inj ho
                intro s W hX hd K hK
                have d174 : (s 5) = .bool false := hd 5 (by decide) (by decide)
                have d179 : (s 10) = .bool false := hd 10 (by decide) (by decide)
                clear hd
                replace hK : ∀ (v : Value) (W' : World), Ext W W' → (v = .bool false) → _ := hK
                simp only [mkOf, List.map_cons, List.map_nil, Act.put, List.setIfInBounds_toArray, List.set_cons_succ, List.set_cons_zero, Nat.reduceAdd, Nat.zero_add] at hK ⊢
                simp only [d174, d179] at hK ⊢
                rw [if_pos (by kernel_rfl)]
                go_simp
                exact hK _ _ (Ext.refl _) rfl
              | 16, _, ho =>
                obtain rfl := Option.some.inj ho
                intro s W hX hd K hK
                have d174 : (s 5) = .bool false := hd 5 (by decide) (by decide)
                have d177 : (s 8) = .bool false := hd 8 (by decide) (by decide)
                have d184 : (s 15) = .bool false := hd 15 (by decide) (by decide)
                clear hd
                replace hK : ∀ (v : Value) (W' : World), Ext W W' → (v = .bool false) → _ := hK
                simp only [mkOf, List.map_cons, List.map_nil, Act.put, List.setIfInBounds_toArray, List.set_cons_succ, List.set_cons_zero, Nat.reduceAdd, Nat.zero_add] at hK ⊢
                simp only [d174, d177, d184] at hK ⊢
                rw [if_pos (by kernel_rfl)]
                go_simp
                exact hK _ _ (Ext.refl _) rfl
              | 17, _, ho =>
                obtain rfl := Option.some.inj ho
                intro s W hX hd K hK
                rw [if_pos (wanted_plain rfl)]
                have d174 : (s 5) = .bool false := hd 5 (by decide) (by decide)
                have d185 : (s 16) = .bool false := hd 16 (by decide) (by decide)
                clear hd
                replace hK : ∀ (v : Value) (W' : World), Ext W W' → (v = .bool false) → _ := hK
                simp only [mkOf, List.map_cons, List.map_nil, Act.put, List.setIfInBounds_toArray, List.set_cons_succ, List.set_cons_zero, Nat.reduceAdd, Nat.zero_add] at hK ⊢
                simp only [d174, d185] at hK ⊢
                go_simp
                exact hK _ _ (Ext.refl _) rfl
              | i + 18, hi, _ => exact absurd hi (by simp)
            · intro s W hX hd
              have d169 : (s 0) = .agg ZA.toArray := hd 0 (by decide)
              have d170 : ∃ (M' : List Value) (L U : Nat), (s 1) = .agg M'.toArray ∧ SigK L U W M' (List.replicate 1024 0) 0 [] := hd 1 (by decide)
              have d171 : (s 2) = .agg ZB.toArray := hd 2 (by decide)
              have d172 : (s 3) = .bool true := hd 3 (by decide)
              have d173 : (s 4) = .bool false := hd 4 (by decide)
              have d174 : (s 5) = .bool false := hd 5 (by decide)
              have d175 : (s 6) = .pointer (some ⟨g, 0, none⟩) := hd 6 (by decide)
              have d176 : (s 7) = .int .u32 (key : Int) := hd 7 (by decide)
              have d177 : (s 8) = .bool false := hd 8 (by decide)
              have d178 : (s 9) = .bool false := hd 9 (by decide)
              have d179 : (s 10) = .bool false := hd 10 (by decide)
              have d184 : (s 15) = .bool false := hd 15 (by decide)
              have d185 : (s 16) = .bool false := hd 16 (by decide)
              have d186 : (s 17) = .bool false := hd 17 (by decide)
              clear hd
              simp only [mkOf, List.map_cons, List.map_nil, Act.put, List.setIfInBounds_toArray, List.set_cons_succ, List.set_cons_zero, Nat.reduceAdd, Nat.zero_add]
              (try simp only [Exit.inBlock, Exit.then])
              have hI9 := HI7.out.far hX (by simp)
              have HI9 := Lib.hid hI9
              simp only [d169, d171, d172, d173, d174, d175, d176, d177, d178, d179, d184, d185, d186]
              clear hI9 hX d169 d170 d171 d172 d173 d174 d175 d176 d177 d178 d179 d184 d185 d186
              go_wp2_with fail
              go_roundw
              case rel => exact ⟨k + 1, tk, by omega, by go_num, HI9.out⟩
              case measure => simp [intOf]; omega
        · have hrem : ∀ (P : Program) (t : TypeId) (W : World), (binOp .rem t (.int .u8 (q : Int)) (.int .u8 3)).run P W = .ok (.int .u8 2) W := fun P t W => by have h := hrem0 P t W; rw [hq3] at h; exact h
          have HREM := Lib.hid hrem
          clear hrem hrem0
          by_cases hin : key < 2 ^ n
          · have hkn : (key : Int) < (N : Int) := by have := HPOW.out; omega
            clear hq3
            go_wp2_with (first
              | ((with_reducible refine wpDst 19 rfl ?_); refine wpList_alloc _ rfl 39 rfl _ hza ?_)
              | ((with_reducible refine wpDst 104 rfl ?_); refine wpList_bin2 rfl .rem 5 (.tmp 103) _ rfl (.int .u8 (q : Int)) (.int .u8 3) rfl rfl rfl (HREM.out _ _ _) ?_)
              | fail)
            refine (Ring_Spend HIB.out.ring key hkey hin).mono ?_
            rintro e w1 ⟨rfl, hr1, hg1⟩
            have hI1 := HIB.out.ring' hg1 hr1
            have hb19 := HB19.out.keep hg1 (by have := hI1.lt; have := HI.out.size; simp; omega)
            clear hr1
            have hwz : wr.heap.size + 1 ≤ w1.heap.size := by have := hg1.size; simpa using this
            have hs1 : SigK (wr.heap.size + 1) w1.heap.size w1 ZA (List.replicate 1024 0) 0 [] := by rw [← HZAE.out]; exact SigK.nil _
            have hss : List.length (α := UInt8) (List.replicate 1024 0) = 1024 := List.length_replicate
            have hwn : List.length (α := Dg) [] ≤ 8 := Nat.zero_le 8
            have hm1l : ZA.length = 1026 := hs1.len hss
            have hm1o : ∀ u ∈ ZA, u.oneCell' = true := hs1.one
            have hI2 := hI1
            have hb19b := hb19
            have hs2 := hs1
            have hz2 : w1.heap.size = w1.heap.size := rfl
            have ck2 : w1.cell? ⟨tk2, key, none⟩ = some (.bool (takenM tk key)) := hI2.bit (by have := HI.out.ring.len; omega)
            have fk2 : w1.frozen? ⟨tk2, key, none⟩ = false := hI2.bools.free key
            have hst : w1.grownBy (w1.setCell ⟨tk2, key, none⟩ (.bool true)) (some tk2) := only_set key _
            have hI3 := hI2.set key
            have hb19c := hb19b.keep hst (by have := hI2.lt; have := HI.out.size; simp; omega)
            have hs3 := hs2.keep hst (by rintro b ⟨⟩; exact .inl (by have := hI2.lt; have := HI.out.size; omega))
            have hz3 : (w1.setCell ⟨tk2, key, none⟩ (.bool true)).heap.size = w1.heap.size := by simp [World.setRow]
            have hal : Ext (w1.setCell ⟨tk2, key, none⟩ (.bool true)) ((w1.setCell ⟨tk2, key, none⟩ (.bool true)).alloc (.cells ZB.toArray 30)) := (Ext.refl _).alloc _
            have hI4 := hI3.far hal (by simp)
            have hb19d := hb19c.keep hal (by simp)
            have hs4 := hs3.ext hal
            have hb22 : Blk ((w1.setCell ⟨tk2, key, none⟩ (.bool true)).alloc (.cells ZB.toArray 30)) w1.heap.size 30 ZB := by have h := Blk.new (w1.setCell ⟨tk2, key, none⟩ (.bool true)) 30 ZB; rw [hz3] at h; exact h
            have ckq : ((w1.setCell ⟨tk2, key, none⟩ (.bool true)).alloc (.cells ZB.toArray 30)).cell? (adq.add k) = some (.int .u8 (q : Int)) := HKQ.out _ hI4.ext
            have hz4 : ((w1.setCell ⟨tk2, key, none⟩ (.bool true)).alloc (.cells ZB.toArray 30)).heap.size = w1.heap.size + 1 := by rw [World.size_alloc, hz3]
            have HI1 := Lib.hid hI1
            have HI4 := Lib.hid hI4
            have HB19D := Lib.hid hb19d
            have HS4 := Lib.hid hs4
            have HB22 := Lib.hid hb22
            have HM1L := Lib.hid hm1l
            have HSSL := Lib.hid hss
            have HWWN := Lib.hid hwn
            have HB19A := Lib.hid hb19
            have HZ4 := Lib.hid hz4
            have HWZ := Lib.hid hwz
            have HZ3 := Lib.hid hz3
            clear hI1 hI2 hI3 hI4 hb19 hb19b hb19c hb19d hs1 hs2 hs3 hs4 hb22 hm1l hss hwn hal hz2 hz3 hz4 hwz hg1 hst
            go_wp2_with (first
              | ((with_reducible refine wpDst 151 rfl ?_); refine wpList_build (.inl rfl) 30 #[] rfl (.agg ZB.toArray) (exec_build0 _ _ rfl HBU.out) ?_)
              | ((with_reducible refine wpDst 22 rfl ?_); refine wpList_alloc _ rfl 30 rfl _ hzb ?_)
              | ((with_reducible refine wpSto 22 151 rfl ?_); go_must (refine wpList_storeN rfl 30 (.tmp 22) (.tmp 151) rfl (w1.setCell ⟨tk2, key, none⟩ (.bool true)) (by simp [Act.put, Act.eval]) ZB ZB 30 rfl (by simp [Act.put, Act.eval]) (szOutFrom05 HZB.out) rfl hzbo ?_))
              | ((with_reducible refine wpDst 159 rfl ?_); go_must (refine wpList_bin2V (.inr (by kernel_rfl)) .rem 5 (.tmp 158) _ rfl (.int .u8 (q : Int)) (.int .u8 3) rfl rfl rfl (HREM.out _ _ _) ?_))
              | fail)
            have HM2L : Hid (ZB.length = 1026) := HZB
            have ht2 : SigK (w1.heap.size + 1) ((w1.setCell ⟨tk2, key, none⟩ (.bool true)).alloc (.cells ZB.toArray 30)).heap.size ((w1.setCell ⟨tk2, key, none⟩ (.bool true)).alloc (.cells ZB.toArray 30)) ZB (List.replicate 1024 0) 0 [] := by rw [← HZBE.out]; exact SigK.nil _
            have HT2 := Lib.hid ht2
            have HI6 := HI4
            have H22A := HB22
            have H19A := HB19D
            have HS6 := HS4
            clear ht2
            generalize ((w1.setCell ⟨tk2, key, none⟩ (.bool true)).alloc (.cells ZB.toArray 30)) = wz at *
            have hxd : Ext wz wz.drew := (Ext.refl wz).drew
            have HI7 := Lib.hid (HI6.out.far hxd (by simp))
            have H22 := Lib.hid (H22A.out.keep hxd (by simp))
            have H19 := Lib.hid (H19A.out.keep hxd (by simp))
            have HS1 := Lib.hid (HS6.out.ext hxd)
            have HS2 := Lib.hid (HT2.out.ext hxd)
            try simp only [World.size_setCell, World.size_alloc]
            have htk : takenM (tk.set key true) key = true := taken_set (by have := HI.out.ring.len; omega)
            have HTAKEN : Hid (∀ W, Ext wz.drew W → Calls Try.prog 20 #[.pointer (some ⟨g, 0, none⟩), .int .u32 (key : Int)] W fun e w' => e = .returned (.bool true) ∧ Ext W w') := Lib.hid fun W hx => by rw [← htk]; exact Ring_Taken (HI7.out.ring.ext hx) key hkey
            have HKN : Hid (key < N) := Lib.hid (by rw [HNE2.out]; exact hin)
            have HBIT : Hid (∀ W, Ext wz.drew W → W.cell? ⟨tk2, key, none⟩ = some (.bool true)) := Lib.hid fun W hx => by have h := (HI7.out.far hx (by simp)).bit (key := key) (by have := HI.out.ring.len; simp; omega); rw [taken_set (by have := HI.out.ring.len; omega)] at h; exact h
            clear htk hxd
            refine stab_plain Ext ext_refl ext_trans [[0], [0, 1], [2], [0, 1, 2, 3], [0, 1, 2, 3, 4], [0, 1, 2, 3, 4, 5], [0, 1, 2, 3, 4, 5, 6], [0, 1, 2, 3, 4, 5, 7], [0, 1, 2, 3, 4, 5, 6, 7, 8], [0, 1, 2, 3, 4, 5, 9], [0, 1, 2, 3, 4, 5, 6, 7, 8, 9, 10], [0, 1, 2, 3, 4, 5, 6, 7, 8, 9, 10, 11], [0, 1, 2, 3, 4, 5, 6, 7, 8, 9, 10, 12], [0, 1, 2, 3, 4, 5, 6, 7, 8, 9, 10, 11, 12, 13], [0, 1, 2, 3, 4, 5, 6, 7, 8, 9, 10, 11, 12, 13, 14], [0, 1, 2, 3, 4, 5, 6, 7, 8, 9, 10, 11, 12, 13, 14, 15], [0, 1, 2, 3, 4, 5, 6, 7, 8, 9, 10, 11, 12, 13, 14, 15, 16], [0, 1, 2, 3, 4, 5, 6, 7, 8, 9, 10, 11, 12, 13, 14, 15, 16, 17]] (fun i v wv => match i with | 0 => v = .agg ZA.toArray | 1 => ∃ (M' : List Value) (L U : Nat), v = .agg M'.toArray ∧ SigK L U wv M' (List.replicate 1024 0) 0 [] | 2 => v = .agg ZB.toArray | 3 => v = .bool true | 4 => v = .bool false | 5 => v = .bool false | 6 => v = .pointer (some ⟨g, 0, none⟩) | 7 => v = .int .u32 (key : Int) | 8 => v = .bool true | 9 => v = .bool true | 10 => v = .bool true | 11 => v = .slice (some ⟨tk2, 0, none⟩) N N | 12 => v = .int .u32 (key : Int) | 13 => v = .pointer (some ⟨tk2, key, none⟩) | 14 => v = .bool true | 15 => v = .bool true | 16 => v = .bool false | 17 => v = .bool false | _ => True) (by kernel_rfl) (by kernel_rfl) (by kernel_rfl) ?_ ?_ ?_
            · intro i v w1 w2 h hx
              match i, h with
              | 0, h => exact h
              | 1, h =>
                replace h : ∃ (M' : List Value) (L U : Nat), v = .agg M'.toArray ∧ SigK L U w1 M' (List.replicate 1024 0) 0 [] := h
                show ∃ (M' : List Value) (L U : Nat), v = .agg M'.toArray ∧ SigK L U w2 M' (List.replicate 1024 0) 0 []
                obtain ⟨M', L, U, h1, h2⟩ := h
                exact ⟨M', L, U, h1, h2.ext hx⟩
              | 2, h => exact h
              | 3, h => exact h
              | 4, h => exact h
              | 5, h => exact h
              | 6, h => exact h
              | 7, h => exact h
              | 8, h => exact h
              | 9, h => exact h
              | 10, h => exact h
              | 11, h => exact h
              | 12, h => exact h
              | 13, h => exact h
              | 14, h => exact h
              | 15, h => exact h
              | 16, h => exact h
              | 17, h => exact h
              | i + 18, h => trivial
            · intro i hi o ho
              match i, hi, ho with
              | 0, _, ho =>
                obtain rfl := Option.some.inj ho
                intro s W hX hd K hK
                rw [if_pos (wanted_plain rfl)]
                clear hd
                replace hK : ∀ (v : Value) (W' : World), Ext W W' → (v = .agg ZA.toArray) → _ := hK
                simp only [mkOf, List.map_cons, List.map_nil, Act.put, List.setIfInBounds_toArray, List.set_cons_succ, List.set_cons_zero, Nat.reduceAdd, Nat.zero_add] at hK ⊢
                refine wp_load_agg 39 (.tmp 19) rfl ⟨wr.heap.size, 0, none⟩ (by simp [Act.eval, World.setRow]) ZA _ Try.underlying39 rfl (szOutTo05 HM1L.out) (H19.out.keep hX (by simp)).cells ?_
                exact hK _ _ (Ext.refl _) rfl
              | 1, _, ho =>
                obtain rfl := Option.some.inj ho
                intro s W hX hd K hK
                rw [if_pos (wanted_plain rfl)]
                have d169 : (s 0) = .agg ZA.toArray := hd 0 (by decide) (by decide)
                clear hd
                replace hK : ∀ (v : Value) (W' : World), Ext W W' → (∃ (M' : List Value) (L U : Nat), v = .agg M'.toArray ∧ SigK L U W' M' (List.replicate 1024 0) 0 []) → _ := hK
                simp only [mkOf, List.map_cons, List.map_nil, Act.put, List.setIfInBounds_toArray, List.set_cons_succ, List.set_cons_zero, Nat.reduceAdd, Nat.zero_add] at hK ⊢
                simp only [d169] at hK ⊢
                go_simp
                refine ((HS1.out.ext hX).from_ HSSL.out HWWN.out).mono ?_
                rintro e w' ⟨M', rfl, hs, hx⟩
                exact hK _ _ hx ⟨M', _, _, rfl, hs⟩
              | 2, _, ho =>
                obtain rfl := Option.some.inj ho
                intro s W hX hd K hK
                rw [if_pos (wanted_plain rfl)]
                clear hd
                replace hK : ∀ (v : Value) (W' : World), Ext W W' → (v = .agg ZB.toArray) → _ := hK
                simp only [mkOf, List.map_cons, List.map_nil, Act.put, List.setIfInBounds_toArray, List.set_cons_succ, List.set_cons_zero, Nat.reduceAdd, Nat.zero_add] at hK ⊢
                refine wp_load_agg 30 (.tmp 22) rfl ⟨w1.heap.size, 0, none⟩ (by simp [Act.eval, World.setRow]) ZB _ Try.underlying30 rfl (szOutFrom05 HM2L.out) (H22.out.keep hX (by simp)).cells ?_
                exact hK _ _ (Ext.refl _) rfl
              | 3, _, ho =>
                obtain rfl := Option.some.inj ho
                intro s W hX hd K hK
                rw [if_pos (wanted_plain rfl)]
                have d170 : ∃ (M' : List Value) (L U : Nat), (s 1) = .agg M'.toArray ∧ SigK L U W M' (List.replicate 1024 0) 0 [] := hd 1 (by decide) (by decide)
                have d171 : (s 2) = .agg ZB.toArray := hd 2 (by decide) (by decide)
                clear hd
                replace hK : ∀ (v : Value) (W' : World), Ext W W' → (v = .bool true) → _ := hK
                simp only [mkOf, List.map_cons, List.map_nil, Act.put, List.setIfInBounds_toArray, List.set_cons_succ, List.set_cons_zero, Nat.reduceAdd, Nat.zero_add] at hK ⊢
                simp only [d171] at hK ⊢
                obtain ⟨M', L, U, h1, h2⟩ := d170
                simp only [h1] at hK ⊢
                go_simp
                refine (h2.same HSSL.out (HS2.out.ext hX)).mono ?_
                rintro e w' ⟨rfl, hx⟩
                exact hK _ _ hx rfl
              | 4, _, ho =>
                obtain rfl := Option.some.inj ho
                intro s W hX hd K hK
                rw [if_pos (wanted_plain rfl)]
                have d172 : (s 3) = .bool true := hd 3 (by decide) (by decide)
                clear hd
                replace hK : ∀ (v : Value) (W' : World), Ext W W' → (v = .bool false) → _ := hK
                simp only [mkOf, List.map_cons, List.map_nil, Act.put, List.setIfInBounds_toArray, List.set_cons_succ, List.set_cons_zero, Nat.reduceAdd, Nat.zero_add] at hK ⊢
                simp only [d172] at hK ⊢
                go_simp
                exact hK _ _ (Ext.refl _) rfl
              | 5, _, ho =>
                obtain rfl := Option.some.inj ho
                intro s W hX hd K hK
                rw [if_pos (wanted_plain rfl)]
                have d173 : (s 4) = .bool false := hd 4 (by decide) (by decide)
                clear hd
                replace hK : ∀ (v : Value) (W' : World), Ext W W' → (v = .bool false) → _ := hK
                simp only [mkOf, List.map_cons, List.map_nil, Act.put, List.setIfInBounds_toArray, List.set_cons_succ, List.set_cons_zero, Nat.reduceAdd, Nat.zero_add] at hK ⊢
                simp only [d173] at hK ⊢
                go_simp
                exact hK _ _ (Ext.refl _) rfl
              | 6, _, ho =>
                obtain rfl := Option.some.inj ho
                intro s W hX hd K hK
                have d174 : (s 5) = .bool false := hd 5 (by decide) (by decide)
                clear hd
                replace hK : ∀ (v : Value) (W' : World), Ext W W' → (v = .pointer (some ⟨g, 0, none⟩)) → _ := hK
                simp only [mkOf, List.map_cons, List.map_nil, Act.put, List.setIfInBounds_toArray, List.set_cons_succ, List.set_cons_zero, Nat.reduceAdd, Nat.zero_add] at hK ⊢
                simp only [d174] at hK ⊢
                rw [if_pos (by kernel_rfl)]
                go_simp
                exact hK _ _ (Ext.refl _) rfl
              | 7, _, ho =>
                obtain rfl := Option.some.inj ho
                intro s W hX hd K hK
                have d174 : (s 5) = .bool false := hd 5 (by decide) (by decide)
                clear hd
                replace hK : ∀ (v : Value) (W' : World), Ext W W' → (v = .int .u32 (key : Int)) → _ := hK
                simp only [mkOf, List.map_cons, List.map_nil, Act.put, List.setIfInBounds_toArray, List.set_cons_succ, List.set_cons_zero, Nat.reduceAdd, Nat.zero_add] at hK ⊢
                simp only [d174] at hK ⊢
                rw [if_pos (by kernel_rfl)]
                go_simp
                exact hK _ _ (Ext.refl _) rfl
              | 8, _, ho =>
                obtain rfl := Option.some.inj ho
                intro s W hX hd K hK
                have d174 : (s 5) = .bool false := hd 5 (by decide) (by decide)
                have d175 : (s 6) = .pointer (some ⟨g, 0, none⟩) := hd 6 (by decide) (by decide)
                have d176 : (s 7) = .int .u32 (key : Int) := hd 7 (by decide) (by decide)
                clear hd
                replace hK : ∀ (v : Value) (W' : World), Ext W W' → (v = .bool true) → _ := hK
                simp only [mkOf, List.map_cons, List.map_nil, Act.put, List.setIfInBounds_toArray, List.set_cons_succ, List.set_cons_zero, Nat.reduceAdd, Nat.zero_add] at hK ⊢
                simp only [d174, d175, d176] at hK ⊢
                rw [if_pos (by kernel_rfl)]
                go_simp
                refine (HTAKEN.out _ hX).mono ?_
                rintro e w' ⟨rfl, hx⟩
                exact hK _ _ hx rfl
              | 9, _, ho =>
                obtain rfl := Option.some.inj ho
                intro s W hX hd K hK
                have d174 : (s 5) = .bool false := hd 5 (by decide) (by decide)
                clear hd
                replace hK : ∀ (v : Value) (W' : World), Ext W W' → (v = .bool true) → _ := hK
                simp only [mkOf, List.map_cons, List.map_nil, Act.put, List.setIfInBounds_toArray, List.set_cons_succ, List.set_cons_zero, Nat.reduceAdd, Nat.zero_add] at hK ⊢
                simp only [d174] at hK ⊢
                rw [if_pos (by kernel_rfl)]
                go_simp
                exact hK _ _ (Ext.refl _) rfl
              | 10, _, ho =>
                obtain rfl := Option.some.inj ho
                intro s W hX hd K hK
                have d174 : (s 5) = .bool false := hd 5 (by decide) (by decide)
                have d178 : (s 9) = .bool true := hd 9 (by decide) (by decide)
                clear hd
                replace hK : ∀ (v : Value) (W' : World), Ext W W' → (v = .bool true) → _ := hK
                simp only [mkOf, List.map_cons, List.map_nil, Act.put, List.setIfInBounds_toArray, List.set_cons_succ, List.set_cons_zero, Nat.reduceAdd, Nat.zero_add] at hK ⊢
                simp only [d174, d178] at hK ⊢
                rw [if_pos (by kernel_rfl)]
                go_simp
                exact hK _ _ (Ext.refl _) rfl
              | 11, _, ho =>
                obtain rfl := Option.some.inj ho
                intro s W hX hd K hK
                have d179 : (s 10) = .bool true := hd 10 (by decide) (by decide)
                clear hd
                replace hK : ∀ (v : Value) (W' : World), Ext W W' → (v = .slice (some ⟨tk2, 0, none⟩) N N) → _ := hK
                simp only [mkOf, List.map_cons, List.map_nil, Act.put, List.setIfInBounds_toArray, List.set_cons_succ, List.set_cons_zero, Nat.reduceAdd, Nat.zero_add] at hK ⊢
                simp only [d179] at hK ⊢
                rw [if_pos (by kernel_rfl)]
                go_simp
                exact hK _ _ (Ext.refl _) rfl
              | 12, _, ho =>
                obtain rfl := Option.some.inj ho
                intro s W hX hd K hK
                have d179 : (s 10) = .bool true := hd 10 (by decide) (by decide)
                clear hd
                replace hK : ∀ (v : Value) (W' : World), Ext W W' → (v = .int .u32 (key : Int)) → _ := hK
                simp only [mkOf, List.map_cons, List.map_nil, Act.put, List.setIfInBounds_toArray, List.set_cons_succ, List.set_cons_zero, Nat.reduceAdd, Nat.zero_add] at hK ⊢
                simp only [d179] at hK ⊢
                rw [if_pos (by kernel_rfl)]
                go_simp
                exact hK _ _ (Ext.refl _) rfl
              | 13, _, ho =>
                obtain rfl := Option.some.inj ho
                intro s W hX hd K hK
                have d179 : (s 10) = .bool true := hd 10 (by decide) (by decide)
                have d180 : (s 11) = .slice (some ⟨tk2, 0, none⟩) N N := hd 11 (by decide) (by decide)
                have d181 : (s 12) = .int .u32 (key : Int) := hd 12 (by decide) (by decide)
                clear hd
                replace hK : ∀ (v : Value) (W' : World), Ext W W' → (v = .pointer (some ⟨tk2, key, none⟩)) → _ := hK
                simp only [mkOf, List.map_cons, List.map_nil, Act.put, List.setIfInBounds_toArray, List.set_cons_succ, List.set_cons_zero, Nat.reduceAdd, Nat.zero_add] at hK ⊢
                simp only [d179, d180, d181] at hK ⊢
                rw [if_pos (by kernel_rfl)]
                have hkn := HKN.out
                go_simp
                exact hK _ _ (Ext.refl _) rfl
              | 14, _, ho =>
                obtain rfl := Option.some.inj ho
                intro s W hX hd K hK
                have d179 : (s 10) = .bool true := hd 10 (by decide) (by decide)
                have d182 : (s 13) = .pointer (some ⟨tk2, key, none⟩) := hd 13 (by decide) (by decide)
                clear hd
                replace hK : ∀ (v : Value) (W' : World), Ext W W' → (v = .bool true) → _ := hK
                simp only [mkOf, List.map_cons, List.map_nil, Act.put, List.setIfInBounds_toArray, List.set_cons_succ, List.set_cons_zero, Nat.reduceAdd, Nat.zero_add] at hK ⊢
                simp only [d179, d182] at hK ⊢
                rw [if_pos (by kernel_rfl)]
                have c183 := HBIT.out W hX
                go_simp
                exact hK _ _ (Ext.refl _) rfl
              | 15, _, ho =>
                obtain rfl := Option.some.inj ho
                intro s W hX hd K hK
                have d174 : (s 5) = .bool false := hd 5 (by decide) (by decide)
                have d179 : (s 10) = .bool true := hd 10 (by decide) (by decide)
                have d183 : (s 14) = .bool true := hd 14 (by decide) (by decide)
                clear hd
                replace hK : ∀ (v : Value) (W' : World), Ext W W' → (v = .bool true) → _ := hK
                simp only [mkOf, List.map_cons, List.map_nil, Act.put, List.setIfInBounds_toArray, List.set_cons_succ, List.set_cons_zero, Nat.reduceAdd, Nat.zero_add] at hK ⊢
                simp only [d174, d179, d183] at hK ⊢
                rw [if_pos (by kernel_rfl)]
                go_simp
                exact hK _ _ (Ext.refl _) rfl
              | 16, _, ho =>
                obtain rfl := Option.some.inj ho
                intro s W hX hd K hK
                have d174 : (s 5) = .bool false := hd 5 (by decide) (by decide)
                have d177 : (s 8) = .bool true := hd 8 (by decide) (by decide)
                have d184 : (s 15) = .bool true := hd 15 (by decide) (by decide)
                clear hd
                replace hK : ∀ (v : Value) (W' : World), Ext W W' → (v = .bool false) → _ := hK
                simp only [mkOf, List.map_cons, List.map_nil, Act.put, List.setIfInBounds_toArray, List.set_cons_succ, List.set_cons_zero, Nat.reduceAdd, Nat.zero_add] at hK ⊢
                simp only [d174, d177, d184] at hK ⊢
                rw [if_pos (by kernel_rfl)]
                go_simp
                exact hK _ _ (Ext.refl _) rfl
              | 17, _, ho =>
                obtain rfl := Option.some.inj ho
                intro s W hX hd K hK
                rw [if_pos (wanted_plain rfl)]
                have d174 : (s 5) = .bool false := hd 5 (by decide) (by decide)
                have d185 : (s 16) = .bool false := hd 16 (by decide) (by decide)
                clear hd
                replace hK : ∀ (v : Value) (W' : World), Ext W W' → (v = .bool false) → _ := hK
                simp only [mkOf, List.map_cons, List.map_nil, Act.put, List.setIfInBounds_toArray, List.set_cons_succ, List.set_cons_zero, Nat.reduceAdd, Nat.zero_add] at hK ⊢
                simp only [d174, d185] at hK ⊢
                go_simp
                exact hK _ _ (Ext.refl _) rfl
              | i + 18, hi, _ => exact absurd hi (by simp)
            · intro s W hX hd
              have d169 : (s 0) = .agg ZA.toArray := hd 0 (by decide)
              have d170 : ∃ (M' : List Value) (L U : Nat), (s 1) = .agg M'.toArray ∧ SigK L U W M' (List.replicate 1024 0) 0 [] := hd 1 (by decide)
              have d171 : (s 2) = .agg ZB.toArray := hd 2 (by decide)
              have d172 : (s 3) = .bool true := hd 3 (by decide)
              have d173 : (s 4) = .bool false := hd 4 (by decide)
              have d174 : (s 5) = .bool false := hd 5 (by decide)
              have d175 : (s 6) = .pointer (some ⟨g, 0, none⟩) := hd 6 (by decide)
              have d176 : (s 7) = .int .u32 (key : Int) := hd 7 (by decide)
              have d177 : (s 8) = .bool true := hd 8 (by decide)
              have d178 : (s 9) = .bool true := hd 9 (by decide)
              have d179 : (s 10) = .bool true := hd 10 (by decide)
              have d180 : (s 11) = .slice (some ⟨tk2, 0, none⟩) N N := hd 11 (by decide)
              have d181 : (s 12) = .int .u32 (key : Int) := hd 12 (by decide)
              have d182 : (s 13) = .pointer (some ⟨tk2, key, none⟩) := hd 13 (by decide)
              have d183 : (s 14) = .bool true := hd 14 (by decide)
              have d184 : (s 15) = .bool true := hd 15 (by decide)
              have d185 : (s 16) = .bool false := hd 16 (by decide)
              have d186 : (s 17) = .bool false := hd 17 (by decide)
              clear hd
              simp only [mkOf, List.map_cons, List.map_nil, Act.put, List.setIfInBounds_toArray, List.set_cons_succ, List.set_cons_zero, Nat.reduceAdd, Nat.zero_add]
              (try simp only [Exit.inBlock, Exit.then])
              have hI9 := HI7.out.far hX (by simp)
              have HI9 := Lib.hid hI9
              simp only [d169, d171, d172, d173, d174, d175, d176, d177, d178, d179, d184, d185, d186, d180, d181, d182, d183]
              clear hI9 hX d169 d170 d171 d172 d173 d174 d175 d176 d177 d178 d179 d184 d185 d186 d180 d181 d182 d183
              go_wp2_with fail
              go_roundw
              case rel => exact ⟨k + 1, (tk.set key true), by omega, by go_num, HI9.out⟩
              case measure => simp [intOf]; omega
          · have hkn : ¬ (key : Int) < (N : Int) := by have := HPOW.out; omega
            clear hq3
            go_wp2_with (first
              | ((with_reducible refine wpDst 19 rfl ?_); refine wpList_alloc _ rfl 39 rfl _ hza ?_)
              | ((with_reducible refine wpDst 104 rfl ?_); refine wpList_bin2 rfl .rem 5 (.tmp 103) _ rfl (.int .u8 (q : Int)) (.int .u8 3) rfl rfl rfl (HREM.out _ _ _) ?_)
              | fail)
            refine (Ring_Spend_arg HIB.out.ring key hkey hin).mono ?_
            rintro e w1 ⟨rfl, hg1⟩
            have hI1 := HIB.out.far hg1 (by simp)
            have hb19 := HB19.out.keep hg1 (by simp)
            have hwz : wr.heap.size + 1 ≤ w1.heap.size := by have := hg1.size; simpa using this
            have hs1 : SigK (wr.heap.size + 1) w1.heap.size w1 ZA (List.replicate 1024 0) 0 [] := by rw [← HZAE.out]; exact SigK.nil _
            have hss : List.length (α := UInt8) (List.replicate 1024 0) = 1024 := List.length_replicate
            have hwn : List.length (α := Dg) [] ≤ 8 := Nat.zero_le 8
            have hm1l : ZA.length = 1026 := hs1.len hss
            have hm1o : ∀ u ∈ ZA, u.oneCell' = true := hs1.one
            have hI2 := hI1
            have hb19b := hb19
            have hs2 := hs1
            have hz2 : w1.heap.size = w1.heap.size := rfl
            have hI3 := hI2
            have hb19c := hb19b
            have hs3 := hs2
            have hz3 := hz2
            have hal : Ext w1 (w1.alloc (.cells ZB.toArray 30)) := (Ext.refl _).alloc _
            have hI4 := hI3.far hal (by simp)
            have hb19d := hb19c.keep hal (by simp)
            have hs4 := hs3.ext hal
            have hb22 : Blk (w1.alloc (.cells ZB.toArray 30)) w1.heap.size 30 ZB := by have h := Blk.new w1 30 ZB; rw [hz3] at h; exact h
            have ckq : (w1.alloc (.cells ZB.toArray 30)).cell? (adq.add k) = some (.int .u8 (q : Int)) := HKQ.out _ hI4.ext
            have hz4 : (w1.alloc (.cells ZB.toArray 30)).heap.size = w1.heap.size + 1 := by rw [World.size_alloc, hz3]
            have HI1 := Lib.hid hI1
            have HI4 := Lib.hid hI4
            have HB19D := Lib.hid hb19d
            have HS4 := Lib.hid hs4
            have HB22 := Lib.hid hb22
            have HM1L := Lib.hid hm1l
            have HSSL := Lib.hid hss
            have HWWN := Lib.hid hwn
            have HB19A := Lib.hid hb19
            have HZ4 := Lib.hid hz4
            have HWZ := Lib.hid hwz
            have HZ3 := Lib.hid hz3
            clear hI1 hI2 hI3 hI4 hb19 hb19b hb19c hb19d hs1 hs2 hs3 hs4 hb22 hm1l hss hwn hal hz2 hz3 hz4 hwz hg1
            go_wp2_with (first
              | ((with_reducible refine wpDst 151 rfl ?_); refine wpList_build (.inl rfl) 30 #[] rfl (.agg ZB.toArray) (exec_build0 _ _ rfl HBU.out) ?_)
              | ((with_reducible refine wpDst 22 rfl ?_); refine wpList_alloc _ rfl 30 rfl _ hzb ?_)
              | ((with_reducible refine wpSto 22 151 rfl ?_); go_must (refine wpList_storeN rfl 30 (.tmp 22) (.tmp 151) rfl w1 (by simp [Act.put, Act.eval]) ZB ZB 30 rfl (by simp [Act.put, Act.eval]) (szOutFrom05 HZB.out) rfl hzbo ?_))
              | fail)
            have HM2L : Hid (ZB.length = 1026) := HZB
            have ht2 : SigK (w1.heap.size + 1) (w1.alloc (.cells ZB.toArray 30)).heap.size (w1.alloc (.cells ZB.toArray 30)) ZB (List.replicate 1024 0) 0 [] := by rw [← HZBE.out]; exact SigK.nil _
            have HT2 := Lib.hid ht2
            have HI6 := HI4
            have H22A := HB22
            have H19A := HB19D
            have HS6 := HS4
            clear ht2
            generalize (w1.alloc (.cells ZB.toArray 30)) = wz at *
            have hxd : Ext wz wz.drew := (Ext.refl wz).drew
            have HI7 := Lib.hid (HI6.out.far hxd (by simp))
            have H22 := Lib.hid (H22A.out.keep hxd (by simp))
            have H19 := Lib.hid (H19A.out.keep hxd (by simp))
            have HS1 := Lib.hid (HS6.out.ext hxd)
            have HS2 := Lib.hid (HT2.out.ext hxd)
            try simp only [World.size_setCell, World.size_alloc]
            have htk : takenM tk key = false := taken_out HI.out.ring hin
            have HTAKEN : Hid (∀ W, Ext wz.drew W → Calls Try.prog 20 #[.pointer (some ⟨g, 0, none⟩), .int .u32 (key : Int)] W fun e w' => e = .returned (.bool false) ∧ Ext W w') := Lib.hid fun W hx => by rw [← htk]; exact Ring_Taken (HI7.out.ring.ext hx) key hkey
            clear htk hxd
            refine stab_plain Ext ext_refl ext_trans [[0], [0, 1], [2], [0, 1, 2, 3], [0, 1, 2, 3, 4], [0, 1, 2, 3, 4, 5], [0, 1, 2, 3, 4, 5, 6], [0, 1, 2, 3, 4, 5, 7], [0, 1, 2, 3, 4, 5, 6, 7, 8], [0, 1, 2, 3, 4, 5, 9], [0, 1, 2, 3, 4, 5, 6, 7, 8, 9, 10], [0, 1, 2, 3, 4, 5, 6, 7, 8, 9, 10, 11], [0, 1, 2, 3, 4, 5, 6, 7, 8, 9, 10, 12], [0, 1, 2, 3, 4, 5, 6, 7, 8, 9, 10, 11, 12, 13], [0, 1, 2, 3, 4, 5, 6, 7, 8, 9, 10, 11, 12, 13, 14], [0, 1, 2, 3, 4, 5, 6, 7, 8, 9, 10, 11, 12, 13, 14, 15], [0, 1, 2, 3, 4, 5, 6, 7, 8, 9, 10, 11, 12, 13, 14, 15, 16], [0, 1, 2, 3, 4, 5, 6, 7, 8, 9, 10, 11, 12, 13, 14, 15, 16, 17]] (fun i v wv => match i with | 0 => v = .agg ZA.toArray | 1 => ∃ (M' : List Value) (L U : Nat), v = .agg M'.toArray ∧ SigK L U wv M' (List.replicate 1024 0) 0 [] | 2 => v = .agg ZB.toArray | 3 => v = .bool true | 4 => v = .bool false | 5 => v = .bool false | 6 => v = .pointer (some ⟨g, 0, none⟩) | 7 => v = .int .u32 (key : Int) | 8 => v = .bool false | 9 => v = .bool false | 10 => v = .bool false | 15 => v = .bool false | 16 => v = .bool false | 17 => v = .bool false | _ => True) (by kernel_rfl) (by kernel_rfl) (by kernel_rfl) ?_ ?_ ?_
            · intro i v w1 w2 h hx
              match i, h with
              | 0, h => exact h
              | 1, h =>
                replace h : ∃ (M' : List Value) (L U : Nat), v = .agg M'.toArray ∧ SigK L U w1 M' (List.replicate 1024 0) 0 [] := h
                show ∃ (M' : List Value) (L U : Nat), v = .agg M'.toArray ∧ SigK L U w2 M' (List.replicate 1024 0) 0 []
                obtain ⟨M', L, U, h1, h2⟩ := h
                exact ⟨M', L, U, h1, h2.ext hx⟩
              | 2, h => exact h
              | 3, h => exact h
              | 4, h => exact h
              | 5, h => exact h
              | 6, h => exact h
              | 7, h => exact h
              | 8, h => exact h
              | 9, h => exact h
              | 10, h => exact h
              | 15, h => exact h
              | 16, h => exact h
              | 17, h => exact h
              | 11, h => trivial
              | 12, h => trivial
              | 13, h => trivial
              | 14, h => trivial
              | i + 18, h => trivial
            · intro i hi o ho
              match i, hi, ho with
              | 0, _, ho =>
                obtain rfl := Option.some.inj ho
                intro s W hX hd K hK
                rw [if_pos (wanted_plain rfl)]
                clear hd
                replace hK : ∀ (v : Value) (W' : World), Ext W W' → (v = .agg ZA.toArray) → _ := hK
                simp only [mkOf, List.map_cons, List.map_nil, Act.put, List.setIfInBounds_toArray, List.set_cons_succ, List.set_cons_zero, Nat.reduceAdd, Nat.zero_add] at hK ⊢
                refine wp_load_agg 39 (.tmp 19) rfl ⟨wr.heap.size, 0, none⟩ (by simp [Act.eval, World.setRow]) ZA _ Try.underlying39 rfl (szOutTo05 HM1L.out) (H19.out.keep hX (by simp)).cells ?_
                exact hK _ _ (Ext.refl _) rfl
              | 1, _, ho =>
                obtain rfl := Option.some.inj ho
                intro s W hX hd K hK
                rw [if_pos (wanted_plain rfl)]
                have d169 : (s 0) = .agg ZA.toArray := hd 0 (by decide) (by decide)
                clear hd
                replace hK : ∀ (v : Value) (W' : World), Ext W W' → (∃ (M' : List Value) (L U : Nat), v = .agg M'.toArray ∧ SigK L U W' M' (List.replicate 1024 0) 0 []) → _ := hK
                simp only [mkOf, List.map_cons, List.map_nil, Act.put, List.setIfInBounds_toArray, List.set_cons_succ, List.set_cons_zero, Nat.reduceAdd, Nat.zero_add] at hK ⊢
                simp only [d169] at hK ⊢
                go_simp
                refine ((HS1.out.ext hX).from_ HSSL.out HWWN.out).mono ?_
                rintro e w' ⟨M', rfl, hs, hx⟩
                exact hK _ _ hx ⟨M', _, _, rfl, hs⟩
              | 2, _, ho =>
                obtain rfl := Option.some.inj ho
                intro s W hX hd K hK
                rw [if_pos (wanted_plain rfl)]
                clear hd
                replace hK : ∀ (v : Value) (W' : World), Ext W W' → (v = .agg ZB.toArray) → _ := hK
                simp only [mkOf, List.map_cons, List.map_nil, Act.put, List.setIfInBounds_toArray, List.set_cons_succ, List.set_cons_zero, Nat.reduceAdd, Nat.zero_add] at hK ⊢
                refine wp_load_agg 30 (.tmp 22) rfl ⟨w1.heap.size, 0, none⟩ (by simp [Act.eval, World.setRow]) ZB _ Try.underlying30 rfl (szOutFrom05 HM2L.out) (H22.out.keep hX (by simp)).cells ?_
                exact hK _ _ (Ext.refl _) rfl
              | 3, _, ho =>
                obtain rfl := Option.some.inj ho
                intro s W hX hd K hK
                rw [if_pos (wanted_plain rfl)]
                have d170 : ∃ (M' : List Value) (L U : Nat), (s 1) = .agg M'.toArray ∧ SigK L U W M' (List.replicate 1024 0) 0 [] := hd 1 (by decide) (by decide)
                have d171 : (s 2) = .agg ZB.toArray := hd 2 (by decide) (by decide)
                clear hd
                replace hK : ∀ (v : Value) (W' : World), Ext W W' → (v = .bool true) → _ := hK
                simp only [mkOf, List.map_cons, List.map_nil, Act.put, List.setIfInBounds_toArray, List.set_cons_succ, List.set_cons_zero, Nat.reduceAdd, Nat.zero_add] at hK ⊢
                simp only [d171] at hK ⊢
                obtain ⟨M', L, U, h1, h2⟩ := d170
                simp only [h1] at hK ⊢
                go_simp
                refine (h2.same HSSL.out (HS2.out.ext hX)).mono ?_
                rintro e w' ⟨rfl, hx⟩
                exact hK _ _ hx rfl
              | 4, _, ho =>
                obtain rfl := Option.some.inj ho
                intro s W hX hd K hK
                rw [if_pos (wanted_plain rfl)]
                have d172 : (s 3) = .bool true := hd 3 (by decide) (by decide)
                clear hd
                replace hK : ∀ (v : Value) (W' : World), Ext W W' → (v = .bool false) → _ := hK
                simp only [mkOf, List.map_cons, List.map_nil, Act.put, List.setIfInBounds_toArray, List.set_cons_succ, List.set_cons_zero, Nat.reduceAdd, Nat.zero_add] at hK ⊢
                simp only [d172] at hK ⊢
                go_simp
                exact hK _ _ (Ext.refl _) rfl
              | 5, _, ho =>
                obtain rfl := Option.some.inj ho
                intro s W hX hd K hK
                rw [if_pos (wanted_plain rfl)]
                have d173 : (s 4) = .bool false := hd 4 (by decide) (by decide)
                clear hd
                replace hK : ∀ (v : Value) (W' : World), Ext W W' → (v = .bool false) → _ := hK
                simp only [mkOf, List.map_cons, List.map_nil, Act.put, List.setIfInBounds_toArray, List.set_cons_succ, List.set_cons_zero, Nat.reduceAdd, Nat.zero_add] at hK ⊢
                simp only [d173] at hK ⊢
                go_simp
                exact hK _ _ (Ext.refl _) rfl
              | 6, _, ho =>
                obtain rfl := Option.some.inj ho
                intro s W hX hd K hK
                have d174 : (s 5) = .bool false := hd 5 (by decide) (by decide)
                clear hd
                replace hK : ∀ (v : Value) (W' : World), Ext W W' → (v = .pointer (some ⟨g, 0, none⟩)) → _ := hK
                simp only [mkOf, List.map_cons, List.map_nil, Act.put, List.setIfInBounds_toArray, List.set_cons_succ, List.set_cons_zero, Nat.reduceAdd, Nat.zero_add] at hK ⊢
                simp only [d174] at hK ⊢
                rw [if_pos (by kernel_rfl)]
                go_simp
                exact hK _ _ (Ext.refl _) rfl
              | 7, _, ho =>
                obtain rfl := Option.some.inj ho
                intro s W hX hd K hK
                have d174 : (s 5) = .bool false := hd 5 (by decide) (by decide)
                clear hd
                replace hK : ∀ (v : Value) (W' : World), Ext W W' → (v = .int .u32 (key : Int)) → _ := hK
                simp only [mkOf, List.map_cons, List.map_nil, Act.put, List.setIfInBounds_toArray, List.set_cons_succ, List.set_cons_zero, Nat.reduceAdd, Nat.zero_add] at hK ⊢
                simp only [d174] at hK ⊢
                rw [if_pos (by kernel_rfl)]
                go_simp
                exact hK _ _ (Ext.refl _) rfl
              | 8, _, ho =>
                obtain rfl := Option.some.inj ho
                intro s W hX hd K hK
                have d174 : (s 5) = .bool false := hd 5 (by decide) (by decide)
                have d175 : (s 6) = .pointer (some ⟨g, 0, none⟩) := hd 6 (by decide) (by decide)
                have d176 : (s 7) = .int .u32 (key : Int) := hd 7 (by decide) (by decide)
                clear hd
                replace hK : ∀ (v : Value) (W' : World), Ext W W' → (v = .bool false) → _ := hK
                simp only [mkOf, List.map_cons, List.map_nil, Act.put, List.setIfInBounds_toArray, List.set_cons_succ, List.set_cons_zero, Nat.reduceAdd, Nat.zero_add] at hK ⊢
                simp only [d174, d175, d176] at hK ⊢
                rw [if_pos (by kernel_rfl)]
                go_simp
                refine (HTAKEN.out _ hX).mono ?_
                rintro e w' ⟨rfl, hx⟩
                exact hK _ _ hx rfl
              | 9, _, ho =>
                obtain rfl := Option.some.inj ho
                intro s W hX hd K hK
                have d174 : (s 5) = .bool false := hd 5 (by decide) (by decide)
                clear hd
                replace hK : ∀ (v : Value) (W' : World), Ext W W' → (v = .bool false) → _ := hK
                simp only [mkOf, List.map_cons, List.map_nil, Act.put, List.setIfInBounds_toArray, List.set_cons_succ, List.set_cons_zero, Nat.reduceAdd, Nat.zero_add] at hK ⊢
                simp only [d174] at hK ⊢
                rw [if_pos (by kernel_rfl)]
                go_simp
                exact hK _ _ (Ext.refl _) rfl
              | 10, _, ho =>
                obtain rfl := Option.some.inj ho
                intro s W hX hd K hK
                have d174 : (s 5) = .bool false := hd 5 (by decide) (by decide)
                have d178 : (s 9) = .bool false := hd 9 (by decide) (by decide)
                clear hd
                replace hK : ∀ (v : Value) (W' : World), Ext W W' → (v = .bool false) → _ := hK
                simp only [mkOf, List.map_cons, List.map_nil, Act.put, List.setIfInBounds_toArray, List.set_cons_succ, List.set_cons_zero, Nat.reduceAdd, Nat.zero_add] at hK ⊢
                simp only [d174, d178] at hK ⊢
                rw [if_pos (by kernel_rfl)]
                go_simp
                exact hK _ _ (Ext.refl _) rfl
              | 11, _, ho =>
                obtain rfl := Option.some.inj ho
                intro s W hX hd K hK
                have d179 : (s 10) = .bool false := hd 10 (by decide) (by decide)
                clear hd
                replace hK : ∀ (v : Value) (W' : World), Ext W W' → (True) → _ := hK
                simp only [mkOf, List.map_cons, List.map_nil, Act.put, List.setIfInBounds_toArray, List.set_cons_succ, List.set_cons_zero, Nat.reduceAdd, Nat.zero_add] at hK ⊢
                simp only [d179] at hK ⊢
                refine skippedG (by kernel_rfl) ?_
                exact hK _ _ (Ext.refl _) trivial
              | 12, _, ho =>
                obtain rfl := Option.some.inj ho
                intro s W hX hd K hK
                have d179 : (s 10) = .bool false := hd 10 (by decide) (by decide)
                clear hd
                replace hK : ∀ (v : Value) (W' : World), Ext W W' → (True) → _ := hK
                simp only [mkOf, List.map_cons, List.map_nil, Act.put, List.setIfInBounds_toArray, List.set_cons_succ, List.set_cons_zero, Nat.reduceAdd, Nat.zero_add] at hK ⊢
                simp only [d179] at hK ⊢
                refine skippedG (by kernel_rfl) ?_
                exact hK _ _ (Ext.refl _) trivial
              | 13, _, ho =>
                obtain rfl := Option.some.inj ho
                intro s W hX hd K hK
                have d179 : (s 10) = .bool false := hd 10 (by decide) (by decide)
                clear hd
                replace hK : ∀ (v : Value) (W' : World), Ext W W' → (True) → _ := hK
                simp only [mkOf, List.map_cons, List.map_nil, Act.put, List.setIfInBounds_toArray, List.set_cons_succ, List.set_cons_zero, Nat.reduceAdd, Nat.zero_add] at hK ⊢
                simp only [d179] at hK ⊢
                refine skippedG (by kernel_rfl) ?_
                exact hK _ _ (Ext.refl _) trivial
              | 14, _, ho =>
                obtain rfl := Option.some.inj ho
                intro s W hX hd K hK
                have d179 : (s 10) = .bool false := hd 10 (by decide) (by decide)
                clear hd
                replace hK : ∀ (v : Value) (W' : World), Ext W W' → (True) → _ := hK
                simp only [mkOf, List.map_cons, List.map_nil, Act.put, List.setIfInBounds_toArray, List.set_cons_succ, List.set_cons_zero, Nat.reduceAdd, Nat.zero_add] at hK ⊢
                simp only [d179] at hK ⊢
                refine skippedG (by kernel_rfl) ?_
                exact hK _ _ (Ext.refl _) trivial
              | 15, _, ho =>
                obtain rfl := Option.some.inj ho
                intro s W hX hd K hK
                have d174 : (s 5) = .bool false := hd 5 (by decide) (by decide)
                have d179 : (s 10) = .bool false := hd 10 (by decide) (by decide)
                clear hd
                replace hK : ∀ (v : Value) (W' : World), Ext W W' → (v = .bool false) → _ := hK
                simp only [mkOf, List.map_cons, List.map_nil, Act.put, List.setIfInBounds_toArray, List.set_cons_succ, List.set_cons_zero, Nat.reduceAdd, Nat.zero_add] at hK ⊢
                simp only [d174, d179] at hK ⊢
                rw [if_pos (by kernel_rfl)]
                go_simp
                exact hK _ _ (Ext.refl _) rfl
              | 16, _, ho =>
                obtain rfl := Option.some.inj ho
                intro s W hX hd K hK
                have d174 : (s 5) = .bool false := hd 5 (by decide) (by decide)
                have d177 : (s 8) = .bool false := hd 8 (by decide) (by decide)
                have d184 : (s 15) = .bool false := hd 15 (by decide) (by decide)
                clear hd
                replace hK : ∀ (v : Value) (W' : World), Ext W W' → (v = .bool false) → _ := hK
                simp only [mkOf, List.map_cons, List.map_nil, Act.put, List.setIfInBounds_toArray, List.set_cons_succ, List.set_cons_zero, Nat.reduceAdd, Nat.zero_add] at hK ⊢
                simp only [d174, d177, d184] at hK ⊢
                rw [if_pos (by kernel_rfl)]
                go_simp
                exact hK _ _ (Ext.refl _) rfl
              | 17, _, ho =>
                obtain rfl := Option.some.inj ho
                intro s W hX hd K hK
                rw [if_pos (wanted_plain rfl)]
                have d174 : (s 5) = .bool false := hd 5 (by decide) (by decide)
                have d185 : (s 16) = .bool false := hd 16 (by decide) (by decide)
                clear hd
                replace hK : ∀ (v : Value) (W' : World), Ext W W' → (v = .bool false) → _ := hK
                simp only [mkOf, List.map_cons, List.map_nil, Act.put, List.setIfInBounds_toArray, List.set_cons_succ, List.set_cons_zero, Nat.reduceAdd, Nat.zero_add] at hK ⊢
                simp only [d174, d185] at hK ⊢
                go_simp
                exact hK _ _ (Ext.refl _) rfl
              | i + 18, hi, _ => exact absurd hi (by simp)
            · intro s W hX hd
              have d169 : (s 0) = .agg ZA.toArray := hd 0 (by decide)
              have d170 : ∃ (M' : List Value) (L U : Nat), (s 1) = .agg M'.toArray ∧ SigK L U W M' (List.replicate 1024 0) 0 [] := hd 1 (by decide)
              have d171 : (s 2) = .agg ZB.toArray := hd 2 (by decide)
              have d172 : (s 3) = .bool true := hd 3 (by decide)
              have d173 : (s 4) = .bool false := hd 4 (by decide)
              have d174 : (s 5) = .bool false := hd 5 (by decide)
              have d175 : (s 6) = .pointer (some ⟨g, 0, none⟩) := hd 6 (by decide)
              have d176 : (s 7) = .int .u32 (key : Int) := hd 7 (by decide)
              have d177 : (s 8) = .bool false := hd 8 (by decide)
              have d178 : (s 9) = .bool false := hd 9 (by decide)
              have d179 : (s 10) = .bool false := hd 10 (by decide)
              have d184 : (s 15) = .bool false := hd 15 (by decide)
              have d185 : (s 16) = .bool false := hd 16 (by decide)
              have d186 : (s 17) = .bool false := hd 17 (by decide)
              clear hd
              simp only [mkOf, List.map_cons, List.map_nil, Act.put, List.setIfInBounds_toArray, List.set_cons_succ, List.set_cons_zero, Nat.reduceAdd, Nat.zero_add]
              (try simp only [Exit.inBlock, Exit.then])
              have hI9 := HI7.out.far hX (by simp)
              have HI9 := Lib.hid hI9
              simp only [d169, d171, d172, d173, d174, d175, d176, d177, d178, d179, d184, d185, d186]
              clear hI9 hX d169 d170 d171 d172 d173 d174 d175 d176 d177 d178 d179 d184 d185 d186
              go_wp2_with fail
              go_roundw
              case rel => exact ⟨k + 1, tk, by omega, by go_num, HI9.out⟩
              case measure => simp [intOf]; omega
      · obtain rfl : k = ks.length := by omega
        go_wp2_with fail
        go_ret
        exact ⟨rfl, HI.out.ext⟩
end
end Go.Proofs.Ytpdkmapogncgmaa

/- Walks and plain laws, put together in build order. Conditions: what each of them names. -/
import Derived.Test.YtfoomnibfibfnaaWLampBytes7
set_option linter.unusedVariables false
set_option linter.unusedSimpArgs false
set_option linter.unnecessarySimpa false
namespace Go.Proofs.Ytfoomnibfibfnaa
section
open Go.RowKit

theorem add_pos (a : Addr) {n : Nat} (h : n ≠ 0) : a.add n = ⟨a.block, a.off + n, none⟩ := by unfold Addr.add; rw [if_neg h]
/-- A text of words in base sixteen. -/
structure HexTab (s : ByteArray) (K : List Nat) : Prop where
  size : s.size = 8 * K.length
  ok : ∀ j, j < s.size → hexOk (s.data.toList.getD j 48) = true
  val : ∀ i, i < K.length → hexN s (8 * i) 8 = K.getD i 0
theorem OwnW.fro {w : World} {g n c : Nat} {ns : List Nat} (h : OwnW w (.slice (some ⟨g, 0, none⟩) n c) ns) (hn : ns.length = n) (k : Nat) : w.frozen? ⟨g, k, none⟩ = false := by
  subst hn
  exact World.ownsRow.frozenAt h k
theorem block_W2 (b : List UInt8) : ∃ W : List Nat, W.length = 64 ∧ (∀ i, i < 16 → W.getD i 0 = beNum ((b.drop (4 * i)).take 4)) ∧ (∀ x ∈ W, x < 4294967296) ∧ (∀ n, n < 48 → W.getD (16 + n) 0 = wordNext W n) ∧ (∀ s n, n = 64 → List.zipWith (fun x y => (x + y) % 4294967296) s (rounds s W n) = block s b) :=
  ⟨sched (words b 16) 48, by rw [sched_length, words_length], fun i hi => by rw [sched_head _ _ _ (by rw [words_length]; exact hi)]; simp [words, List.getD, hi], sched_lt _ (words_lt b 16) 48, fun n hn => sched_next _ (words_length b 16) 48 n hn, fun s n hn => by subst hn; rfl⟩
theorem take_snocD (W : List Nat) (k : Nat) (h : k < W.length) : W.take (k + 1) = W.take k ++ [W.getD k 0] := by
  rw [List.take_add_one, List.getElem?_eq_getElem h]; simp [List.getD, List.getElem?_eq_getElem h]
theorem four_num (b : List UInt8) (k : Nat) (h : 4 * k + 4 ≤ b.length) : beNum ((b.drop (4 * k)).take 4) = (((b.getD (4 * k) 0).toNat * 256 + (b.getD (4 * k + 1) 0).toNat) * 256 + (b.getD (4 * k + 2) 0).toNat) * 256 + (b.getD (4 * k + 3) 0).toNat := by
  have e : ∀ j, j < 4 → ((b.drop (4 * k)).take 4)[j]? = some (b.getD (4 * k + j) 0) := by
    intro j hj
    rw [List.getElem?_take, if_pos hj, List.getElem?_drop, List.getElem?_eq_getElem (by omega)]
    simp [List.getD, List.getElem?_eq_getElem (show 4 * k + j < b.length by omega)]
  have hl : ((b.drop (4 * k)).take 4).length = 4 := by rw [List.length_take, List.length_drop]; omega
  have h0 := e 0 (by omega)
  have h1 := e 1 (by omega)
  have h2 := e 2 (by omega)
  have h3 := e 3 (by omega)
  generalize (b.drop (4 * k)).take 4 = l at *
  match l, hl with
  | [x0, x1, x2, x3], _ =>
    simp at h0 h1 h2 h3
    subst h0 h1 h2 h3
    simp [beNum]
theorem src_words {w : World} {A : Option Addr} {c n : Nat} {ns : List Nat} (h : Own w 93 1 (.slice A n c) n (dv ns)) : Src w A n (dv ns) := own_src h

theorem zip_getD {h V : List Nat} {j : Nat} (f : Nat → Nat → Nat) (h1 : j < h.length) (h2 : j < V.length) : (List.zipWith f h V).getD j 0 = f (h.getD j 0) (V.getD j 0) := by
  have e : (List.zipWith f h V)[j]? = some (f h[j] V[j]) := by rw [List.getElem?_eq_getElem (by simp; omega), List.getElem_zipWith]
  simp [List.getD, e, List.getElem?_eq_getElem h1, List.getElem?_eq_getElem h2]
theorem right3 (x a b c : Nat) (f : Bool) (hx : x < 4294967296) (ha : a ≤ 32) (hb : b ≤ 32) (hc : c ≤ 32) : ∃ r1 r2 r3 r12 : Nat,
    (∀ w, Calls Try.prog 56 #[.int .u64 x, .int .i64 a, .bool true] w fun e w' => e = .returned (.int .u64 (r1 : Int)) ∧ ∃ k, w' = w.drewN k) ∧
    (∀ w, Calls Try.prog 56 #[.int .u64 x, .int .i64 b, .bool true] w fun e w' => e = .returned (.int .u64 (r2 : Int)) ∧ ∃ k, w' = w.drewN k) ∧
    (∀ w, Calls Try.prog 56 #[.int .u64 x, .int .i64 c, .bool (!f)] w fun e w' => e = .returned (.int .u64 (r3 : Int)) ∧ ∃ k, w' = w.drewN k) ∧
    bits .xor .u64 (r1 : Int) (r2 : Int) = (r12 : Int) ∧ bits .xor .u64 (r12 : Int) (r3 : Int) = ((threeM x a b c f : Nat) : Int) := by
  have h1 := rotr_lt hx ha
  have h2 := rotr_lt hx hb
  have h3 := rotr_lt hx hc
  have h4 : x / 2 ^ c < 4294967296 := Nat.lt_of_le_of_lt (Nat.div_le_self _ _) hx
  refine ⟨rotr x a, rotr x b, (if f then x / 2 ^ c else rotr x c), rotr x a ^^^ rotr x b, fun w => by have := Ref_right x a true w hx ha; simpa using this, fun w => by have := Ref_right x b true w hx hb; simpa using this, fun w => ?_, (bits_u64 _ _ (by omega) (by omega)).2, ?_⟩
  · have := Ref_right x c (!f) w hx hc
    cases f <;> simpa using this
  · have h5 := xor_lt32 h1 h2
    have h6 : (if f then x / 2 ^ c else rotr x c) < 4294967296 := by cases f <;> simp [h3, h4]
    rw [(bits_u64 _ _ (by omega) (by omega)).2]
    rfl

set_option maxRecDepth 100000 in
set_option maxHeartbeats 8000000 in
theorem Ref_block (Fs R : ByteArray) (vh vb : Value) (h : List Nat) (b : List UInt8) (w : World) (F : Fp) (hR : HexTab R stirK) (hh : OwnW w vh h) (h8 : h.length = 8) (hlt : ∀ x ∈ h, x < 4294967296) (hb : (Ty.sl .u8).holds w F [vb] b) (hF : ∀ b, F b → b < w.heap.size) (h64 : b.length = 64) :
    Calls Try.prog 48 #[.agg #[.string Fs, .string R], vh, vb] w fun e w' => ∃ v', e = .returned v' ∧ OwnW w' v' (block h b) ∧ Fresh w w' v' := by
  obtain ⟨i0, hi, hz0, hz1, hz2⟩ := info_parts u64_info
  obtain ⟨gh, ch, rfl, hhc1, hhc2, hhlt, hhcells⟩ := hh.cells (by omega)
  obtain ⟨A, c, xs, hv, hlc, hc, hA, hcell, hall⟩ := hb
  cases hv
  unfold maxLen at hc hhc2
  obtain ⟨ad, rfl, hf, hcells⟩ := hcell (by rintro rfl; simp at h64)
  have hxs := AllH.bytes.1 hall
  subst hxs
  obtain ⟨W, hWl, hW16, hWlt, hWn, hWf⟩ := block_W2 b
  have hbyte : ∀ (wr : World), Ext w wr → ∀ j, j < 64 → wr.cell? (ad.add j) = some (Value.int .u8 ((b.getD j 0).toNat : Int)) := fun wr hx j hj =>
    (hcells.keep (hx.same hF _ hf)) j _ (by simp [bv, List.getD, List.getElem?_eq_getElem (show j < b.length by omega)])
  have HB := Lib.hid hbyte
  have H64 := Lib.hid h64
  have HWL := Lib.hid hWl
  have HW16 := Lib.hid hW16
  have HWLT := Lib.hid hWlt
  have HWN := Lib.hid hWn
  have HWF := Lib.hid hWf
  have HH := Lib.hid hh
  have H8 := Lib.hid h8
  have HHC := Lib.hid hhcells
  rw [h64] at hlc ⊢
  rw [h8] at hhc1 ⊢
  clear hbyte h64 hWl hW16 hWlt hWn hWf hh h8 hall hcell hcells hhcells
  go_enter Try.func48, Try.ntmps48
  go_wp2
  go_loopw [7, 8] (fun vw i wr => ∃ k : Nat, k ≤ 64 ∧ i = .int .i64 k ∧ OwnW wr vw (W.take k) ∧ Fresh (w.alloc (.cells #[.string Fs, .string R] 25)) wr vw) (fun _ i _ => 64 - (intOf i).toNat)
  case atStart => exact ⟨0, by omega, rfl, Own.nil _ _ _, Moved.refl _ _⟩
  case round =>
    obtain ⟨k, hk, rfl, ho, hx⟩ := hrel
    by_cases hlt64 : k < 64
    · have hxw : Ext w wr := ((Ext.refl w).alloc _).trans (Fresh.ext hx)
      have htl : (W.take k).length = k := by rw [List.length_take, HWL.out]; omega
      have hsn := take_snocD W k (by rw [HWL.out]; exact hlt64)
      have HTL := Lib.hid htl
      have HSN := Lib.hid hsn
      clear htl hsn
      by_cases h16 : k < 16
      · have b0 := HB.out wr hxw (4 * k) (by omega)
        have b1 := HB.out wr hxw (4 * k + 1) (by omega)
        have b2 := HB.out wr hxw (4 * k + 2) (by omega)
        have b3 := HB.out wr hxw (4 * k + 3) (by omega)
        rw [add_pos _ (by omega)] at b1 b2 b3
        have hval := four_num b k (by rw [H64.out]; omega)
        rw [← HW16.out k h16] at hval
        have l0 := (b.getD (4 * k) 0).toNat_lt
        have l1 := (b.getD (4 * k + 1) 0).toNat_lt
        have l2 := (b.getD (4 * k + 2) 0).toNat_lt
        have l3 := (b.getD (4 * k + 3) 0).toNat_lt
        generalize (b.getD (4 * k) 0).toNat = n0 at *
        generalize (b.getD (4 * k + 1) 0).toNat = n1 at *
        generalize (b.getD (4 * k + 2) 0).toNat = n2 at *
        generalize (b.getD (4 * k + 3) 0).toNat = n3 at *
        have HV := Lib.hid hval
        have k1 : (0 : Int) ≤ 4 * (k : Int) := by omega
        have k2 : 4 * (k : Int) + 3 < 64 := by omega
        clear hval
        go_wp2
        refine wp_region_draw_pre [true] 34 (by kernel_rfl) (fun _ _ d _ _ h => by cases d <;> exact h) (by kernel_rfl) (by kernel_rfl) (by kernel_rfl) (by kernel_rfl) (by kernel_rfl) (by kernel_rfl) (by kernel_rfl) (by kernel_rfl) (by kernel_rfl) (by kernel_rfl) ?_
        simp only [pickT, pickF, List.take_succ_cons, List.take_zero, List.drop_succ_cons, List.drop_zero, List.cons_append, List.nil_append]
        repeat (go_big_quiet_step (fail))
        refine wpQuiet_nil ?_
        rintro _ ⟨nq, rfl⟩
        have hx : Fresh (w.alloc (.cells #[.string Fs, .string R] 25)) (wr.drewN nq) u7 := Moved.post hx ((Ext.refl wr).drewN nq)
        have ho : OwnW (wr.drewN nq) u7 (W.take k) := ho
        have HX := Lib.hid hx
        generalize wr.drewN nq = wd at ho HX ⊢
        clear hx b0 b1 b2 b3
        go_wp2_with (first
          | (at_builtin; refine wpList_app _ rfl (.tmp 32) (.tmp 66) _ _ rfl _ _ i0 _ 1 8 Try.underlying95 Try.underlying95 hi hz0 hz1 hz2 rfl (by decide) _ _ _ rfl (Own.ext ho ((Ext.refl _).alloc _)) _ _ _ [Value.int .u64 _] rfl rfl (src_new _ _ _ _) (by simp [Value.oneCell']) (by rw [HTL.out]; unfold maxLen; omega) (by rw [HTL.out]; omega) ?_; intro v2 w2 ho2 hm2)
          | fail)
        go_roundw
        case rel =>
          have hm2 : Moved (wd.alloc _) w2 u7 v2 := hm2
          have hv : ((((n0 : Int) * 256 + n1) * 256 + n2) * 256 + n3) = ((W.getD k 0 : Nat) : Int) := by rw [HV.out]; omega
          rw [hv, HTL.out] at ho2
          exact ⟨k + 1, by omega, by go_num, by rw [HSN.out]; exact OwnW.app (by rw [HTL.out]; exact ho2), HX.out.trans (Moved.pre ((Ext.refl _).alloc _) hm2)⟩
        case measure => simp [intOf]; omega
      · obtain ⟨g7, c7, hv7, hk7, hc7, hg7, hcs7⟩ := ho.cells (by rw [HTL.out]; omega)
        rw [HTL.out] at hv7 hk7 hcs7
        subst hv7
        unfold maxLen at hc7
        have hgt : ∀ j, j < k → (W.take k).getD j 0 = W.getD j 0 := fun j hj => getD_take hj
        have hcell : ∀ j, j < k → wr.cell? ⟨g7, j, none⟩ = some (Value.int .u64 ((W.getD j 0 : Nat) : Int)) := fun j hj => by rw [(hcs7 j hj).1, hgt j hj]
        have n15 := hcell (k - 15) (by omega)
        have n2 := hcell (k - 2) (by omega)
        have n16 := hcell (k - 16) (by omega)
        have n7 := hcell (k - 7) (by omega)
        have hval : W.getD k 0 = wordMix (W.getD (k - 16) 0) (W.getD (k - 15) 0) (W.getD (k - 7) 0) (W.getD (k - 2) 0) := by
          have h := HWN.out (k - 16) (by omega)
          rw [show 16 + (k - 16) = k by omega] at h
          rw [h, wordNext, show k - 16 + 1 = k - 15 by omega, show k - 16 + 9 = k - 7 by omega, show k - 16 + 14 = k - 2 by omega]
        have q15 := getD_lt HWLT.out (k - 15)
        have q2 := getD_lt HWLT.out (k - 2)
        have q16 := getD_lt HWLT.out (k - 16)
        have q7 := getD_lt HWLT.out (k - 7)
        generalize W.getD (k - 15) 0 = x15 at *
        generalize W.getD (k - 2) 0 = x2 at *
        generalize W.getD (k - 16) 0 = x16 at *
        generalize W.getD (k - 7) 0 = x7 at *
        obtain ⟨r1, r2, r3, r12, R1, R2, R3, E1, E2⟩ := right3 x15 7 18 3 true q15 (by omega) (by omega) (by omega)
        obtain ⟨t1, t2, t3, t12, T1, T2, T3, D1, D2⟩ := right3 x2 17 19 10 true q2 (by omega) (by omega) (by omega)
        have tl1 := threeM_lt (x := x15) (a := 7) (b := 18) (c := 3) (f := true) q15 (by omega) (by omega) (by omega)
        have tl2 := threeM_lt (x := x2) (a := 17) (b := 19) (c := 10) (f := true) q2 (by omega) (by omega) (by omega)
        unfold wordMix at hval
        generalize threeM x15 7 18 3 true = M1 at *
        generalize threeM x2 17 19 10 true = M2 at *
        have HV := Lib.hid hval
        have R1 := Lib.hid R1
        have R2 := Lib.hid R2
        have R3 := Lib.hid R3
        have T1 := Lib.hid T1
        have T2 := Lib.hid T2
        have T3 := Lib.hid T3
        have s1 : ((k : Int) - 15).toNat = k - 15 := by omega
        have s2 : ((k : Int) - 2).toNat = k - 2 := by omega
        have s3 : ((k : Int) - 16).toNat = k - 16 := by omega
        have s4 : ((k : Int) - 7).toNat = k - 7 := by omega
        have k16 : (16 : Int) ≤ (k : Int) := by omega
        clear hval hcell hgt hcs7
        go_wp2
        go_quiet (fail)
        go_wp2_with fail
        refine (R1.out _).mono ?_
        rintro e w1 ⟨rfl, k1, rfl⟩
        go_wp2_with fail
        refine (R2.out _).mono ?_
        rintro e w1 ⟨rfl, k2, rfl⟩
        go_wp2_with fail
        refine (R3.out _).mono ?_
        rintro e w1 ⟨rfl, k3, rfl⟩
        go_wp2_with fail
        refine (T1.out _).mono ?_
        rintro e w1 ⟨rfl, k4, rfl⟩
        go_wp2_with fail
        refine (T2.out _).mono ?_
        rintro e w1 ⟨rfl, k5, rfl⟩
        go_wp2_with fail
        refine (T3.out _).mono ?_
        rintro e w1 ⟨rfl, k6, rfl⟩
        go_wp2
        have hx : Fresh (w.alloc (.cells #[.string Fs, .string R] 25)) (wr.drewN (nq + k1 + k2 + k3 + k4 + k5 + k6)) (.slice (some ⟨g7, 0, none⟩) k c7) := Moved.post hx ((Ext.refl wr).drewN _)
        have ho : OwnW (wr.drewN (nq + k1 + k2 + k3 + k4 + k5 + k6)) (.slice (some ⟨g7, 0, none⟩) k c7) (W.take k) := ho
        have n16 : (wr.drewN (nq + k1 + k2 + k3 + k4 + k5 + k6)).cell? _ = _ := n16
        have n7 : (wr.drewN (nq + k1 + k2 + k3 + k4 + k5 + k6)).cell? _ = _ := n7
        have HX := Lib.hid hx
        clear hx n15 n2 hxw E1 E2 D1 D2
        generalize wr.drewN (nq + k1 + k2 + k3 + k4 + k5 + k6) = wd at n16 n7 ho HX ⊢
        refine wp_region_draw_pre [true] 17 (by kernel_rfl) (fun _ _ d _ _ h => by cases d <;> exact h) (by kernel_rfl) (by kernel_rfl) (by kernel_rfl) (by kernel_rfl) (by kernel_rfl) (by kernel_rfl) (by kernel_rfl) (by kernel_rfl) (by kernel_rfl) (by kernel_rfl) ?_
        simp only [pickT, pickF, List.take_succ_cons, List.take_zero, List.drop_succ_cons, List.drop_zero, List.cons_append, List.nil_append]
        repeat (go_big_quiet_step (fail))
        refine wpQuiet_nil ?_
        rintro _ ⟨nq2, rfl⟩
        have hx : Fresh (w.alloc (.cells #[.string Fs, .string R] 25)) (wd.drewN nq2) (.slice (some ⟨g7, 0, none⟩) k c7) := Moved.post HX.out ((Ext.refl wd).drewN _)
        have ho : OwnW (wd.drewN nq2) (.slice (some ⟨g7, 0, none⟩) k c7) (W.take k) := ho
        have HX := Lib.hid hx
        clear hx n16 n7
        generalize wd.drewN nq2 = wd at ho HX ⊢
        go_wp2_with (first
          | (at_builtin; refine wpList_app _ rfl (.tmp 94) (.tmp 111) _ _ rfl _ _ i0 _ 1 8 Try.underlying95 Try.underlying95 hi hz0 hz1 hz2 rfl (by decide) _ _ _ rfl (Own.ext ho ((Ext.refl _).alloc _)) _ _ _ [Value.int .u64 _] rfl rfl (src_new _ _ _ _) (by simp [Value.oneCell']) (by rw [HTL.out]; unfold maxLen; omega) (by rw [HTL.out]; omega) ?_; intro v2 w2 ho2 hm2)
          | fail)
        go_roundw
        case rel =>
          have hm2 : Moved (wd.alloc _) w2 (.slice (some ⟨g7, 0, none⟩) k c7) v2 := hm2
          have hv : ∀ v : Int, v = ((W.getD k 0 : Nat) : Int) → Own w2 93 1 v2 ((W.take k).length + 1) (dv (W.take k) ++ [Value.int .u64 v]) → OwnW w2 v2 (W.take (k + 1)) := by
            rintro _ rfl h
            rw [HSN.out]; exact OwnW.app h
          exact ⟨k + 1, by omega, by go_num, hv _ (by rw [HV.out]; omega) ho2, HX.out.trans (Moved.pre ((Ext.refl _).alloc _) hm2)⟩
        case measure => simp [intOf]; omega
    · obtain rfl : k = 64 := by omega
      rw [show W.take 64 = W from List.take_of_length_le (by rw [HWL.out]; exact Nat.le_refl _)] at ho
      have hxw : Ext w wr := ((Ext.refl w).alloc _).trans (Fresh.ext hx)
      have hbox : wr.cell? ⟨w.heap.size, 1, none⟩ = some (Value.string R) := by
        have h1 := Blk.new w 25 [Value.string Fs, Value.string R]
        exact (h1.keep (Fresh.ext hx) (by simp)).cell 1
      obtain ⟨gw, cw', hvw, hkw, hcw, hgw, hcsw⟩ := ho.cells (by rw [HWL.out]; omega)
      rw [HWL.out] at hvw hkw hcsw
      subst hvw
      unfold maxLen at hcw
      have hsrch : Src wr (some ⟨gh, 0, none⟩) 8 (dv h) := by have := own_src (Own.ext HH.out hxw); rw [← H8.out]; exact this
      have hgwn : w.heap.size < gw := by have := Fresh.new hx gw rfl; simp at this; omega
      go_wp2_with (first
        | (at_builtin; refine wpList_app _ rfl (.tmp 113) (.tmp 114) _ _ rfl _ _ i0 _ 1 8 Try.underlying95 Try.underlying95 hi hz0 hz1 hz2 rfl (by decide) _ _ _ rfl (Own.nil _ _ _) _ _ _ (dv h) rfl (by rw [dv_length, H8.out]) hsrch (dv_one _) (by unfold maxLen; omega) (by omega) ?_; intro v2 w2 ho2 hm2)
        | fail)
      have hm2 : Fresh wr w2 v2 := hm2
      have ho2 : OwnW w2 v2 h := by unfold OwnW; rw [H8.out]; simpa using ho2
      obtain ⟨gv, cv, hvv, hkv, hcv, hgv, _⟩ := ho2.cells (by rw [H8.out]; omega)
      rw [H8.out] at hvv hkv
      subst hvv
      unfold maxLen at hcv
      have hgvn : wr.heap.size ≤ gv := Fresh.new hm2 gv rfl
      have hne : gv ≠ gw := by omega
      have how2 : OwnW w2 (.slice (some ⟨gw, 0, none⟩) 64 cw') W := Own.ext ho (Fresh.ext hm2)
      have hbox2 : w2.cell? ⟨w.heap.size, 1, none⟩ = some (Value.string R) := (World.cell?_of_block ((Fresh.ext hm2).block _ (World.block_lt_of_cell? _ _ hbox) (by simp))).trans hbox
      have hxe2 : Ext w w2 := hxw.trans (Fresh.ext hm2)
      have hwr0 : w.heap.size ≤ wr.heap.size := hxw.size
      have hrok := fun n => rounds_ok (s := h) ⟨H8.out, hlt⟩ W n
      have HROK := Lib.hid hrok
      obtain ⟨RD, hRD⟩ : ∃ RD : Nat → List Nat, RD = rounds h W := ⟨_, rfl⟩
      have HRD := Lib.hid hRD
      have hrd0 : RD 0 = h := by rw [hRD]; rfl
      have HRD0 := Lib.hid hrd0
      have HZ0 := Lib.hid (turned_zero h H8.out)
      clear hrok hRD hrd0 hm2 hx ho hsrch hbox
      go_wp2
      obtain ⟨wi, rfl⟩ : ∃ wi : World, wi = wr := ⟨_, rfl⟩
      go_loopw [12] (fun i wr => ∃ k : Nat, k ≤ 64 ∧ i = .int .i64 k ∧ OwnW wr (.slice (some ⟨gv, 0, none⟩) 8 cv) (turned (RD k) k) ∧ OwnW wr (.slice (some ⟨gw, 0, none⟩) 64 cw') W ∧ wr.cell? ⟨w.heap.size, 1, none⟩ = some (Value.string R) ∧ Ext w wr) (fun i _ => 64 - (intOf i).toNat)
      case atStart => exact ⟨0, by omega, rfl, by rw [HRD0.out, HZ0.out]; exact ho2, how2, hbox2, hxe2⟩
      case round =>
        clear ho2 how2 hbox2 hxe2
        obtain ⟨k, hk, rfl, hov, how, cbox, hxe⟩ := hrel
        by_cases hlt64 : k < 64
        · have hok : (RD k).length = 8 ∧ ∀ x ∈ RD k, x < 4294967296 := by rw [HRD.out]; exact HROK.out k
          have htl := turned_length (RD k) k
          obtain ⟨gv', cv', hv', _, _, _, hcv'⟩ := hov.cells (by rw [htl]; omega)
          cases hv'
          obtain ⟨gw', cw2, hw', _, _, _, hcw2⟩ := how.cells (by rw [HWL.out]; omega)
          rw [HWL.out] at hw'
          cases hw'
          have hcell : ∀ j m, j < 8 → (j + k) % 8 = m → wr.cell? ⟨gv, j, none⟩ = some (Value.int .u64 (((RD k).getD m 0 : Nat) : Int)) := fun j m hj hm => by
            rw [(hcv' j (by rw [htl]; exact hj)).1, turned_get _ _ _ hj, hm]
          have ca := hcell ((64 - k) % 8) 0 (by omega) (by omega)
          have ce := hcell ((68 - k) % 8) 4 (by omega) (by omega)
          have cl := hcell ((71 - k) % 8) 7 (by omega) (by omega)
          have cm := hcell ((67 - k) % 8) 3 (by omega) (by omega)
          have cf := hcell ((69 - k) % 8) 5 (by omega) (by omega)
          have cg := hcell ((70 - k) % 8) 6 (by omega) (by omega)
          have cb := hcell ((65 - k) % 8) 1 (by omega) (by omega)
          have cc := hcell ((66 - k) % 8) 2 (by omega) (by omega)
          have fm := (hcv' ((67 - k) % 8) (by rw [htl]; omega)).2
          have cw := (hcw2 k (by rw [HWL.out]; exact hlt64)).1
          have hturn := turned_round (RD k) (stirK.getD k 0) (W.getD k 0) k hok.1 hlt64 _ rfl
          have hrs : RD (k + 1) = roundM (RD k) (stirK.getD k 0) (W.getD k 0) := by rw [HRD.out]; exact rounds_succ h W k
          rw [← hrs] at hturn
          have hK := stirK_lt k
          have hKv := hR.val k hlt64
          have hwl := getD_lt HWLT.out k
          have b0 := getD_lt hok.2 0
          have b1 := getD_lt hok.2 1
          have b2 := getD_lt hok.2 2
          have b3 := getD_lt hok.2 3
          have b4 := getD_lt hok.2 4
          have b5 := getD_lt hok.2 5
          have b6 := getD_lt hok.2 6
          have b7 := getD_lt hok.2 7
          have hAt : ∀ W', Calls Try.prog 47 #[.string R, .int .i64 k] W' fun e w' => e = .returned (.int .u64 ((stirK.getD k 0 : Nat) : Int)) ∧ W' = w' := fun W' => by
            have h1 := Ref_at R k W' (by rw [hR.size]; show 8 * k + 8 ≤ 8 * 64; omega) (by rw [hR.size]; decide) hR.ok
            rwa [hKv] at h1
          generalize (RD k).getD 0 0 = s0 at *
          generalize (RD k).getD 1 0 = s1 at *
          generalize (RD k).getD 2 0 = s2 at *
          generalize (RD k).getD 3 0 = s3 at *
          generalize (RD k).getD 4 0 = s4 at *
          generalize (RD k).getD 5 0 = s5 at *
          generalize (RD k).getD 6 0 = s6 at *
          generalize (RD k).getD 7 0 = s7 at *
          generalize stirK.getD k 0 = K at *
          generalize W.getD k 0 = wk at *
          have HAT := Lib.hid hAt
          have HTURN := Lib.hid hturn
          have HOV := Lib.hid hov
          have HOW := Lib.hid how
          have HXE := Lib.hid hxe
          have HTLN := Lib.hid htl
          have ea : (64 - (k : Int)) % 8 = (((64 - k) % 8 : Nat) : Int) := by omega
          have ee : (68 - (k : Int)) % 8 = (((68 - k) % 8 : Nat) : Int) := by omega
          have el : (71 - (k : Int)) % 8 = (((71 - k) % 8 : Nat) : Int) := by omega
          have em : (67 - (k : Int)) % 8 = (((67 - k) % 8 : Nat) : Int) := by omega
          have ef : (69 - (k : Int)) % 8 = (((69 - k) % 8 : Nat) : Int) := by omega
          have eg : (70 - (k : Int)) % 8 = (((70 - k) % 8 : Nat) : Int) := by omega
          have eb : (65 - (k : Int)) % 8 = (((65 - k) % 8 : Nat) : Int) := by omega
          have ec : (66 - (k : Int)) % 8 = (((66 - k) % 8 : Nat) : Int) := by omega
          have la : (64 - k) % 8 < 8 := Nat.mod_lt _ (by decide)
          have le : (68 - k) % 8 < 8 := Nat.mod_lt _ (by decide)
          have ll : (71 - k) % 8 < 8 := Nat.mod_lt _ (by decide)
          have lm : (67 - k) % 8 < 8 := Nat.mod_lt _ (by decide)
          have lf : (69 - k) % 8 < 8 := Nat.mod_lt _ (by decide)
          have lg : (70 - k) % 8 < 8 := Nat.mod_lt _ (by decide)
          have lb : (65 - k) % 8 < 8 := Nat.mod_lt _ (by decide)
          have lc : (66 - k) % 8 < 8 := Nat.mod_lt _ (by decide)
          have nma : (67 - k) % 8 ≠ (64 - k) % 8 := by omega
          have nml : (67 - k) % 8 ≠ (71 - k) % 8 := by omega
          clear hcell hcv' hcw2 hturn hrs hKv hAt hov how hxe hok htl
          generalize (64 - k) % 8 = ia at *
          generalize (68 - k) % 8 = ie at *
          generalize (71 - k) % 8 = il at *
          generalize (67 - k) % 8 = im at *
          generalize (69 - k) % 8 = jf at *
          generalize (70 - k) % 8 = jg at *
          generalize (65 - k) % 8 = jb at *
          generalize (66 - k) % 8 = jc at *
          obtain ⟨r1, r2, r3, r12, R1, R2, R3, E1, E2⟩ := right3 s4 6 11 25 false b4 (by omega) (by omega) (by omega)
          obtain ⟨t1, t2, t3, t12, T1, T2, T3, D1, D2⟩ := right3 s0 2 13 22 false b0 (by omega) (by omega) (by omega)
          have tl1 := threeM_lt (x := s4) (a := 6) (b := 11) (c := 25) (f := false) b4 (by omega) (by omega) (by omega)
          have tl2 := threeM_lt (x := s0) (a := 2) (b := 13) (c := 22) (f := false) b0 (by omega) (by omega) (by omega)
          have hps := pick_sum s4 s5 s6 b5 b6
          rw [Nat.mod_eq_of_lt b4] at hps
          have hef := (bits_u64 s4 s5 (by omega) (by omega)).1
          have hng := (bits_u64 (4294967295 - s4) s6 (by omega) (by omega)).1
          rw [show ((4294967295 - s4 : Nat) : Int) = 4294967295 - (s4 : Int) by omega] at hng
          have lef : s4 &&& s5 < 4294967296 := and_lt32 b5
          have lng : (4294967295 - s4) &&& s6 < 4294967296 := and_lt32 b6
          generalize s4 &&& s5 = ef' at *
          generalize (4294967295 - s4) &&& s6 = ng' at *
          have m1 := (bits_u64 s0 s1 (by omega) (by omega)).1
          have m2 := (bits_u64 s0 s2 (by omega) (by omega)).1
          have m3 := (bits_u64 s1 s2 (by omega) (by omega)).1
          have x1 : s0 &&& s1 < 4294967296 := and_lt32 b1
          have x2 : s0 &&& s2 < 4294967296 := and_lt32 b2
          have x3 : s1 &&& s2 < 4294967296 := and_lt32 b2
          have hmx := most_xor s0 s1 s2
          generalize s0 &&& s1 = y1 at *
          generalize s0 &&& s2 = y2 at *
          generalize s1 &&& s2 = y3 at *
          have m4 := (bits_u64 y1 y2 (by omega) (by omega)).2
          have x4 := xor_lt32 x1 x2
          generalize y1 ^^^ y2 = y4 at *
          have m5 := (bits_u64 y4 y3 (by omega) (by omega)).2
          have x5 := xor_lt32 x4 x3
          generalize y4 ^^^ y3 = y5 at *
          subst hmx
          generalize threeM s4 6 11 25 false = M1 at *
          generalize threeM s0 2 13 22 false = M2 at *
          generalize mostM s0 s1 s2 = M3 at *
          generalize pickM s4 s5 s6 = M4 at *
          have HPS := Lib.hid hps
          have R1 := Lib.hid R1
          have R2 := Lib.hid R2
          have R3 := Lib.hid R3
          have T1 := Lib.hid T1
          have T2 := Lib.hid T2
          have T3 := Lib.hid T3
          clear hps
          go_wp2
          go_quiet (fail)
          have ca : (wr.drewN nq).cell? _ = _ := ca
          have ce : (wr.drewN nq).cell? _ = _ := ce
          have cl : (wr.drewN nq).cell? _ = _ := cl
          have cm : (wr.drewN nq).cell? _ = _ := cm
          have cf : (wr.drewN nq).cell? _ = _ := cf
          have cg : (wr.drewN nq).cell? _ = _ := cg
          have cb : (wr.drewN nq).cell? _ = _ := cb
          have cc : (wr.drewN nq).cell? _ = _ := cc
          have cbox : (wr.drewN nq).cell? _ = _ := cbox
          have cw : (wr.drewN nq).cell? _ = _ := cw
          have HOV : Hid (OwnW (wr.drewN nq) _ _) := Lib.hid HOV.out
          have HOW : Hid (OwnW (wr.drewN nq) _ _) := Lib.hid HOW.out
          have HXE : Hid (Ext _ (wr.drewN nq)) := Lib.hid (HXE.out.drewN _)
          have fm : (wr.drewN nq).frozen? _ = _ := fm
          generalize wr.drewN nq = wa at ca ce cl cm cf cg cb cc cbox cw HOV HOW HXE fm ⊢
          go_wp2
          go_quiet ((first | (go_at_call_of 56 (Value.int IntKind.i64 6); exact Calls.quiet_of (R1.out _)) | (go_at_call_of 56 (Value.int IntKind.i64 11); exact Calls.quiet_of (R2.out _)) | (go_at_call_of 56 (Value.int IntKind.i64 25); exact Calls.quiet_of (R3.out _))))
          have ca : (wa.drewN nq).cell? _ = _ := ca
          have ce : (wa.drewN nq).cell? _ = _ := ce
          have cl : (wa.drewN nq).cell? _ = _ := cl
          have cm : (wa.drewN nq).cell? _ = _ := cm
          have cf : (wa.drewN nq).cell? _ = _ := cf
          have cg : (wa.drewN nq).cell? _ = _ := cg
          have cb : (wa.drewN nq).cell? _ = _ := cb
          have cc : (wa.drewN nq).cell? _ = _ := cc
          have cbox : (wa.drewN nq).cell? _ = _ := cbox
          have cw : (wa.drewN nq).cell? _ = _ := cw
          have HOV : Hid (OwnW (wa.drewN nq) _ _) := Lib.hid HOV.out
          have HOW : Hid (OwnW (wa.drewN nq) _ _) := Lib.hid HOW.out
          have HXE : Hid (Ext _ (wa.drewN nq)) := Lib.hid (HXE.out.drewN _)
          have fm : (wa.drewN nq).frozen? _ = _ := fm
          generalize wa.drewN nq = wb at ca ce cl cm cf cg cb cc cbox cw HOV HOW HXE fm ⊢
          go_wp2
          go_quiet ((go_at_call 47; exact Calls.quiet_of_same ((HAT.out _).mono fun _ _ h => ⟨h.1, h.2.symm⟩)))
          have ca : (wb.drewN nq).cell? _ = _ := ca
          have ce : (wb.drewN nq).cell? _ = _ := ce
          have cl : (wb.drewN nq).cell? _ = _ := cl
          have cm : (wb.drewN nq).cell? _ = _ := cm
          have cf : (wb.drewN nq).cell? _ = _ := cf
          have cg : (wb.drewN nq).cell? _ = _ := cg
          have cb : (wb.drewN nq).cell? _ = _ := cb
          have cc : (wb.drewN nq).cell? _ = _ := cc
          have cbox : (wb.drewN nq).cell? _ = _ := cbox
          have cw : (wb.drewN nq).cell? _ = _ := cw
          have HOV : Hid (OwnW (wb.drewN nq) _ _) := Lib.hid HOV.out
          have HOW : Hid (OwnW (wb.drewN nq) _ _) := Lib.hid HOW.out
          have HXE : Hid (Ext _ (wb.drewN nq)) := Lib.hid (HXE.out.drewN _)
          have fm : (wb.drewN nq).frozen? _ = _ := fm
          generalize wb.drewN nq = wc at ca ce cl cm cf cg cb cc cbox cw HOV HOW HXE fm ⊢
          go_wp2
          go_quiet (fail)
          have ca : (wc.drewN nq).cell? _ = _ := ca
          have ce : (wc.drewN nq).cell? _ = _ := ce
          have cl : (wc.drewN nq).cell? _ = _ := cl
          have cm : (wc.drewN nq).cell? _ = _ := cm
          have cf : (wc.drewN nq).cell? _ = _ := cf
          have cg : (wc.drewN nq).cell? _ = _ := cg
          have cb : (wc.drewN nq).cell? _ = _ := cb
          have cc : (wc.drewN nq).cell? _ = _ := cc
          have cbox : (wc.drewN nq).cell? _ = _ := cbox
          have cw : (wc.drewN nq).cell? _ = _ := cw
          have HOV : Hid (OwnW (wc.drewN nq) _ _) := Lib.hid HOV.out
          have HOW : Hid (OwnW (wc.drewN nq) _ _) := Lib.hid HOW.out
          have HXE : Hid (Ext _ (wc.drewN nq)) := Lib.hid (HXE.out.drewN _)
          have fm : (wc.drewN nq).frozen? _ = _ := fm
          generalize wc.drewN nq = wd at ca ce cl cm cf cg cb cc cbox cw HOV HOW HXE fm ⊢
          go_wp2
          go_quiet ((first | (go_at_call_of 56 (Value.int IntKind.i64 2); exact Calls.quiet_of (T1.out _)) | (go_at_call_of 56 (Value.int IntKind.i64 13); exact Calls.quiet_of (T2.out _)) | (go_at_call_of 56 (Value.int IntKind.i64 22); exact Calls.quiet_of (T3.out _))))
          have ca : (wd.drewN nq).cell? _ = _ := ca
          have ce : (wd.drewN nq).cell? _ = _ := ce
          have cl : (wd.drewN nq).cell? _ = _ := cl
          have cm : (wd.drewN nq).cell? _ = _ := cm
          have cf : (wd.drewN nq).cell? _ = _ := cf
          have cg : (wd.drewN nq).cell? _ = _ := cg
          have cb : (wd.drewN nq).cell? _ = _ := cb
          have cc : (wd.drewN nq).cell? _ = _ := cc
          have cbox : (wd.drewN nq).cell? _ = _ := cbox
          have cw : (wd.drewN nq).cell? _ = _ := cw
          have HOV : Hid (OwnW (wd.drewN nq) _ _) := Lib.hid HOV.out
          have HOW : Hid (OwnW (wd.drewN nq) _ _) := Lib.hid HOW.out
          have HXE : Hid (Ext _ (wd.drewN nq)) := Lib.hid (HXE.out.drewN _)
          have fm : (wd.drewN nq).frozen? _ = _ := fm
          generalize wd.drewN nq = we at ca ce cl cm cf cg cb cc cbox cw HOV HOW HXE fm ⊢
          go_wp2
          have hval : ((s3 : Int) + ((s7 : Int) + M1 + ((ef' : Int) + ng') + K + wk)) % 4294967296 = (((s3 + (s7 + M1 + M4 + K + wk)) % 4294967296 : Nat) : Int) := by have := HPS.out; omega
          rw [hval]
          have hov3 := HOV.out.store HTLN.out im ((s3 + (s7 + M1 + M4 + K + wk)) % 4294967296)
          have how3 : OwnW (we.setCell ⟨gv, im, none⟩ (Value.int .u64 (((s3 + (s7 + M1 + M4 + K + wk)) % 4294967296 : Nat) : Int))) (.slice (some ⟨gw, 0, none⟩) 64 cw') W := Own.keep HOW.out (only_set im _) (.inr (by simpa [Value.ownBlock] using hne.symm))
          have hxe3 : Ext w (we.setCell ⟨gv, im, none⟩ (Value.int .u64 (((s3 + (s7 + M1 + M4 + K + wk)) % 4294967296 : Nat) : Int))) := HXE.out.setCell (by show w.heap.size ≤ gv; omega) _
          have ca3 : (we.setCell ⟨gv, im, none⟩ (Value.int .u64 (((s3 + (s7 + M1 + M4 + K + wk)) % 4294967296 : Nat) : Int))).cell? ⟨gv, ia, none⟩ = _ := (World.cell?_setCell_other _ _ _ _ (by simpa using nma)).trans ca
          have cbox3 : (we.setCell ⟨gv, im, none⟩ (Value.int .u64 (((s3 + (s7 + M1 + M4 + K + wk)) % 4294967296 : Nat) : Int))).cell? ⟨w.heap.size, 1, none⟩ = _ := (World.cell?_setCell_far _ _ _ _ (by simp; omega)).trans cbox
          have cl3 : (we.setCell ⟨gv, im, none⟩ (Value.int .u64 (((s3 + (s7 + M1 + M4 + K + wk)) % 4294967296 : Nat) : Int))).cell? ⟨gv, il, none⟩ = _ := (World.cell?_setCell_other _ _ _ _ (by simpa using nml)).trans cl
          have fl3 : (we.setCell ⟨gv, im, none⟩ (Value.int .u64 (((s3 + (s7 + M1 + M4 + K + wk)) % 4294967296 : Nat) : Int))).frozen? ⟨gv, il, none⟩ = false := OwnW.fro hov3 (by rw [List.length_set]; exact HTLN.out) il
          clear ca ce cl cm cf cg cb cc cbox cw fm
          have HOV3 := Lib.hid hov3
          have HOW3 := Lib.hid how3
          have HXE3 := Lib.hid hxe3
          clear hov3 how3 hxe3
          generalize we.setCell ⟨gv, im, none⟩ (Value.int .u64 (((s3 + (s7 + M1 + M4 + K + wk)) % 4294967296 : Nat) : Int)) = wf at *
          refine wp_region_draw_tail 25 (by kernel_rfl) (by kernel_rfl) (by kernel_rfl) ?_
          simp only [List.take_succ_cons, List.take_zero, List.drop_succ_cons, List.drop_zero]
          repeat (go_big_quiet_step (fail))
          refine wpQuiet_nil ?_
          rintro _ ⟨nq5, rfl⟩
          go_wp2
          go_roundw
          case rel =>
            have hx5 : Ext w (wf.drewN nq5) := HXE3.out.drewN nq5
            have ho5 : OwnW (wf.drewN nq5) (.slice (some ⟨gv, 0, none⟩) 8 cv) _ := HOV3.out
            have hw5 : OwnW (wf.drewN nq5) (.slice (some ⟨gw, 0, none⟩) 64 cw') W := HOW3.out
            have hb5 : (wf.drewN nq5).cell? ⟨w.heap.size, 1, none⟩ = _ := cbox3
            have hfin : ∀ v : Int, v = (((s7 + M1 + M4 + K + wk + M2 + M3) % 4294967296 : Nat) : Int) → OwnW ((wf.drewN nq5).setCell ⟨gv, il, none⟩ (.int .u64 v)) (.slice (some ⟨gv, 0, none⟩) 8 cv) (turned (RD (k + 1)) (k + 1)) := by
              rintro _ rfl
              have h5 := ho5.store (by rw [List.length_set]; exact HTLN.out) il ((s7 + M1 + M4 + K + wk + M2 + M3) % 4294967296)
              rwa [HTURN.out] at h5
            have hwn : ∀ v, OwnW ((wf.drewN nq5).setCell ⟨gv, il, none⟩ v) (.slice (some ⟨gw, 0, none⟩) 64 cw') W := fun v => Own.keep hw5 (only_set il _) (.inr (by simpa [Value.ownBlock] using hne.symm))
            exact ⟨k + 1, by omega, by go_num, hfin _ (by have := HPS.out; omega), hwn _, (World.cell?_setCell_far _ _ _ _ (by simp; omega)).trans hb5, hx5.setCell (by show w.heap.size ≤ gv; omega) _⟩
          case measure => simp [intOf]; omega
        · obtain rfl : k = 64 := by omega
          have hrl : (RD 64).length = 8 ∧ ∀ x ∈ RD 64, x < 4294967296 := by rw [HRD.out]; exact HROK.out 64
          rw [turned_64 (RD 64) hrl.1] at hov
          have hfin : List.zipWith (fun x y => (x + y) % 4294967296) h (RD 64) = block h b := by rw [HRD.out]; exact HWF.out h 64 rfl
          generalize RD 64 = V at hov hrl hfin
          obtain ⟨gv', cv', hv', _, _, _, hcv'⟩ := hov.cells (by rw [hrl.1]; omega)
          rw [hrl.1] at hv'
          cases hv'
          have hzl : (block h b).length = 8 := by rw [← hfin]; simp [H8.out, hrl.1]
          have hzg : ∀ j, j < 8 → (block h b).getD j 0 = (h.getD j 0 + V.getD j 0) % 4294967296 := by
            intro j hj
            rw [← hfin]
            exact zip_getD _ (by have := H8.out; omega) (by have := hrl.1; omega)
          generalize hZ : block h b = Z at hzl hzg
          have HZ := Lib.hid hZ
          have HZL := Lib.hid hzl
          have HZG := Lib.hid hzg
          have HCV := Lib.hid hcv'
          have HV8 := Lib.hid hrl
          have HXE := Lib.hid hxe
          have HOV := Lib.hid hov
          clear hfin hZ hzl hzg hcv' hrl how cbox hxe hov
          go_wp2
          obtain ⟨wo, rfl⟩ : ∃ wo : World, wo = wr := ⟨_, rfl⟩
          go_loopw [24, 25] (fun vo i wr => ∃ k : Nat, k ≤ 8 ∧ i = .int .i64 k ∧ OwnW wr vo (Z.take k) ∧ Fresh wo wr vo) (fun _ i _ => 8 - (intOf i).toNat)
          case atStart => exact ⟨0, by omega, rfl, Own.nil _ _ _, Moved.refl _ _⟩
          case round =>
            obtain ⟨k, hk, rfl, ho, hfr⟩ := hrel
            by_cases hlt8 : k < 8
            · have hxo : Ext wo wr := Fresh.ext hfr
              have h1 := (HCV.out k (by rw [HV8.out.1]; exact hlt8)).1
              have h2 := (HHC.out k (by rw [H8.out]; exact hlt8)).1
              have c1 : wr.cell? ⟨gv, k, none⟩ = _ := (World.cell?_of_block (hxo.block gv (World.block_lt_of_cell? _ _ h1) (by simp))).trans h1
              have c2 : wr.cell? ⟨gh, k, none⟩ = _ := (World.cell?_of_block ((HXE.out.trans hxo).block gh hhlt (by simp))).trans h2
              have hb1 := getD_lt hlt k
              have hb2 := getD_lt HV8.out.2 k
              have hzk := HZG.out k hlt8
              have hsn := take_snocD Z k (by rw [HZL.out]; exact hlt8)
              have htl : (Z.take k).length = k := by rw [List.length_take, HZL.out]; omega
              have HZK := Lib.hid hzk
              have HSN := Lib.hid hsn
              have HTL := Lib.hid htl
              have k1 : (0 : Int) ≤ (k : Int) := by omega
              have k2 : (k : Int) < 8 := by omega
              clear h1 h2 hzk hsn htl
              generalize h.getD k 0 = p1 at *
              generalize V.getD k 0 = p2 at *
              go_wp2
              refine wp_region_draw_pre [true] 11 (by kernel_rfl) (fun _ _ d _ _ h => by cases d <;> exact h) (by kernel_rfl) (by kernel_rfl) (by kernel_rfl) (by kernel_rfl) (by kernel_rfl) (by kernel_rfl) (by kernel_rfl) (by kernel_rfl) (by kernel_rfl) (by kernel_rfl) ?_
              simp only [pickT, pickF, List.take_succ_cons, List.take_zero, List.drop_succ_cons, List.drop_zero, List.cons_append, List.nil_append]
              repeat (go_big_quiet_step (fail))
              refine wpQuiet_nil ?_
              rintro _ ⟨nq6, rfl⟩
              have ho : OwnW (wr.drewN nq6) u24 (Z.take k) := ho
              have hfr : Fresh wo (wr.drewN nq6) u24 := Moved.post hfr ((Ext.refl wr).drewN _)
              have HFR := Lib.hid hfr
              clear hfr c1 c2 hxo
              generalize wr.drewN nq6 = wd at ho HFR ⊢
              go_wp2_with (first
                | (at_builtin; refine wpList_app _ rfl (.tmp 260) (.tmp 271) _ _ rfl _ _ i0 _ 1 8 Try.underlying95 Try.underlying95 hi hz0 hz1 hz2 rfl (by decide) _ _ _ rfl (Own.ext ho ((Ext.refl _).alloc _)) _ _ _ [Value.int .u64 _] rfl rfl (src_new _ _ _ _) (by simp [Value.oneCell']) (by rw [HTL.out]; unfold maxLen; omega) (by rw [HTL.out]; omega) ?_; intro v2 w2 ho2 hm2)
                | fail)
              go_roundw
              case rel =>
                have hm2 : Moved (wd.alloc _) w2 u24 v2 := hm2
                have hv : ∀ v : Int, v = ((Z.getD k 0 : Nat) : Int) → Own w2 93 1 v2 ((Z.take k).length + 1) (dv (Z.take k) ++ [Value.int .u64 v]) → OwnW w2 v2 (Z.take (k + 1)) := by
                  rintro _ rfl h
                  rw [HSN.out]; exact OwnW.app h
                repeat apply Exists.intro
                refine ⟨?_, rfl⟩
                exact ⟨k + 1, by omega, by go_num, hv _ (by rw [HZK.out]; omega) ho2, HFR.out.trans (Moved.pre ((Ext.refl _).alloc _) hm2)⟩
              case measure => simp [intOf]; omega
            · obtain rfl : k = 8 := by omega
              rw [List.take_of_length_le (by rw [HZL.out]; exact Nat.le_refl _)] at ho
              go_wp2
              go_ret
              exact ⟨_, rfl, by rw [HZ.out]; exact ho, Moved.pre HXE.out hfr⟩
end
section

/-- The words once all but j bytes have been laid. -/
def worn (S : List Nat) (j : Nat) : List Nat := (List.range 8).map fun m => S.getD m 0 / 256 ^ (min 4 (4 * m + 4 - j))
theorem worn_length (S : List Nat) (j : Nat) : (worn S j).length = 8 := by simp [worn]
theorem worn_getD (S : List Nat) (j m : Nat) (h : m < 8) : (worn S j).getD m 0 = S.getD m 0 / 256 ^ (min 4 (4 * m + 4 - j)) := by
  simp [worn, List.getD, List.getElem?_map, List.getElem?_range h]
theorem worn_32 (S : List Nat) (h : S.length = 8) : worn S 32 = S := by
  apply List.ext_getElem
  · rw [worn_length, h]
  · intro i h1 h2
    have h8 : i < 8 := by omega
    have e : min 4 (4 * i + 4 - 32) = 0 := by omega
    simp only [worn, List.getElem_map, List.getElem_range, e, Nat.pow_zero, Nat.div_one]
    simp [List.getD, h2]
theorem worn_step (S : List Nat) (i : Nat) (hi : i < 32) : (worn S (i + 1)).set (i / 4) ((worn S (i + 1)).getD (i / 4) 0 / 256) = worn S i := by
  have hq : i / 4 < 8 := by omega
  rw [worn_getD _ _ _ hq, Nat.div_div_eq_div_mul, ← Nat.pow_succ]
  apply List.ext_getElem
  · rw [List.length_set, worn_length, worn_length]
  · intro m h1 h2
    have h8 : m < 8 := by rw [worn_length] at h2; exact h2
    rw [List.getElem_set]
    by_cases he : i / 4 = m
    · subst he
      rw [if_pos rfl]
      have e : (min 4 (4 * (i / 4) + 4 - (i + 1))).succ = min 4 (4 * (i / 4) + 4 - i) := by omega
      rw [e]
      simp [worn]
    · rw [if_neg he]
      have e : min 4 (4 * m + 4 - (i + 1)) = min 4 (4 * m + 4 - i) := by omega
      simp only [worn, List.getElem_map, List.getElem_range, e]
theorem worn_byte (S : List Nat) (hS : S.length = 8) (i : Nat) (hi : i < 32) : (S.flatMap (be 4)).getD i 0 = UInt8.ofNat ((worn S (i + 1)).getD (i / 4) 0) := by
  rw [worn_getD _ _ _ (by omega)]
  match S, hS with
  | [a, b, c, d, e, f, g, h], _ =>
    have hd : ∀ r q, r < 4 → q < 8 → i = 4 * q + r → min 4 (4 * (i / 4) + 4 - (i + 1)) = 3 - r ∧ i / 4 = q := by intro r q _ _ _; omega
    have hq : i / 4 < 8 := by omega
    have hr : i % 4 < 4 := by omega
    have hi4 : i = 4 * (i / 4) + i % 4 := by omega
    obtain ⟨h1, -⟩ := hd (i % 4) (i / 4) hr hq hi4
    rw [h1]
    generalize hqq : i / 4 = q at *
    generalize hrr : i % 4 = r at *
    subst hi4
    clear h1 hd hi hqq hrr
    rcases q with _ | _ | _ | _ | _ | _ | _ | _ | q <;> first | omega | (rcases r with _ | _ | _ | _ | r <;> first | omega | simp [be, Nat.div_div_eq_div_mul])
theorem laid_down (full : List UInt8) (i : Nat) (hi : i < full.length) : (List.replicate (i + 1) 0 ++ full.drop (i + 1)).set i (full.getD i 0) = List.replicate i 0 ++ full.drop i := by
  rw [List.drop_eq_getElem_cons hi, List.replicate_succ', List.append_assoc, List.set_append]
  simp [List.getD, hi]
end
section
open Go.RowKit

theorem b32_zero : (Try.prog.info? 22).bind (fun i => i.zero.map (·.cells)) = some (bv (List.replicate 32 0)).toArray := by kernel_rfl
theorem b32_size {n : Nat} (h : n = 32) : (Try.prog.info? 22).map (·.size) = some n := by subst h; kernel_rfl
theorem quiet_load_agg {P : Program} {C : World → Prop} {o : Oper} {a : Act} {K : Act → Prop} (ty : TypeId) (x : Operand) (ho : o.op = .load ty x) (ad : Addr) (hx : a.eval x = .pointer (some ad)) (cs : List Value) (d : TypeDesc) (hu : P.underlying ty = some d) (hd : isAggD d = true) (hi : (P.info? ty).map (·.size) = some cs.length) (hc : ∀ w, C w → Cells w ad cs) (hk : K (a.put o.dst (.agg cs.toArray))) : o.quiet P a C K :=
  ⟨_, fun w hw => by 
    unfold Oper.quietAt execOp
    simp only [ho, hx, Instr.loadAt, Instr.sureAddr, Sem.run_bind, Sem.run_pure, Result.andThen_ok, run_load_agg w ty ad cs d hu hd hi (hc w hw)]
    exact ⟨rfl, rfl⟩, hk⟩
theorem first_step : ∀ k, k < 8 → (firstK.take k ++ List.replicate (8 - k) 0).set k (firstK.getD k 0) = firstK.take (k + 1) ++ List.replicate (8 - (k + 1)) 0 ∧ (firstK.take k ++ List.replicate (8 - k) 0).length = 8 := by decide
theorem fill_eq (p : List UInt8) : p ++ [128] ++ List.replicate (63 - (p.length + 8) % 64) 0 = p ++ fill p.length := by simp [fill]

set_option maxRecDepth 100000 in
set_option maxHeartbeats 8000000 in
theorem Ref_Of (Fs R : ByteArray) (vp : Value) (p : List UInt8) (w : World) (F : Fp) (hFs : HexTab Fs firstK) (hR : HexTab R stirK) (hp : (Ty.sl .u8).holds w F [vp] p) (hF : ∀ b, F b → b < w.heap.size) (hb : p.length < 1099511627776) :
    Calls Try.prog 38 #[.agg #[.string Fs, .string R], vp] w fun e w' => e = .returned (.agg (bv (sha p)).toArray) ∧ Ext w w' := by
  obtain ⟨i0, hi, hz0, hz1, hz2⟩ := info_parts u8_info
  obtain ⟨i1, hi1, hy0, hy1, hy2⟩ := info_parts u64_info
  have hp0 := hp
  obtain ⟨A, c, xs, hv, hlc, hc, hA, hcell, hall⟩ := hp
  cases hv
  unfold maxLen at hc
  have hz := b32_zero
  have hzl : (bv (List.replicate 32 0)).length = 32 := by simp
  generalize hZ : bv (List.replicate 32 0) = Z at hz hzl
  have HZL := Lib.hid hzl
  have HZ := Lib.hid hZ
  have hx0 : Ext w ((w.alloc (.cells #[.string Fs, .string R] 25)).alloc (.cells Z.toArray 22)) := ((Ext.refl w).alloc _).alloc _
  have hsrc := src_bytes (hx0.holds hF hp0)
  have HX0 := Lib.hid hx0
  clear hzl hZ hall hcell hA hx0
  go_enter Try.func38, Try.ntmps38
  go_wp2_with (first
    | (refine wpList_alloc _ rfl 22 rfl _ hz ?_)
    | (at_builtin; refine wpList_app _ rfl (.tmp 13) (.tmp 14) _ _ rfl _ _ i0 _ 1 1 Try.underlying55 Try.underlying55 hi hz0 hz1 hz2 rfl (by decide) _ _ _ rfl (Own.nil _ _ _) _ _ _ (bv p) rfl (by simp) hsrc (bv_one _) (by unfold maxLen; omega) (by omega) ?_; intro v1 w1 ho1 hm1)
    | (at_builtin; refine wpList_app _ rfl (.tmp 15) (.tmp 16) _ _ rfl _ _ i0 _ 1 1 Try.underlying55 Try.underlying55 hi hz0 hz1 hz2 rfl (by decide) _ _ _ rfl (Own.ext ho1 ((Ext.refl _).alloc _)) _ _ _ [Value.int .u8 128] rfl rfl (src_new _ _ _ _) (by simp [Value.oneCell']) (by unfold maxLen; omega) (by omega) ?_; intro v2 w2 ho2 hm2)
    | fail)
  have hm1 : Fresh ((w.alloc (.cells #[.string Fs, .string R] 25)).alloc (.cells Z.toArray 22)) w1 v1 := hm1
  have hm2 : Fresh ((w.alloc (.cells #[.string Fs, .string R] 25)).alloc (.cells Z.toArray 22)) w2 v2 := hm1.trans (Moved.pre ((Ext.refl _).alloc _) hm2)
  have ho2 : OwnB w2 v2 (p ++ [128]) := by
    rw [Nat.zero_add, List.nil_append] at ho2
    exact OwnB.app ho2
  obtain ⟨W0, hW0⟩ : ∃ W0, W0 = ((w.alloc (.cells #[.string Fs, .string R] 25)).alloc (.cells Z.toArray 22)) := ⟨_, rfl⟩
  rw [← hW0] at hm2
  have HX0 : Hid (Ext w W0) := Lib.hid (by rw [hW0]; exact HX0.out)
  have hbox0 : Blk W0 w.heap.size 25 [Value.string Fs, Value.string R] := by rw [hW0]; exact (Blk.new w 25 [Value.string Fs, Value.string R]).keep ((Ext.refl _).alloc _) (by simp)
  have hres0 : Blk W0 (w.heap.size + 1) 22 Z := by rw [hW0]; have := Blk.new (w.alloc (.cells #[.string Fs, .string R] 25)) 22 Z; simpa using this
  have hsz0 : W0.heap.size = w.heap.size + 1 + 1 := by rw [hW0]; simp
  have HBOX := Lib.hid hbox0
  have HRES := Lib.hid hres0
  have HSZ := Lib.hid hsz0
  clear hm1 ho1 hW0 hsrc hbox0 hres0 hsz0
  obtain ⟨J, hJ⟩ : ∃ J, J = 63 - (p.length + 8) % 64 := ⟨_, rfl⟩
  have hJ63 : J ≤ 63 := by omega
  have HJ := Lib.hid hJ
  clear hJ
  go_wp2
  go_loopw [5] (fun vb wr => ∃ j : Nat, j ≤ J ∧ OwnB wr vb (p ++ [128] ++ List.replicate j 0) ∧ Fresh W0 wr vb) (fun vb _ => p.length + 1 + J - slLen vb)
  case atStart => exact ⟨0, by omega, by simpa using ho2, hm2⟩
  case round =>
    clear ho2 hm2
    obtain ⟨j, hj, ho, hfr⟩ := hrel
    have hbl : (p ++ [128] ++ List.replicate j 0).length = p.length + 1 + j := by simp; omega
    have hstep : p ++ [128] ++ List.replicate (j + 1) 0 = (p ++ [128] ++ List.replicate j 0) ++ [0] := by rw [List.replicate_succ', List.append_assoc (p ++ [128])]
    have HST := Lib.hid hstep
    clear hstep
    by_cases hlt : j < J
    · generalize hB : p ++ [128] ++ List.replicate j 0 = B at *
      obtain ⟨A5, c5, rfl⟩ := ho.form
      have ht : ((B.length : Int) % 64 != 56) = true := by have := HJ.out; simp; omega
      have HBL := Lib.hid hbl
      clear hbl hB
      go_wp2_with (first
        | (at_builtin; refine wpList_app _ rfl (.tmp 22) (.tmp 23) _ _ rfl _ _ i0 _ 1 1 Try.underlying55 Try.underlying55 hi hz0 hz1 hz2 rfl (by decide) _ _ _ rfl (Own.ext ho ((Ext.refl _).alloc _)) _ _ _ [Value.int .u8 0] rfl rfl (src_new _ _ _ _) (by simp [Value.oneCell']) (by rw [HBL.out]; unfold maxLen; omega) (by rw [HBL.out]; omega) ?_; intro v3 w3 ho3 hm3; obtain ⟨A6, c6, hv6⟩ := ho3.form; subst hv6)
        | fail)
      go_roundw
      case rel =>
        have hm3 : Moved (wr.alloc _) w3 (.slice A5 B.length c5) (.slice A6 (B.length + 1) c6) := hm3
        exact ⟨j + 1, by omega, by rw [HST.out]; exact OwnB.app ho3, hfr.trans (Moved.pre ((Ext.refl _).alloc _) hm3)⟩
      case measure => have := HBL.out; simp [slLen]; omega
    · obtain rfl : j = J := by omega
      have hB2 : p ++ [128] ++ List.replicate j 0 = p ++ fill p.length := by rw [HJ.out]; exact fill_eq p
      rw [hB2] at ho hbl
      generalize hB : p ++ fill p.length = B at *
      have HB := Lib.hid hB
      obtain ⟨A5, c5, rfl⟩ := ho.form
      have ht : ((B.length : Int) % 64 != 56) = false := by have := HJ.out; simp; omega
      have HBL := Lib.hid hbl
      clear hbl hB2 hB HST
      go_wp2_with (first
        | (at_make; refine wpList_make_full _ rfl _ _ _ rfl 0 _ i0 _ 1 Try.underlying55 hi hz0 hz1 .i64 .i64 8 8 8 rfl rfl rfl rfl (by rw [hz2]; omega) (by unfold maxLen; omega) (Nat.zero_le _) ?_; intro w4 ho4 hg4)
        | fail)
      have hg4 : Ext wr w4 := hg4
      obtain ⟨N, hN⟩ : ∃ N, N = p.length * 8 := ⟨_, rfl⟩
      have hNlt : N < 18446744073709551616 := by omega
      have ho4 : Own w4 5 1 (.slice (some ⟨wr.heap.size, 0, none⟩) 8 8) 8 (bv (beFill 8 8 N)) := by
        have e : bv (beFill 8 8 N) = (madeCells (Value.int .u8 0).cells (8 * 1)).toList := by
          rw [show (Value.int .u8 0).cells = #[.int .u8 0] from rfl, toList_madeCells_one, Nat.mul_one]
          simp [beFill, bv, be_length]
        rw [e]; exact ho4
      obtain ⟨wo, rfl⟩ : ∃ wo : World, wo = wr := ⟨_, rfl⟩
      have HFR := Lib.hid hfr
      have HOB := Lib.hid ho
      have HN := Lib.hid hN
      have HNL := Lib.hid hNlt
      have HZ8 := Lib.hid (show w.heap.size + 1 + 1 ≤ wo.heap.size by have := (Fresh.ext hfr).size; have := HSZ.out; omega)
      clear hfr ho hN hNlt
      go_loopw [6, 8] (fun nn i wq => ∃ j : Nat, j ≤ 8 ∧ i = .int .i64 ((j : Int) - 1) ∧ nn = .int .u64 ((N / 256 ^ (8 - j) : Nat) : Int) ∧ Own wq 5 1 (.slice (some ⟨wo.heap.size, 0, none⟩) 8 8) 8 (bv (beFill 8 j N)) ∧ Ext wo wq) (fun _ i _ => (intOf i + 1).toNat)
      case atStart => exact ⟨8, by omega, rfl, by rw [HN.out]; simp, ho4, hg4⟩
      case round =>
        clear ho4 hg4
        obtain ⟨j, hj, rfl, rfl, hor, hxr⟩ := hrel
        by_cases hlt : 0 < j
        · have hcell0 := World.ownsRow.cellAt hor (j - 1) (by omega)
          obtain ⟨u0, hu0⟩ : ∃ u0, (bv (beFill 8 j N))[j - 1]? = some u0 := ⟨_, List.getElem?_eq_getElem (by rw [bv_length, beFill_length _ _ _ hj]; omega)⟩
          rw [hu0] at hcell0
          have hfz := World.ownsRow.frozenAt hor (j - 1)
          have hst := (World.ownsRow.stored hor (j - 1) (.int .u8 ((UInt8.ofNat (N / 256 ^ (8 - j))).toNat : Int))).1
          have hm : ((N / 256 ^ (8 - j) : Nat) : Int) % 256 = ((UInt8.ofNat (N / 256 ^ (8 - j))).toNat : Int) := by rw [UInt8.toNat_ofNat']; omega
          have hlow : N / 256 ^ (8 - j) < 18446744073709551616 := Nat.lt_of_le_of_lt (Nat.div_le_self _ _) HNL.out
          have hq := be_rest N 8 j hlt hj
          rw [← bv_set, beFill_step 8 j N hlt hj] at hst
          generalize hM : N / 256 ^ (8 - j) = M at *
          have HM := Lib.hid hm
          have HQ := Lib.hid hq
          have HST := Lib.hid hst
          have HXR := Lib.hid hxr
          clear hm hq hM hu0 hst hor hxr
          go_wp2
          go_roundw
          case rel =>
            rw [HM.out]
            exact ⟨j - 1, by omega, by rw [show ((j - 1 : Nat) : Int) = (j : Int) - 1 by omega], by rw [← HQ.out, Int.natCast_ediv]; rfl, HST.out, HXR.out.setCell (Nat.le_refl _) _⟩
          case measure => simp [intOf]; omega
        · obtain rfl : j = 0 := by omega
          have hbe : beFill 8 0 N = be 8 N := by simp [beFill]
          rw [hbe, HN.out] at hor
          have hBP : B ++ be 8 (p.length * 8) = padded p := by rw [← HB.out]; rfl
          have HBP := Lib.hid hBP
          have ho := Own.ext HOB.out hxr
          clear hbe hBP
          go_wp2_with (first
            | (at_builtin; refine wpList_app _ rfl (.tmp 42) (.tmp 43) _ _ rfl _ _ i0 _ 1 1 Try.underlying55 Try.underlying55 hi hz0 hz1 hz2 rfl (by decide) _ _ _ rfl ho _ _ _ (bv (be 8 (p.length * 8))) rfl (by simp [be_length]) (own_src hor) (bv_one _) (by rw [HBL.out]; unfold maxLen; omega) (by rw [HBL.out]; omega) ?_; intro v5 w5 ho5 hm5; obtain ⟨A7, c7, hv7⟩ := ho5.form; subst hv7; have hm5 : Moved wr w5 (.slice A5 B.length c5) (.slice A7 (B.length + 8) c7) := hm5)
            | (at_make; refine wpList_make_full _ rfl _ _ _ rfl 0 _ i1 _ 1 Try.underlying95 hi1 hy0 hy1 .i64 .i64 8 8 8 rfl rfl rfl rfl (by rw [hy2]; omega) (by unfold maxLen; omega) (Nat.zero_le _) ?_; intro w6 ho6 hg6; have hg6 : Ext w5 w6 := hg6)
            | fail)
          have hbl2 : (padded p).length = B.length + 8 := by rw [← HBP.out]; simp [be_length]
          have ho5 : OwnB w5 (.slice A7 (padded p).length c7) (padded p) := by rw [hbl2, ← HBP.out]; exact OwnB.app (by simpa [be_length] using ho5)
          have hm5 : Fresh W0 w5 (.slice A7 (padded p).length c7) := by rw [hbl2]; exact HFR.out.trans (Moved.pre hxr hm5)
          have hl64 : (padded p).length = 64 * ((padded p).length / 64) := by have := padded_length p; omega
          have hln : 0 < (padded p).length / 64 := by have := padded_length p; omega
          have hPl : (padded p).length ≤ 1099511627776 + 200 := by have := padded_length p; omega
          rw [← hbl2]
          have hox6 : OwnW w6 (.slice (some ⟨w5.heap.size, 0, none⟩) 8 8) (firstK.take 0 ++ List.replicate (8 - 0) 0) := by
            have e : dv (List.replicate 8 0) = (madeCells (Value.int .u64 0).cells (8 * 1)).toList := by
              rw [show (Value.int .u64 0).cells = #[.int .u64 0] from rfl, toList_madeCells_one, Nat.mul_one]
              simp [dv]
            show Own w6 _ 1 _ 8 (dv (List.replicate 8 0))
            rw [e]; exact ho6
          have hx5 : Ext W0 w5 := Fresh.ext hm5
          have hbox5 := HBOX.out.keep hx5 (by simp)
          have hres5 := HRES.out.keep hx5 (by simp)
          have hxw5 : Ext w w5 := HX0.out.trans hx5
          have hlt5 : w.heap.size + 1 < w5.heap.size := hres5.lt
          generalize hP : padded p = P at *
          have HP := Lib.hid hP
          have HO5 := Lib.hid ho5
          have HR5 := Lib.hid hres5
          have HB5 := Lib.hid hbox5
          have HX5 := Lib.hid hxw5
          have HL64 := Lib.hid hl64
          have HPL := Lib.hid hPl
          have HLN := Lib.hid hln
          clear hP ho5 hres5 hbox5 hxw5 hl64 hPl hln hx5 hm5 ho6 HFR HOB HBOX HRES HN HNL HBP HB HBL hbl2
          go_loopw [10] (fun i wq => ∃ k : Nat, k ≤ 8 ∧ i = .int .i64 k ∧ OwnW wq (.slice (some ⟨w5.heap.size, 0, none⟩) 8 8) (firstK.take k ++ List.replicate (8 - k) 0) ∧ Ext w5 wq) (fun i _ => 8 - (intOf i).toNat)
          case atStart => exact ⟨0, by omega, rfl, hox6, hg6⟩
          case round =>
            clear hox6 hg6
            obtain ⟨k, hk, rfl, hov, hxe⟩ := hrel
            by_cases hlt : k < 8
            · obtain ⟨hst, hln8⟩ := first_step k hlt
              obtain ⟨gv, cv, hv, _, _, _, hcv⟩ := hov.cells (by rw [hln8]; omega)
              rw [hln8] at hv
              cases hv
              obtain ⟨cm, fm⟩ := hcv k (by rw [hln8]; exact hlt)
              have cbox : wr.cell? ⟨w.heap.size, 0, none⟩ = some (Value.string Fs) := (HB5.out.keep hxe (by simp)).cell 0
              have hov2 := hov.store hln8 k (firstK.getD k 0)
              rw [hst] at hov2
              have hAt : ∀ W', Calls Try.prog 47 #[.string Fs, .int .i64 k] W' fun e w' => e = .returned (.int .u64 ((firstK.getD k 0 : Nat) : Int)) ∧ W' = w' := fun W' => by
                have h1 := Ref_at Fs k W' (by rw [hFs.size]; show 8 * k + 8 ≤ 8 * 8; omega) (by rw [hFs.size]; decide) hFs.ok
                rwa [hFs.val k hlt] at h1
              generalize firstK.getD k 0 = fk at *
              have HAT := Lib.hid hAt
              have HOV2 := Lib.hid hov2
              have HXE := Lib.hid hxe
              have k1 : (0 : Int) ≤ (k : Int) := by omega
              have k2 : (k : Int) < 8 := by omega
              clear hst hln8 hcv hov hAt hov2 hxe
              go_wp2_with fail
              refine (HAT.out _).mono ?_
              rintro e w7 ⟨rfl, rfl⟩
              go_wp2
              go_roundw
              case rel => exact ⟨k + 1, by omega, by go_num, HOV2.out, HXE.out.setCell (Nat.le_refl _) _⟩
              case measure => simp [intOf]; omega
            · obtain rfl : k = 8 := by omega
              have hov : OwnW wr (.slice (some ⟨w5.heap.size, 0, none⟩) 8 8) firstK := hov
              obtain ⟨wz, rfl⟩ : ∃ wz : World, wz = wr := ⟨_, rfl⟩
              have hbk : ∀ {w' : World}, Ext w5 w' → Cells w' ⟨w.heap.size, 0, none⟩ [Value.string Fs, Value.string R] := fun hx => (HB5.out.keep hx (by simp)).cells
              have HBK : Hid (∀ w' : World, Ext w5 w' → Cells w' ⟨w.heap.size, 0, none⟩ [Value.string Fs, Value.string R]) := Lib.hid (fun _ h => hbk h)
              have HXE := Lib.hid hxe
              have hbs : ∀ {n : Nat}, n = 2 → (Try.prog.info? 25).map (·.size) = some n := by rintro _ rfl; kernel_rfl
              have hPd := HO5.out.holds
              have hPlt := HO5.out.lt
              generalize hF5 : (fun b => (Value.slice A7 P.length c7).ownBlock = some b) = F5 at hPd
              have hF5l : ∀ b, F5 b → b < w5.heap.size := by rw [← hF5]; exact hPlt
              have HPD := Lib.hid hPd
              have HFL := Lib.hid hF5l
              obtain ⟨M, hM⟩ : ∃ M, M = P.length / 64 := ⟨_, rfl⟩
              have HM := Lib.hid hM
              clear hbk hPd hPlt hF5 hF5l hM
              go_wp2
              go_loopw [5, 9] (fun vb vh wq => ∃ k : Nat, k ≤ M ∧ slLen vb = P.length - 64 * k ∧ (Ty.sl .u8).holds w5 F5 [vb] (P.drop (64 * k)) ∧ OwnW wq vh (blocks P k) ∧ (∀ g, vh.ownBlock = some g → w5.heap.size ≤ g) ∧ Ext w5 wq) (fun vb _ _ => slLen vb)
              case atStart => exact ⟨0, by omega, by simp [slLen], HPD.out, hov, (by intro g hg; cases hg; exact Nat.le_refl _), HXE.out⟩
              case round =>
                clear hov hxe HXE
                obtain ⟨k, hk, hsl, hpd, hov, hfro, hxe⟩ := hrel
                obtain ⟨A8, c8, xs8, hv8, hlc8, hc8, hA8, hcell8, hall8⟩ := id hpd
                cases hv8
                have hdl : (P.drop (64 * k)).length = P.length - 64 * k := List.length_drop
                by_cases hlt : k < M
                · have hPk : 64 * k + 64 ≤ P.length := by have := HM.out; have := HL64.out; omega
                  have hdd := holds_take (A := A8) (c := c8) (n := 64) hpd (by rw [hdl]; omega)
                  have hdr := holds_drop (A := A8) (c := c8) (n := 64) hpd (by rw [hdl]; omega)
                  have h64 : ((P.drop (64 * k)).take 64).length = 64 := by rw [List.length_take, hdl]; omega
                  have hbo := blocks_ok P k
                  rw [List.drop_drop] at hdr
                  generalize (P.drop (64 * k)).length = n at *
                  have hgt : 64 ≤ n := by omega
                  have HXE := Lib.hid hxe
                  have HPQ := Lib.hid hdd
                  have HDR := Lib.hid hdr
                  have HDL := Lib.hid hdl
                  have H64 := Lib.hid h64
                  have HOV := Lib.hid hov
                  have HBO := Lib.hid hbo
                  clear hxe hdd hdr h64 hov hbo hpd hcell8 hall8
                  go_wp2
                  refine wp_region_draw_tail 4 (by kernel_rfl) (by kernel_rfl) (by kernel_rfl) ?_
                  simp only [List.take_succ_cons, List.take_zero, List.drop_succ_cons, List.drop_zero]
                  go_big_quiet_want
                  refine quiet_load_agg 25 (.tmp 2) rfl _ rfl [Value.string Fs, Value.string R] _ Try.underlying25 rfl (hbs rfl) (by rintro _ ⟨n, rfl⟩; exact HBK.out _ (HXE.out.drewN n)) ?_
                  simp only [Act.put, List.setIfInBounds_toArray, List.set_cons_succ, List.set_cons_zero]
                  go_big_quiet_on
                  repeat (go_big_quiet_step (fail))
                  refine wpQuiet_nil ?_
                  rintro _ ⟨nq, rfl⟩
                  have hxd : Ext w5 (wr.drewN nq) := HXE.out.drewN nq
                  have hovd : OwnW (wr.drewN nq) u9 (blocks P k) := Own.ext HOV.out ((Ext.refl wr).drewN nq)
                  have hpqd := hxd.holds HFL.out HPQ.out
                  have hFd : ∀ b, F5 b → b < (wr.drewN nq).heap.size := fun b hb => Nat.lt_of_lt_of_le (HFL.out b hb) hxd.size
                  have HXD := Lib.hid hxd
                  have HOVD := Lib.hid hovd
                  have HPQD := Lib.hid hpqd
                  have HFD := Lib.hid hFd
                  clear hxd hovd hpqd hFd HPQ HOV HXE
                  generalize wr.drewN nq = wd at *
                  go_wp2_with fail
                  refine (Ref_block Fs R _ _ (blocks P k) _ wd F5 hR HOVD.out HBO.out.1 HBO.out.2 HPQD.out HFD.out H64.out).mono ?_
                  rintro e w7 ⟨v7, rfl, ho7, hx7⟩
                  have ho7 : OwnW w7 v7 (blocks P (k + 1)) := ho7
                  have hf7 : ∀ g, v7.ownBlock = some g → w5.heap.size ≤ g := fun g hg => Nat.le_trans HXD.out.size (Fresh.new hx7 g hg)
                  have hx7 : Ext w5 w7 := HXD.out.trans (Fresh.ext hx7)
                  have HF7 := Lib.hid hf7
                  have HO7 := Lib.hid ho7
                  have HX7 := Lib.hid hx7
                  clear ho7 hx7 hf7 hfro
                  have hdr : ∀ A9 n9 c9, A9 = (if c8 = 64 then A8 else A8.map (·.add 64)) → n9 = n - 64 → c9 = c8 - 64 → (Ty.sl .u8).holds w5 F5 [.slice A9 n9 c9] (P.drop (64 * (k + 1))) := by
                    rintro _ _ _ rfl rfl rfl
                    have := HDR.out
                    rwa [show 64 * k + 64 = 64 * (k + 1) by omega] at this
                  have HDR := Lib.hid hdr
                  clear hdr
                  by_cases hc64 : c8 = 64
                  · subst hc64
                    go_wp2
                    go_roundw
                    case rel =>
                      repeat apply Exists.intro
                      refine ⟨?_, rfl⟩
                      exact ⟨k + 1, by omega, by simp [slLen]; omega, HDR.out _ _ _ (by simp) (by omega) (by omega), HO7.out, HF7.out, HX7.out⟩
                    case measure => simp [slLen]; omega
                  · go_wp2
                    go_roundw
                    case rel =>
                      repeat apply Exists.intro
                      refine ⟨?_, rfl⟩
                      exact ⟨k + 1, by omega, by simp [slLen]; omega, HDR.out _ _ _ (by rw [if_neg hc64]; first | rfl | (congr 1; funext x; exact (add_pos x (by decide)).symm) | congr 1) (by omega) (by omega), HO7.out, HF7.out, HX7.out⟩
                    case measure => simp [slLen]; omega
                · obtain rfl : k = M := by omega
                  have hPM : P.length = 64 * k := by rw [HM.out]; exact HL64.out
                  have hbo := blocks_ok P k
                  have hfin : (blocks P k).flatMap (be 4) = sha p := by rw [sha, HP.out, ← HM.out]
                  generalize blocks P k = S at hov hbo hfin
                  generalize (P.drop (64 * k)).length = n at *
                  obtain rfl : n = 0 := by omega
                  have hrs := HR5.out.keep hxe (by simp)
                  have hxw := HX5.out.trans hxe
                  have hov : OwnW wr u9 (worn S 32) := by rw [worn_32 S hbo.1]; exact hov
                  obtain ⟨gv, cv, hu9, -, -, hgv, -⟩ := hov.cells (by rw [worn_length]; omega)
                  rw [worn_length] at hu9
                  subst hu9
                  have hgv5 := hfro gv rfl
                  have hdz := Blk.new wr 22 Z
                  have hrs := hrs.keep ((Ext.refl wr).alloc (.cells Z.toArray 22)) (by simp)
                  have hxw := hxw.alloc (.cells Z.toArray 22)
                  have hov := Own.ext hov ((Ext.refl wr).alloc (.cells Z.toArray 22))
                  have hfl : (sha p).length = 32 := by rw [← hfin, flat4_length, hbo.1]
                  have hsb : ∀ i, i < 32 → (sha p).getD i 0 = UInt8.ofNat ((worn S (i + 1)).getD (i / 4) 0) := by rw [← hfin]; exact worn_byte S hbo.1
                  have hldn := laid_down (sha p)
                  rw [hfl] at hldn
                  generalize hD : sha p = D at *
                  have HD := Lib.hid hD
                  have HRS := Lib.hid hrs
                  have HXW := Lib.hid hxw
                  have HOV := Lib.hid hov
                  have HDZ := Lib.hid hdz
                  have HSB := Lib.hid hsb
                  have HSL := Lib.hid hbo.2
                  have HLD := Lib.hid hldn
                  have HFL32 := Lib.hid hfl
                  have hdz : (wr.alloc (.cells Z.toArray 22)).heap.size = wr.heap.size + 1 := by simp
                  have hbz : w.heap.size + 1 < wr.heap.size := by have := HR5.out.lt; have := hxe.size; omega
                  clear hD hrs hxw hov hdz hsb hldn hfl hbo hfin hxe hpd hcell8 hall8 hsl hdl hPM
                  go_wp2_with (first
                    | (refine wpList_alloc _ rfl 22 rfl _ hz ?_)
                    | fail)
                  generalize hDB : wr.heap.size = DB at *
                  go_loopw [12] (fun i wq => ∃ j : Nat, j ≤ 32 ∧ i = .int .i64 ((j : Int) - 1) ∧ OwnW wq (.slice (some ⟨gv, 0, none⟩) 8 cv) (worn S j) ∧ Blk wq DB 22 (bv (List.replicate j 0 ++ D.drop j)) ∧ Blk wq (w.heap.size + 1) 22 Z ∧ Ext w wq) (fun i _ => (intOf i + 1).toNat)
                  case atStart => exact ⟨32, by omega, rfl, HOV.out, by rw [List.drop_eq_nil_of_le (by rw [HFL32.out]; omega), List.append_nil, HZ.out]; exact HDZ.out, HRS.out, HXW.out⟩
                  case round =>
                    clear HOV HDZ HRS HXW
                    obtain ⟨j, hj, rfl, hov, hdz, hrs, hxw⟩ := hrel
                    by_cases hlt : 0 < j
                    · obtain ⟨i, rfl⟩ : ∃ i, j = i + 1 := ⟨j - 1, by omega⟩
                      have hq : i / 4 < 8 := by omega
                      obtain ⟨gv', cv', hv', -, -, -, hcv⟩ := hov.cells (by rw [worn_length]; omega)
                      rw [worn_length] at hv'
                      cases hv'
                      obtain ⟨ch, fh⟩ := hcv (i / 4) (by rw [worn_length]; exact hq)
                      have hl32 : (bv (List.replicate (i + 1) 0 ++ D.drop (i + 1))).length = 32 := by rw [bv_length, List.length_append, List.length_replicate, List.length_drop, HFL32.out]; omega
                      obtain ⟨u0, hu0⟩ : ∃ u0, (bv (List.replicate (i + 1) 0 ++ D.drop (i + 1)))[i]? = some u0 := ⟨_, List.getElem?_eq_getElem (by rw [hl32]; omega)⟩
                      have cd := (hdz.cell i).trans hu0
                      have fd := hdz.free i
                      have hb := HSB.out i (by omega)
                      have hld := HLD.out i (by omega)
                      have hws := worn_step S i (by omega)
                      have hds := hdz.set i (.int .u8 ((D.getD i 0).toNat : Int))
                      rw [← bv_set, hld] at hds
                      have hne : gv ≠ DB := by omega
                      have hne2 : gv ≠ w.heap.size + 1 := by omega
                      have hne3 : DB ≠ w.heap.size + 1 := by omega
                      have hm : (((worn S (i + 1)).getD (i / 4) 0 : Nat) : Int) % 256 = ((D.getD i 0).toNat : Int) := by rw [hb, UInt8.toNat_ofNat']; omega
                      generalize hX : (worn S (i + 1)).getD (i / 4) 0 = X at *
                      have c26 : ∀ u, (wr.setCell ⟨DB, i, none⟩ u).cell? ⟨gv, i / 4, none⟩ = some (Value.int .u64 (X : Int)) := fun u => (World.cell?_setCell_far _ _ _ _ (by simpa using fun h => hne h.symm)).trans ch
                      have f26 : ∀ u, (wr.setCell ⟨DB, i, none⟩ u).frozen? ⟨gv, i / 4, none⟩ = false := fun u => OwnW.fro (Own.keep hov (only_set i u) (.inr (by simpa [Value.ownBlock] using hne))) (worn_length _ _) _
                      have hX64 : X < 18446744073709551616 := by
                        have h1 := getD_lt HSL.out (i / 4)
                        have h2 : X ≤ S.getD (i / 4) 0 := by rw [← hX, worn_getD _ _ _ hq]; exact Nat.div_le_self _ _
                        omega
                      have kw : IntKind.u64.wrap ((X : Int) / 256) = ((X / 256 : Nat) : Int) := by simp only [IntKind.wrap_u64]; omega
                      have HM := Lib.hid hm
                      have HDS := Lib.hid hds
                      have HWS := Lib.hid hws
                      have HOV := Lib.hid hov
                      have HRS := Lib.hid hrs
                      have HXW := Lib.hid hxw
                      have hXl : (0 : Int) ≤ X := by omega
                      clear hm hds hws hov hdz hrs hxw hb hld hu0 hl32 hcv
                      clear hX
                      go_wp2
                      go_roundw
                      case rel =>
                        rw [HM.out]
                        have h1 : OwnW (wr.setCell ⟨DB, i, none⟩ (Value.int .u8 ((D.getD i 0).toNat : Int))) (.slice (some ⟨gv, 0, none⟩) 8 cv) (worn S (i + 1)) := Own.keep HOV.out (only_set i _) (.inr (by simpa [Value.ownBlock] using hne))
                        have h2 := h1.store (worn_length _ _) (i / 4) (X / 256)
                        rw [HWS.out] at h2
                        exact ⟨i, by omega, by go_num, h2, HDS.out.keep (only_set (i / 4) _) (by simpa using fun h => hne h.symm), (HRS.out.keep (only_set i _) (by simpa using fun h => hne3 h.symm)).keep (only_set (i / 4) _) (by simpa using fun h => hne2 h.symm), (HXW.out.setCell (by show w.heap.size ≤ DB; omega) _).setCell (by show w.heap.size ≤ gv; omega) _⟩
                      case measure => simp [intOf]
                    · obtain rfl : j = 0 := by omega
                      rw [List.replicate_zero, List.nil_append, List.drop_zero] at hdz
                      have hsl : (bv D).length = 32 := by rw [bv_length]; exact HFL32.out
                      have hso := bv_one D
                      have hzl := HZL.out
                      generalize hR' : bv D = RR at hdz hsl hso
                      have HR' := Lib.hid hR'
                      clear hR'
                      have hcd := hdz.cells
                      have hrw : wr.heap[w.heap.size + 1]? = some (.cells Z.toArray 22 (0, 0)) := hrs
                      have HSL2 := Lib.hid hsl
                      have HXW := Lib.hid hxw
                      clear hsl hxw hzl hov
                      go_wp2_with (first
                        | (refine wpList_load_agg _ rfl 22 (.tmp 11) rfl _ rfl RR _ Try.underlying22 rfl (b32_size HSL2.out) hcd ?_)
                        | (refine wpList_store_row _ rfl 22 (.tmp 4) (.tmp 90) rfl (w.heap.size + 1) rfl Z RR _ rfl hrw (b32_size HSL2.out) (by rw [HSL2.out, HZL.out]) hso ?_)
                        | fail)
                      have hc : Cells (wr.setRow (w.heap.size + 1) RR.toArray) ⟨w.heap.size + 1, 0, none⟩ RR := Blk.cells (t := 22) (setRow_at hrw)
                      (try simp only [Exit.inBlock, Exit.then])
                      refine bodyPost_ret (results_agg rfl _ _ _ _ _ rfl Try.underlying22 rfl (b32_size HSL2.out) hc) rfl ?_
                      exact ⟨by rw [HD.out, HR'.out], setRow_grown HXW.out _ _ (by omega)⟩
end
section
open Go.RowKit

/-- The standard's first words, and what each round adds, in base sixteen. -/
def tabFirst : ByteArray := { data := #[54, 97, 48, 57, 101, 54, 54, 55, 98, 98, 54, 55, 97, 101, 56, 53, 51, 99, 54, 101, 102, 51, 55, 50, 97, 53, 52, 102, 102, 53, 51, 97, 53, 49, 48, 101, 53, 50, 55, 102, 57, 98, 48, 53, 54, 56, 56, 99, 49, 102, 56, 51, 100, 57, 97, 98, 53, 98, 101, 48, 99, 100, 49, 57] }
def tabRounds : ByteArray := { data := ((([52, 50, 56, 97, 50, 102, 57, 56, 55, 49, 51, 55, 52, 52, 57, 49, 98, 53, 99, 48, 102, 98, 99, 102, 101, 57, 98, 53, 100, 98, 97, 53, 51, 57, 53, 54, 99, 50, 53, 98, 53, 57, 102, 49, 49, 49, 102, 49, 57, 50, 51, 102, 56, 50, 97, 52, 97, 98, 49, 99, 53, 101, 100, 53].append [100, 56, 48, 55, 97, 97, 57, 56, 49, 50, 56, 51, 53, 98, 48, 49, 50, 52, 51, 49, 56, 53, 98, 101, 53, 53, 48, 99, 55, 100, 99, 51, 55, 50, 98, 101, 53, 100, 55, 52, 56, 48, 100, 101, 98, 49, 102, 101, 57, 98, 100, 99, 48, 54, 97, 55, 99, 49, 57, 98, 102, 49, 55, 52]).append ([101, 52, 57, 98, 54, 57, 99, 49, 101, 102, 98, 101, 52, 55, 56, 54, 48, 102, 99, 49, 57, 100, 99, 54, 50, 52, 48, 99, 97, 49, 99, 99, 50, 100, 101, 57, 50, 99, 54, 102, 52, 97, 55, 52, 56, 52, 97, 97, 53, 99, 98, 48, 97, 57, 100, 99, 55, 54, 102, 57, 56, 56, 100, 97].append [57, 56, 51, 101, 53, 49, 53, 50, 97, 56, 51, 49, 99, 54, 54, 100, 98, 48, 48, 51, 50, 55, 99, 56, 98, 102, 53, 57, 55, 102, 99, 55, 99, 54, 101, 48, 48, 98, 102, 51, 100, 53, 97, 55, 57, 49, 52, 55, 48, 54, 99, 97, 54, 51, 53, 49, 49, 52, 50, 57, 50, 57, 54, 55])).append (([50, 55, 98, 55, 48, 97, 56, 53, 50, 101, 49, 98, 50, 49, 51, 56, 52, 100, 50, 99, 54, 100, 102, 99, 53, 51, 51, 56, 48, 100, 49, 51, 54, 53, 48, 97, 55, 51, 53, 52, 55, 54, 54, 97, 48, 97, 98, 98, 56, 49, 99, 50, 99, 57, 50, 101, 57, 50, 55, 50, 50, 99, 56, 53].append [97, 50, 98, 102, 101, 56, 97, 49, 97, 56, 49, 97, 54, 54, 52, 98, 99, 50, 52, 98, 56, 98, 55, 48, 99, 55, 54, 99, 53, 49, 97, 51, 100, 49, 57, 50, 101, 56, 49, 57, 100, 54, 57, 57, 48, 54, 50, 52, 102, 52, 48, 101, 51, 53, 56, 53, 49, 48, 54, 97, 97, 48, 55, 48]).append ([49, 57, 97, 52, 99, 49, 49, 54, 49, 101, 51, 55, 54, 99, 48, 56, 50, 55, 52, 56, 55, 55, 52, 99, 51, 52, 98, 48, 98, 99, 98, 53, 51, 57, 49, 99, 48, 99, 98, 51, 52, 101, 100, 56, 97, 97, 52, 97, 53, 98, 57, 99, 99, 97, 52, 102, 54, 56, 50, 101, 54, 102, 102, 51].append [55, 52, 56, 102, 56, 50, 101, 101, 55, 56, 97, 53, 54, 51, 54, 102, 56, 52, 99, 56, 55, 56, 49, 52, 56, 99, 99, 55, 48, 50, 48, 56, 57, 48, 98, 101, 102, 102, 102, 97, 97, 52, 53, 48, 54, 99, 101, 98, 98, 101, 102, 57, 97, 51, 102, 55, 99, 54, 55, 49, 55, 56, 102, 50]))).toArray }
theorem tab_first : HexTab tabFirst firstK := ⟨by decide +kernel, by decide +kernel, by decide +kernel⟩
theorem tab_rounds : HexTab tabRounds stirK := ⟨by decide +kernel, by decide +kernel, by decide +kernel⟩
theorem tables_zero : (Try.prog.info? 25).bind (fun i => i.zero.map (·.cells)) = some [Value.string ⟨#[]⟩, Value.string ⟨#[]⟩].toArray := by kernel_rfl

set_option maxRecDepth 100000 in
set_option maxHeartbeats 1000000 in
theorem Ref_Make (w : World) : Calls Try.prog 8 #[] w fun e w' => e = .returned (.agg #[.string tabFirst, .string tabRounds]) ∧ Ext w w' := by
  go_enter Try.func8, Try.ntmps8
  go_wp2_with (first
    | (refine wpList_alloc _ rfl 25 rfl _ tables_zero ?_)
    | (refine wpList_build (.inl rfl) 25 _ rfl (.agg [Value.string tabFirst, Value.string tabRounds].toArray) (by kernel_rfl) ?_)
    | (refine wpList_store_new _ rfl 25 (.tmp 0) (.tmp 1) rfl rfl [Value.string ⟨#[]⟩, Value.string ⟨#[]⟩] [Value.string tabFirst, Value.string tabRounds] _ rfl (by kernel_rfl) rfl (by intro u hu; simp at hu; rcases hu with rfl | rfl <;> rfl) ?_)
    | fail)
  have hc : Cells (w.alloc (.cells [Value.string tabFirst, Value.string tabRounds].toArray 25)) ⟨w.heap.size, 0, none⟩ [Value.string tabFirst, Value.string tabRounds] := by have := Cells.of_block (heap_alloc_new w (.cells [Value.string tabFirst, Value.string tabRounds].toArray 25)); simpa using this
  (try simp only [Exit.inBlock, Exit.then])
  refine bodyPost_ret (results_agg rfl _ _ _ _ _ rfl Try.underlying25 rfl (by kernel_rfl) hc) rfl ?_
  exact ⟨rfl, (Ext.refl w).alloc _⟩
end
section
open Go.RowKit

theorem four_bytes (n : Nat) (a b c d : Int) (h1 : a = ((n / 16777216 : Nat) : Int) % 256) (h2 : b = ((n / 65536 : Nat) : Int) % 256) (h3 : c = ((n / 256 : Nat) : Int) % 256) (h4 : d = (n : Int) % 256) :
    [Value.int .u8 a, Value.int .u8 b, Value.int .u8 c, Value.int .u8 d] = bv (be 4 n) := by
  subst h1 h2 h3 h4
  simp only [be, bv, List.map_cons, List.map_nil, UInt8.toNat_ofNat', Nat.reducePow, Nat.div_one]
  simp only [Int.natCast_emod]
  rfl

theorem four_list (n : Nat) : bv (be 4 n) = [Value.int .u8 ((n : Int) / 16777216 % 256), Value.int .u8 ((n : Int) / 65536 % 256), Value.int .u8 ((n : Int) / 256 % 256), Value.int .u8 ((n : Int) % 256)] := (four_bytes n _ _ _ _ (by omega) (by omega) (by omega) (by omega)).symm
set_option maxRecDepth 100000 in
set_option maxHeartbeats 1000000 in
theorem Ref_Text (d : UInt8) (v : Value) (ps : List (List UInt8)) (w : World) (F : Fp) (hp : (Ty.sl (.sl .u8)).holds w F [v] ps) (hF : ∀ b, F b → b < w.heap.size) (hb : (ps.flatMap blob).length < 1099511627776) :
    Calls Try.prog 46 #[.int .u8 d.toNat, v] w fun e w' => ∃ v', e = .returned v' ∧ OwnB w' v' (textM d ps) ∧ Fresh w w' v' := by
  obtain ⟨i0, hi, hz0, hz1, hz2⟩ := info_parts u8_info
  obtain ⟨A, c, xs, hv, hlc, hc, hA, hcell, hall⟩ := hp
  cases hv
  unfold maxLen at hc
  obtain ⟨lb, hlb⟩ : ∃ lb : UInt8, lb = UInt8.ofNat ps.length := ⟨_, rfl⟩
  have hlb1 : (ps.length : Int) % 256 = (lb.toNat : Int) := by rw [hlb, UInt8.toNat_ofNat']; omega
  have HLB := Lib.hid hlb
  clear hlb
  go_enter Try.func46, Try.ntmps46
  go_wp2
  have hst : OwnB (w.alloc (.cells #[Value.int .u8 (d.toNat : Int), Value.int .u8 (lb.toNat : Int)] 5)) (.slice (some ⟨w.heap.size, 0, none⟩) 2 2) ([d, lb] ++ (ps.take 0).flatMap blob) := own_lit (cs := bv [d, lb]) rfl rfl (by simp [maxLen])
  have hfr : Fresh w (w.alloc (.cells #[Value.int .u8 (d.toNat : Int), Value.int .u8 (lb.toNat : Int)] 5)) (.slice (some ⟨w.heap.size, 0, none⟩) 2 2) := ⟨((Ext.refl w).alloc _).any _, .inr (by intro g hg; cases hg; exact Nat.le_refl _)⟩
  clear hlb1
  go_loopw [5, 6] (fun vb i wr => ∃ k : Nat, k ≤ ps.length ∧ i = .int .i64 k ∧ OwnB wr vb ([d, lb] ++ (ps.take k).flatMap blob) ∧ Fresh w wr vb) (fun _ i _ => ps.length - (intOf i).toNat)
  case atStart => exact ⟨0, by omega, rfl, hst, hfr⟩
  case round =>
    clear hst hfr
    obtain ⟨k, hk, rfl, ho, hfr⟩ := hrel
    by_cases hlt : k < ps.length
    · have hx : Ext w wr := Fresh.ext hfr
      obtain ⟨ad, rfl, hf, hcells⟩ := hcell (by rintro rfl; simp at hlt)
      obtain ⟨y, hy, hyh⟩ := AllH.sl_at hall hlt
      have hcx := (hcells.keep (hx.same hF _ hf)) k _ hy
      have HYW := Lib.hid hyh
      have HYC := Lib.hid hy
      obtain ⟨A1, c1, xs1, hv1, hlc1, hc1, _⟩ := hyh
      cases hv1
      unfold maxLen at hc1
      have hbd := flat_len_step blob ps k hlt
      have hbl : (blob ps[k]).length = 4 + ps[k].length := by simp [blob, be_length]
      have hstep := flat_step blob ps k hlt
      rw [hbl] at hbd
      generalize hB : [d, lb] ++ (ps.take k).flatMap blob = B at *
      have hBl : B.length = 2 + ((ps.take k).flatMap blob).length := by rw [← hB]; simp; omega
      have hnew : [d, lb] ++ (ps.take (k + 1)).flatMap blob = (B ++ be 4 ps[k].length) ++ ps[k] := by rw [hstep, ← hB]; simp [blob]
      have HNEW := Lib.hid hnew
      clear hbl hstep hy hnew hB
      generalize hpk : ps[k] = p at *
      clear hpk
      have HBL := Lib.hid hBl
      have hB40 : B.length + 4 + p.length < 1099511627790 := by omega
      have q1 : (0 : Int) ≤ (p.length : Int) := by omega
      clear hBl
      go_wp2_with (first
        | (at_builtin; refine wpList_app _ rfl (.tmp 24) (.tmp 36) _ _ rfl _ _ i0 _ 1 1 Try.underlying55 Try.underlying55 hi hz0 hz1 hz2 rfl (by decide) _ _ _ rfl (Own.ext ho ((Ext.refl _).alloc _)) _ _ _ [Value.int .u8 _, Value.int .u8 _, Value.int .u8 _, Value.int .u8 _] rfl rfl (src_new _ _ _ _) (by simp [Value.oneCell']) (by unfold maxLen; omega) (by omega) ?_; intro v3 w3 ho3 hm3; have hfr3 : Fresh w w3 v3 := hfr.trans (Moved.pre ((Ext.refl _).alloc _) hm3); have hcx3 := (hcells.keep ((Fresh.ext hfr3).same hF _ hf)) k _ HYC.out; have ho3 : OwnB w3 v3 (B ++ be 4 p.length) := OwnB.app (by rw [be_length, four_list]; exact ho3); have hbl3 : (B ++ be 4 p.length).length = B.length + 4 := by simp [be_length])
        | (at_builtin; refine wpList_app _ rfl (.tmp 38) (.tmp 42) _ _ rfl _ _ i0 _ 1 1 Try.underlying55 Try.underlying55 hi hz0 hz1 hz2 rfl (by decide) _ _ _ rfl ho3 _ _ _ (bv p) rfl (by simp) (src_bytes ((Fresh.ext hfr3).holds hF HYW.out)) (bv_one _) (by rw [hbl3]; unfold maxLen; omega) (by rw [hbl3]; omega) ?_; intro v4 w4 ho4 hm4)
        | fail)
      go_roundw
      case rel =>
        exact ⟨k + 1, by omega, by go_num, by rw [HNEW.out]; exact OwnB.app ho4, hfr3.trans hm4⟩
      case measure => simp [intOf]; omega
    · obtain rfl : k = ps.length := by omega
      go_wp2
      go_ret
      refine ⟨_, rfl, ?_, hfr⟩
      have e : [d, lb] ++ (ps.take ps.length).flatMap blob = textM d ps := by rw [List.take_length, HLB.out]; rfl
      rw [← e]; exact ho
end
section
open Go.RowKit

theorem step_load_agg {P : Program} {ops : Array Oper} {w : World} {o : Oper} {a : Act} {K : Act → World → Prop} {Q : Exit → Act → World → Prop} {E : Prop} (hgd : o.guard = none) (ty : TypeId) (x : Operand) (ho : o.op = .load ty x)
    (ad : Addr) (hx : a.eval x = .pointer (some ad)) (cs : List Value) (d : TypeDesc) (hu : P.underlying ty = some d) (hd : isAggD d = true) (hi : (P.info? ty).map (·.size) = some cs.length) (hc : Cells w ad cs)
    (h : K (a.put o.dst (.agg cs.toArray)) w) : if Region.wanted o (yielded ops a.tmps) = true then Oper.wp P o a w K Q else E := by
  have hw : Region.wanted o (yielded ops a.tmps) = true := by simp [Region.wanted, hgd]
  rw [if_pos hw]
  unfold Oper.wp execOp
  simp only [ho, hx, Instr.loadAt, Instr.sureAddr, Sem.run_bind, Sem.run_pure, Result.andThen_ok, run_load_agg w ty ad cs d hu hd hi hc]
  exact h
theorem blk_there {w : World} {g : Nat} {t : TypeId} {old : List Value} (h : Blk w g t old) {n : Nat} (hn : n = old.length) : w.there g 0 n := by
  subst hn
  intro j hj
  rw [Nat.zero_add, h.cell j, h.free j]
  exact ⟨by simp [hj], rfl⟩
theorem setCells_row {w : World} {g : Nat} {t : TypeId} {old : List Value} (h : Blk w g t old) {cs : List Value} (hl : cs.length = old.length) (hi : (Try.prog.info? 22).map (·.size) = some cs.length) (h1 : ∀ u ∈ cs, u.oneCell' = true) : w.setCells g 0 cs = w.setRow g cs.toArray := by
  have a := run_storeVar_mid (P := Try.prog) w g 0 22 cs.toArray (blk_there h (by simpa using hl)) (by simpa using hi) (by simpa using h1)
  have b : (storeVar 22 ⟨g, 0, none⟩ (.agg cs.toArray)).run Try.prog w = .ok () (w.setRow g cs.toArray) := by
    obtain ⟨i, hi', hs⟩ := Option.map_eq_some_iff.1 hi
    simp only [storeVar, sizeOf, typeInfo, Sem.run_bind, run_program, Result.andThen_ok, hi', Sem.run_pure, hs, Value.cells, List.size_toArray, ne_eq, not_true, if_false, run_store_row w g t old cs h hl h1]
  rw [a] at b
  simpa using b

set_option maxRecDepth 100000 in
set_option maxHeartbeats 1000000 in
theorem Ref_For (Fs R : ByteArray) (d : UInt8) (v : Value) (ps : List (List UInt8)) (w : World) (F : Fp) (hFs : HexTab Fs firstK) (hR : HexTab R stirK) (hp : (Ty.sl (.sl .u8)).holds w F [v] ps) (hF : ∀ b, F b → b < w.heap.size) (hb : (ps.flatMap blob).length < 1099511627000) :
    Calls Try.prog 35 #[.agg #[.string Fs, .string R], .int .u8 d.toNat, v] w fun e w' => e = .returned (.agg (bv (sha (textM d ps))).toArray) ∧ Ext w w' := by
  have hz := b32_zero
  have hzl : (bv (List.replicate 32 0)).length = 32 := by simp
  generalize bv (List.replicate 32 0) = Z at hz hzl
  have hbs : ∀ {n : Nat}, n = 2 → (Try.prog.info? 25).map (·.size) = some n := by rintro _ rfl; kernel_rfl
  have hx0 : Ext w ((w.alloc (.cells #[.string Fs, .string R] 25)).alloc (.cells Z.toArray 22)) := ((Ext.refl w).alloc _).alloc _
  have hbox0 : Blk ((w.alloc (.cells #[.string Fs, .string R] 25)).alloc (.cells Z.toArray 22)) w.heap.size 25 [Value.string Fs, Value.string R] := (Blk.new w 25 [Value.string Fs, Value.string R]).keep ((Ext.refl _).alloc _) (by simp)
  have hres0 : Blk ((w.alloc (.cells #[.string Fs, .string R] 25)).alloc (.cells Z.toArray 22)) (w.heap.size + 1) 22 Z := by have := Blk.new (w.alloc (.cells #[.string Fs, .string R] 25)) 22 Z; simpa using this
  have htl : (textM d ps).length < 1099511627776 := by simp only [textM, List.length_cons]; omega
  have hsl : (bv (sha (textM d ps))).length = 32 := by rw [bv_length, sha_length]
  have HP := Lib.hid hp
  have HZL := Lib.hid hzl
  clear hp hzl
  go_enter Try.func35, Try.ntmps35
  go_wp2_with (first
    | (refine wpList_alloc _ rfl 22 rfl _ hz ?_)
    | fail)
  generalize ((w.alloc (.cells #[.string Fs, .string R] 25)).alloc (.cells Z.toArray 22)) = W0 at *
  have hT : ∀ W', Ext W0 W' → Calls Try.prog 46 #[.int .u8 d.toNat, v] W' fun e w' => ∃ v', e = .returned v' ∧ OwnB w' v' (textM d ps) ∧ Ext W' w' := fun W' hx =>
    (Ref_Text d v ps W' F ((hx0.trans hx).holds hF HP.out) (fun b hb => Nat.lt_of_lt_of_le (hF b hb) (hx0.trans hx).size) (by omega)).mono (by rintro e w' ⟨v', rfl, h1, h2⟩; exact ⟨v', rfl, h1, Fresh.ext h2⟩)
  have HT := Lib.hid hT
  have HBOX := Lib.hid hbox0
  have HRES := Lib.hid hres0
  have HX0 := Lib.hid hx0
  have HSL := Lib.hid hsl
  have hso := bv_one (sha (textM d ps))
  clear hT hbox0 hres0 hx0 hsl hz
  have hS : ∀ w' : World, W0.grownBy w' (some (w.heap.size + 1)) → w'.cell? ⟨w.heap.size, 0, none⟩ = some (Value.string Fs) ∧ w'.cell? ⟨w.heap.size, 1, none⟩ = some (Value.string R) := fun w' h => ⟨(HBOX.out.keep h (by simp)).cell 0, (HBOX.out.keep h (by simp)).cell 1⟩
  have HS := Lib.hid hS
  clear hS
  have hzl2 : (bv (sha (textM d ps))).length = Z.length := by rw [HSL.out, HZL.out]
  have hi32 : (Try.prog.info? 22).map (·.size) = some (bv (sha (textM d ps))).length := b32_size HSL.out
  go_region_held_law (fun w' => w'.cell? ⟨w.heap.size, 0, none⟩ = some (Value.string Fs) ∧ w'.cell? ⟨w.heap.size, 1, none⟩ = some (Value.string R))
    ((refine HS.out _ ?_; first | exact (Ext.drew (Ext.refl _)).any _ | exact (Ext.trans (Ext.drew (Ext.refl _)) (by assumption)).any _ | exact ((Ext.trans (Ext.drew (Ext.refl _)) (by assumption)).trans (by assumption)).any _ | (rw [setCells_row (by assumption) (by assumption) (by assumption) hso]; exact grown_then (Ext.any (by assumption) (some (w.heap.size + 1))) (setRow_only _) (.inl rfl)))) (first
    | (go_at_call 46; refine (HT.out _ (Ext.drew (Ext.refl _))).mono ?_; rintro e W1 ⟨vt, rfl, hot, hxt⟩)
    | (go_at_call 38; refine (Ref_Of Fs R _ (textM d ps) _ _ hFs hR (OwnB.holds (by assumption)) (OwnB.lt (by assumption)) htl).mono ?_; rintro e W2 ⟨rfl, hx2⟩; have hx3 := (Ext.drew (Ext.refl _)).trans (hxt.trans hx2); have hrs2 := HRES.out.keep hx3 (by simp); have hth := blk_there hrs2 (hzl2); have hin := hi32))
  rw [setCells_row (by assumption) (by assumption) (by assumption) hso]
  have hc : Cells (W2.setRow (w.heap.size + 1) (bv (sha (textM d ps))).toArray) ⟨w.heap.size + 1, 0, none⟩ (bv (sha (textM d ps))) := Blk.cells (t := 22) (setRow_at hrs2)
  go_wp2_with fail
  (try simp only [Exit.inBlock, Exit.then])
  refine bodyPost_ret (results_agg rfl _ _ _ _ _ rfl Try.underlying22 rfl hi32 hc) rfl ?_
  exact ⟨rfl, setRow_grown (HX0.out.trans hx3) _ _ (by omega)⟩
end
end Go.Proofs.Ytfoomnibfibfnaa

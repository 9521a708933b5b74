/- Walks and plain laws, put together in build order. Conditions: what each of them names. -/
import Derived.Test.YtfoomnibfibfnaaWLampBytes10
set_option linter.unusedVariables false
set_option linter.unusedSimpArgs false
set_option linter.unnecessarySimpa false
namespace Go.Proofs.Ytfoomnibfibfnaa
section
open Go.RowKit

/-- Piece k, its first j bytes laid. -/
def halfAt (C Z : List Value) (P1 P2 : List UInt8) (k j : Nat) : List Value := putAt (putAt (mixAt C Z k) (k * 16) (bv (P1.take j))) (512 + k * 16) (bv (P2.take j))
/-- .. and one more of the open one. -/
def halfAt1 (C Z : List Value) (P1 P2 : List UInt8) (k j : Nat) : List Value := putAt (putAt (mixAt C Z k) (k * 16) (bv (P1.take (j + 1)))) (512 + k * 16) (bv (P2.take j))
theorem put_more {M : List Value} {off : Nat} {P : List UInt8} {j : Nat} (hj : j < P.length) (hl : off + j < M.length) : (putAt M off (bv (P.take j))).set (off + j) (.int .u8 ((P.getD j 0).toNat : Int)) = putAt M off (bv (P.take (j + 1))) := by
  have h1 : (bv (P.take j)).length = j := by rw [bv_length, List.length_take]; omega
  have h2 : (bv (P.take (j + 1))).length = j + 1 := by rw [bv_length, List.length_take]; omega
  have e : P.take (j + 1) = P.take j ++ [P.getD j 0] := by rw [List.take_add_one]; simp [List.getD, hj]
  unfold putAt
  rw [h1, h2, e, bv_append, List.append_assoc, List.set_append_right _ _ (by rw [List.length_take]; omega), List.length_take, Nat.min_eq_left (by omega), Nat.add_sub_cancel_left, List.set_append_right _ _ (by omega), h1, Nat.sub_self, List.drop_eq_getElem_cons (show off + j < M.length by omega), List.set_cons_zero]
  simp [bv, List.append_assoc]
  rfl
theorem putAt_set {M : List Value} {o2 i : Nat} {c : List Value} (v : Value) (h : i < o2) (hl : o2 + c.length ≤ M.length) : (putAt M o2 c).set i v = putAt (M.set i v) o2 c := by
  unfold putAt
  rw [List.append_assoc, List.set_append_left _ _ (by rw [List.length_take]; omega), List.take_set, List.drop_set_of_lt (by omega), List.append_assoc]
theorem putAt_nil (M : List Value) (o : Nat) : putAt M o (bv []) = M := by unfold putAt; simp [bv]
set_option maxRecDepth 100000 in
set_option maxHeartbeats 8000000 in
theorem RTake {w : World} {g : Nat} {F : Fp} {s : InS} (h : RIn w g F s) :
    Calls Try.prog 26 #[.pointer (some ⟨g, 0, none⟩)] w fun e w' => e = .returned (.agg (bv (takeS s)).toArray) ∧ RIn w' g F (stT s 32) ∧ w.grownBy w' (some g) := by
  obtain ⟨Z, hz, hzl⟩ : ∃ Z : List Value, (Try.prog.info? 38).bind (fun i => i.zero.map (·.cells)) = some Z.toArray ∧ Z.length = 1024 := ⟨_, rsig_zero, List.length_replicate⟩
  obtain ⟨ZD, hzd, hzdl⟩ : ∃ ZD : List Value, (Try.prog.info? 22).bind (fun i => i.zero.map (·.cells)) = some ZD.toArray ∧ ZD.length = 32 := ⟨_, arr_zero, by simp⟩
  have hgl := h.lt
  have HFB : Hid (∀ b, F b → b < w.heap.size) := Lib.hid fun b hb => (h.fp b hb).1
  have hC : (bv (takeS s)).length = 1024 := by rw [bv_length, takeS_length]
  have hone := bv_one (takeS s)
  have hop := fun k (h : k < 32) => take_open s h
  have hot := fun k (h : k < 32) => take_other s h
  have hb2 : Blk ((w.alloc (.cells Z.toArray 38)).alloc (.cells Z.toArray 38)) w.heap.size 38 Z := (Blk.new _ _ _).keep ((Ext.refl _).alloc _) (by simp)
  have hb3 : Blk ((w.alloc (.cells Z.toArray 38)).alloc (.cells Z.toArray 38)) (w.heap.size + 1) 38 Z := Blk.fresh (by simp) _ _
  have hx0 : Ext w ((w.alloc (.cells Z.toArray 38)).alloc (.cells Z.toArray 38)) := ((Ext.refl w).alloc _).alloc _
  have hin := h.keep hx0 (by simp) (fun b _ => by simp)
  have hg0 : w.grownBy ((w.alloc (.cells Z.toArray 38)).alloc (.cells Z.toArray 38)) (some g) := hx0.any _
  generalize bv (takeS s) = C at *
  have HB2 := Lib.hid hb2
  have HB3 := Lib.hid hb3
  have HIN := Lib.hid hin
  have HG0 := Lib.hid hg0
  have HCL := Lib.hid hC
  have HZL := Lib.hid hzl
  have HZDL := Lib.hid hzdl
  have HOP := Lib.hid hop
  have HOT := Lib.hid hot
  have HGL := Lib.hid hgl
  clear hb2 hb3 hx0 hin hg0 hC hzl hzdl hop hot hgl h
  go_enter Try.func26, Try.ntmps26
  go_wp2_with (first
    | (refine wpList_alloc _ rfl 38 rfl _ hz ?_)
    | fail)
  go_loopw [4, 5, 6] (fun i p r wr => ∃ k : Nat, k ≤ 32 ∧ i = .int .i64 k ∧ w.grownBy wr (some g) ∧ RIn wr g F (stT s k) ∧ Blk wr w.heap.size 38 Z ∧ Blk wr (w.heap.size + 1) 38 (mixAt C Z k)) (fun i _ _ _ => 32 - (intOf i).toNat)
  case atStart => exact ⟨0, by omega, rfl, HG0.out, HIN.out, HB2.out, by rw [mixAt_zero C Z HCL.out HZL.out]; exact HB3.out⟩
  case round =>
    clear HG0 HIN HB2 HB3
    obtain ⟨k, hk, rfl, hg, hin, hb2, hb3⟩ := hrel
    obtain ⟨wo, hwo⟩ : ∃ wo, wo = wr := ⟨_, rfl⟩
    by_cases hlt : k < 32
    · subst hwo
      have hst := mixAt_step C Z HCL.out HZL.out k hlt
      rw [HOP.out k hlt, HOT.out k hlt] at hst
      have hdo := bv_one (sumM (stT s k)).1
      have hdl : (bv (sumM (stT s k)).1).length = 32 := by rw [bv_length, sumM_length]
      have hx1 : ∀ j, j < 16 → (bv (sumM (stT s k)).1)[j]? = some (.int .u8 (((takeO s k).getD j 0).toNat : Int)) := fun j hj => by
        have := sumM_length (stT s k)
        simp [takeO, bv, List.getD, List.getElem?_take, hj, show j < (sumM (stT s k)).1.length by omega]
      have hx2 : ∀ j, j < 16 → (bv (sumM (stT s k)).1)[16 + j]? = some (.int .u8 (((takeT s k).getD j 0).toNat : Int)) := fun j hj => by
        have := sumM_length (stT s k)
        simp [takeT, bv, List.getD, List.getElem?_drop, show 16 + j < (sumM (stT s k)).1.length by omega]
      have hp1 := takeO_length s k
      have hp2 := takeT_length s k
      have hsm := RSum hin
      have hs1 : (sumM (stT s k)).2 = stT s (k + 1) := rfl
      rw [hs1] at hsm
      generalize takeO s k = P1 at *
      generalize takeT s k = P2 at *
      generalize bv (sumM (stT s k)).1 = DD at *
      have HST := Lib.hid hst
      have HDL := Lib.hid hdl
      have HX1A := Lib.hid hx1
      have HX2A := Lib.hid hx2
      have HP1 := Lib.hid hp1
      have HP2 := Lib.hid hp2
      have HSM := Lib.hid hsm
      have HG := Lib.hid hg
      have HB2 := Lib.hid hb2
      have HB3 := Lib.hid hb3
      clear hst hdl hx1 hx2 hp1 hp2 hsm hg hb2 hb3 hin hs1
      go_wp2_with fail
      refine HSM.out.mono ?_
      rintro e w1 ⟨rfl, hin1, hg1⟩
      have hxd : Ext w1 (w1.alloc (.cells DD.toArray 22)) := (Ext.refl w1).alloc _
      have HIN1 := Lib.hid (hin1.keep hxd (by simp) (fun b _ => by simp))
      have HG1 : Hid (w.grownBy (w1.alloc (.cells DD.toArray 22)) (some g)) := Lib.hid (grown_then (grown_then HG.out hg1 (.inl rfl)) (hxd.any _) (.inl rfl))
      have HB21 := Lib.hid ((HB2.out.keep hg1 (by have := HGL.out; simp; omega)).keep hxd (by simp))
      have hb31 := HB3.out.keep hg1 (by have := HGL.out; simp; omega)
      have HB31 := Lib.hid (hb31.keep hxd (by simp))
      have HBD : Hid (Blk (w1.alloc (.cells DD.toArray 22)) w1.heap.size 22 DD) := Lib.hid (Blk.new _ _ _)
      have HLT3 : Hid (w.heap.size + 1 < w1.heap.size) := Lib.hid hb31.lt
      clear hin1 hg1 hxd hb31
      go_wp2_with (first
        | (refine wpList_alloc _ rfl 22 rfl _ hzd ?_)
        | (refine wpList_store_new _ rfl 22 (.tmp 5) (.tmp 12) rfl rfl ZD DD _ rfl (arr_size HDL.out) (by rw [HDL.out, HZDL.out]) hdo ?_)
        | fail)
      generalize w1.alloc (.cells DD.toArray 22) = V at *
      have hdk0 : decide ((k : Int) < 32) = true := by rw [decide_eq_true_iff]; omega
      (try simp only [hdk0])
      clear hdk0
      go_loopw [6] (fun i wr => ∃ j : Nat, j ≤ 16 ∧ i = .int .i64 j ∧ w.grownBy wr (some g) ∧ RIn wr g F (stT s (k + 1)) ∧ Blk wr w.heap.size 38 Z ∧ Blk wr (w.heap.size + 1) 38 (halfAt C Z P1 P2 k j) ∧ Blk wr w1.heap.size 22 DD) (fun i _ => 16 - (intOf i).toNat)
      case atStart => exact ⟨0, by omega, rfl, HG1.out, HIN1.out, HB21.out, by unfold halfAt; rw [List.take_zero, List.take_zero, putAt_nil, putAt_nil]; exact HB31.out, HBD.out⟩
      case round =>
        clear HG1 HIN1 HB21 HB31 HBD
        obtain ⟨j, hj, rfl, hg, hin, hb2, hb3, hbd⟩ := hrel
        have hlt3 := HLT3.out
        have hgl3 := HGL.out
        by_cases hlj : j < 16
        · have hx1 := HX1A.out j hlj
          have hx2 := HX2A.out j hlj
          have hlen0 : ∀ a b : Nat, a ≤ 16 → b ≤ 16 → (putAt (putAt (mixAt C Z k) (k * 16) (bv (P1.take a))) (512 + k * 16) (bv (P2.take b))).length = 1024 := fun a b ha hb => by
            have h1 : (putAt (mixAt C Z k) (k * 16) (bv (P1.take a))).length = 1024 := by rw [putAt_len (by rw [mixAt_len, bv_length, List.length_take]; omega), mixAt_len]
            rw [putAt_len (by rw [h1, bv_length, List.length_take]; omega), h1]
          have hl1 : (putAt (mixAt C Z k) (k * 16) (bv (P1.take (j + 1)))).length = 1024 := by rw [putAt_len (by rw [mixAt_len, bv_length, List.length_take]; omega), mixAt_len]
          have hl0 : (putAt (mixAt C Z k) (k * 16) (bv (P1.take j))).length = 1024 := by rw [putAt_len (by rw [mixAt_len, bv_length, List.length_take]; omega), mixAt_len]
          have hs1 : (halfAt C Z P1 P2 k j).set (k * 16 + j) (.int .u8 ((P1.getD j 0).toNat : Int)) = halfAt1 C Z P1 P2 k j := by
            unfold halfAt halfAt1
            rw [putAt_set _ (by omega) (by rw [hl0, bv_length, List.length_take]; omega), put_more (by rw [HP1.out]; exact hlj) (by rw [mixAt_len]; omega)]
          have hs2 : (halfAt1 C Z P1 P2 k j).set (512 + k * 16 + j) (.int .u8 ((P2.getD j 0).toNat : Int)) = halfAt C Z P1 P2 k (j + 1) := by
            unfold halfAt halfAt1
            rw [put_more (by rw [HP2.out]; exact hlj) (by rw [hl1]; omega)]
          have hu1 : ∃ u, (halfAt C Z P1 P2 k j)[k * 16 + j]? = some u := ⟨_, List.getElem?_eq_getElem (by unfold halfAt; rw [hlen0 j j (by omega) (by omega)]; omega)⟩
          have hu2 : ∃ u, (halfAt1 C Z P1 P2 k j)[512 + k * 16 + j]? = some u := ⟨_, List.getElem?_eq_getElem (by unfold halfAt1; rw [hlen0 (j + 1) j (by omega) (by omega)]; omega)⟩
          obtain ⟨u1, hu1⟩ := hu1
          obtain ⟨u2, hu2⟩ := hu2
          generalize (P1.getD j 0).toNat = x1 at *
          generalize (P2.getD j 0).toNat = x2 at *
          generalize hH0 : halfAt C Z P1 P2 k j = H0 at *
          generalize hH1 : halfAt1 C Z P1 P2 k j = H1 at *
          generalize hH2 : halfAt C Z P1 P2 k (j + 1) = H2 at *
          have HX1 := Lib.hid hx1
          have HX2 := Lib.hid hx2
          have HS1 := Lib.hid hs1
          have HS2 := Lib.hid hs2
          have HU1 := Lib.hid hu1
          have HU2 := Lib.hid hu2
          have HH2 := Lib.hid hH2
          have HW16 : Hid (IntKind.i64.wrap (16 + (j : Int)) = ((16 + j : Nat) : Int)) := Lib.hid (by simp [IntKind.wrap, IntKind.bits, IntKind.signed]; omega)
          have HG := Lib.hid hg
          have HIN := Lib.hid hin
          have HB2 := Lib.hid hb2
          generalize hgs : w.heap.size + 1 = gs at *
          generalize hgd : w1.heap.size = gd at *
          have HGS := Lib.hid hgs
          have HBS : Hid (Blk wr.drew gs 38 H0) := Lib.hid hb3
          have HBD : Hid (Blk wr.drew gd 22 DD) := Lib.hid hbd
          have HL3 := Lib.hid hlt3
          have HGL3 := Lib.hid hgl3
          clear hx1 hx2 hlen0 hl1 hl0 hs1 hs2 hu1 hu2 hg hin hb2 hb3 hbd hlt3 hgl3 hgs hgd hH0 hH1 hH2
          go_wp2_with fail
          have hdj : decide ((j : Int) < 16) = true := by rw [decide_eq_true_iff]; omega
          (try simp only [hdj])
          clear hdj
          refine stab_store Ext ext_refl ext_trans [[0], [1], [2], [2, 3], [2, 3, 4], [5], [0, 5, 6], [0, 1, 2, 3, 4, 5, 6, 7], [0, 1, 2, 3, 4, 5, 6, 7, 8]] (fun i v wv => match i with | 0 => v = .int .i64 (k : Int) | 1 => v = .int .i64 (j : Int) | 2 => v = .int .i64 (j : Int) | 3 => v = .pointer (some ⟨gd, j, none⟩) | 4 => v = .int .u8 (x1 : Int) | 5 => v = .pointer (some ⟨gs, 0, none⟩) | 6 => v = .pointer (some ⟨gs, k * 16, none⟩) | 7 => v = .pointer (some ⟨gs, k * 16 + j, none⟩) | _ => True) (by kernel_rfl) (by kernel_rfl) (by kernel_rfl) (by kernel_rfl) (by simp) ?_ ?_ ?_
          · intro i v w1 w2 h hx
            match i, h with
            | 0, h => exact h
            | 1, h => exact h
            | 2, h => exact h
            | 3, h => exact h
            | 4, h => exact h
            | 5, h => exact h
            | 6, h => exact h
            | 7, h => exact h
            | i + 8, h => trivial
          · intro i hi o ho
            match i, hi, ho with
            | 0, _, ho =>
              obtain rfl := Option.some.inj ho
              intro s W hX hd K hK
              rw [if_pos (wanted_plain rfl)]
              clear hd
              replace hK : ∀ (v : Value) (W' : World), Ext W W' → (v = .int .i64 (k : Int)) → _ := hK
              simp only [mkOf, List.map_cons, List.map_nil, Act.put, List.setIfInBounds_toArray, List.set_cons_succ, List.set_cons_zero, Nat.reduceAdd, Nat.zero_add] at hK ⊢
              go_simp
              exact hK _ _ (Ext.refl _) rfl
            | 1, _, ho =>
              obtain rfl := Option.some.inj ho
              intro s W hX hd K hK
              rw [if_pos (wanted_plain rfl)]
              clear hd
              replace hK : ∀ (v : Value) (W' : World), Ext W W' → (v = .int .i64 (j : Int)) → _ := hK
              simp only [mkOf, List.map_cons, List.map_nil, Act.put, List.setIfInBounds_toArray, List.set_cons_succ, List.set_cons_zero, Nat.reduceAdd, Nat.zero_add] at hK ⊢
              go_simp
              exact hK _ _ (Ext.refl _) rfl
            | 2, _, ho =>
              obtain rfl := Option.some.inj ho
              intro s W hX hd K hK
              rw [if_pos (wanted_plain rfl)]
              clear hd
              replace hK : ∀ (v : Value) (W' : World), Ext W W' → (v = .int .i64 (j : Int)) → _ := hK
              simp only [mkOf, List.map_cons, List.map_nil, Act.put, List.setIfInBounds_toArray, List.set_cons_succ, List.set_cons_zero, Nat.reduceAdd, Nat.zero_add] at hK ⊢
              go_simp
              exact hK _ _ (Ext.refl _) rfl
            | 3, _, ho =>
              obtain rfl := Option.some.inj ho
              intro s W hX hd K hK
              rw [if_pos (wanted_plain rfl)]
              have d19 : (s 2) = .int .i64 (j : Int) := hd 2 (by decide) (by decide)
              clear hd
              replace hK : ∀ (v : Value) (W' : World), Ext W W' → (v = .pointer (some ⟨gd, j, none⟩)) → _ := hK
              simp only [mkOf, List.map_cons, List.map_nil, Act.put, List.setIfInBounds_toArray, List.set_cons_succ, List.set_cons_zero, Nat.reduceAdd, Nat.zero_add] at hK ⊢
              simp only [d19] at hK ⊢
              have hj32 : (j : Int) < 32 := by omega
              go_simp
              exact hK _ _ (Ext.refl _) rfl
            | 4, _, ho =>
              obtain rfl := Option.some.inj ho
              intro s W hX hd K hK
              rw [if_pos (wanted_plain rfl)]
              have d20 : (s 3) = .pointer (some ⟨gd, j, none⟩) := hd 3 (by decide) (by decide)
              clear hd
              replace hK : ∀ (v : Value) (W' : World), Ext W W' → (v = .int .u8 (x1 : Int)) → _ := hK
              simp only [mkOf, List.map_cons, List.map_nil, Act.put, List.setIfInBounds_toArray, List.set_cons_succ, List.set_cons_zero, Nat.reduceAdd, Nat.zero_add] at hK ⊢
              simp only [d20] at hK ⊢
              have c1 := ((HBD.out.keep hX (by simp)).cell j).trans HX1.out
              go_simp
              exact hK _ _ (Ext.refl _) rfl
            | 5, _, ho =>
              obtain rfl := Option.some.inj ho
              intro s W hX hd K hK
              rw [if_pos (wanted_plain rfl)]
              clear hd
              replace hK : ∀ (v : Value) (W' : World), Ext W W' → (v = .pointer (some ⟨gs, 0, none⟩)) → _ := hK
              simp only [mkOf, List.map_cons, List.map_nil, Act.put, List.setIfInBounds_toArray, List.set_cons_succ, List.set_cons_zero, Nat.reduceAdd, Nat.zero_add] at hK ⊢
              go_simp
              exact hK _ _ (Ext.refl _) rfl
            | 6, _, ho =>
              obtain rfl := Option.some.inj ho
              intro s W hX hd K hK
              rw [if_pos (wanted_plain rfl)]
              have d17 : (s 0) = .int .i64 (k : Int) := hd 0 (by decide) (by decide)
              have d22 : (s 5) = .pointer (some ⟨gs, 0, none⟩) := hd 5 (by decide) (by decide)
              clear hd
              replace hK : ∀ (v : Value) (W' : World), Ext W W' → (v = .pointer (some ⟨gs, k * 16, none⟩)) → _ := hK
              simp only [mkOf, List.map_cons, List.map_nil, Act.put, List.setIfInBounds_toArray, List.set_cons_succ, List.set_cons_zero, Nat.reduceAdd, Nat.zero_add] at hK ⊢
              simp only [d17, d22] at hK ⊢
              go_simp
              exact hK _ _ (Ext.refl _) rfl
            | 7, _, ho =>
              obtain rfl := Option.some.inj ho
              intro s W hX hd K hK
              rw [if_pos (wanted_plain rfl)]
              have d18 : (s 1) = .int .i64 (j : Int) := hd 1 (by decide) (by decide)
              have d23 : (s 6) = .pointer (some ⟨gs, k * 16, none⟩) := hd 6 (by decide) (by decide)
              clear hd
              replace hK : ∀ (v : Value) (W' : World), Ext W W' → (v = .pointer (some ⟨gs, k * 16 + j, none⟩)) → _ := hK
              simp only [mkOf, List.map_cons, List.map_nil, Act.put, List.setIfInBounds_toArray, List.set_cons_succ, List.set_cons_zero, Nat.reduceAdd, Nat.zero_add] at hK ⊢
              simp only [d18, d23] at hK ⊢
              go_simp
              exact hK _ _ (Ext.refl _) rfl
            | i + 8, hi, _ => exact absurd hi (by simp)
          · intro o ho
            obtain rfl := Option.some.inj ho
            intro s W hX hd K hK
            rw [if_pos (wanted_plain rfl)]
            have d17 : (s 0) = .int .i64 (k : Int) := hd 0 (by decide)
            have d18 : (s 1) = .int .i64 (j : Int) := hd 1 (by decide)
            have d19 : (s 2) = .int .i64 (j : Int) := hd 2 (by decide)
            have d20 : (s 3) = .pointer (some ⟨gd, j, none⟩) := hd 3 (by decide)
            have d21 : (s 4) = .int .u8 (x1 : Int) := hd 4 (by decide)
            have d22 : (s 5) = .pointer (some ⟨gs, 0, none⟩) := hd 5 (by decide)
            have d23 : (s 6) = .pointer (some ⟨gs, k * 16, none⟩) := hd 6 (by decide)
            have d24 : (s 7) = .pointer (some ⟨gs, k * 16 + j, none⟩) := hd 7 (by decide)
            clear hd
            simp only [mkOf, List.map_cons, List.map_nil, Act.put, List.setIfInBounds_toArray, List.set_cons_succ, List.set_cons_zero, Nat.reduceAdd, Nat.zero_add]
            have hb := HBS.out.keep hX (by simp)
            have hf := hb.free (k * 16 + j)
            have hc := (hb.cell (k * 16 + j)).trans HU1.out
            simp only [d24, d21]
            go_simp
            refine hK _ _ ?_
            have hh := hb.set (k * 16 + j) (.int .u8 (x1 : Int))
            rw [HS1.out] at hh
            have hgr := only_set (w := W) (g := gs) (k * 16 + j) (.int .u8 (x1 : Int))
            have hd5 := (Ext.refl (W.setCell ⟨gs, k * 16 + j, none⟩ (.int .u8 (x1 : Int)))).drew
            have hl3 := HL3.out
            have hgl3 := HGL3.out
            have hgs3 := HGS.out
            have hxr : Ext wr W := (Ext.refl wr).drew.trans hX
            have HBS2 := Lib.hid (hh.keep hd5 (by simp))
            have HBD2 := Lib.hid (((HBD.out.keep hX (by simp)).keep hgr (by simp; omega)).keep hd5 (by simp))
            have HB22 := Lib.hid (((HB2.out.keep hxr (by simp)).keep hgr (by simp; omega)).keep hd5 (by simp))
            have HIN2 := Lib.hid (((HIN.out.keep hxr (by simp) (fun b _ => by simp)).keep hgr (by simp; omega) (fun b hb => by have := HFB.out b hb; simp; omega)).keep hd5 (by simp) (fun b _ => by simp))
            have HG2 := Lib.hid (grown_then (grown_then (grown_then HG.out (hxr.any _) (.inl rfl)) hgr (.inr (by rintro b ⟨⟩; omega))) (hd5.any (some g)) (.inl rfl))
            clear hb hf hc hh hgr hd5 hl3 hgl3 hgs3 hxr hX HBS HBD HB2 HIN HG d17 d18 d19 d20 d21 d22 d23 d24
            (try simp only [Exit.then])
            go_wp2_with fail
            generalize W.setCell ⟨gs, k * 16 + j, none⟩ (.int .u8 (x1 : Int)) = V5 at *
            refine stab_store Ext ext_refl ext_trans [[0], [1], [2], [2, 3], [2, 3, 4], [2, 3, 4, 5], [6], [0, 6, 7], [0, 1, 2, 3, 4, 5, 6, 7, 8], [0, 1, 2, 3, 4, 5, 6, 7, 8, 9]] (fun i v wv => match i with | 0 => v = .int .i64 (k : Int) | 1 => v = .int .i64 (j : Int) | 2 => v = .int .i64 (j : Int) | 3 => v = .int .i64 ((16 + j : Nat) : Int) | 4 => v = .pointer (some ⟨gd, 16 + j, none⟩) | 5 => v = .int .u8 (x2 : Int) | 6 => v = .pointer (some ⟨gs, 512, none⟩) | 7 => v = .pointer (some ⟨gs, 512 + k * 16, none⟩) | 8 => v = .pointer (some ⟨gs, 512 + k * 16 + j, none⟩) | _ => True) (by kernel_rfl) (by kernel_rfl) (by kernel_rfl) (by kernel_rfl) (by simp) ?_ ?_ ?_
            · intro i v w1 w2 h hx
              match i, h with
              | 0, h => exact h
              | 1, h => exact h
              | 2, h => exact h
              | 3, h => exact h
              | 4, h => exact h
              | 5, h => exact h
              | 6, h => exact h
              | 7, h => exact h
              | 8, h => exact h
              | i + 9, h => trivial
            · intro i hi o ho
              match i, hi, ho with
              | 0, _, ho =>
                obtain rfl := Option.some.inj ho
                intro s W2 hX hd K hK
                rw [if_pos (wanted_plain rfl)]
                clear hd
                replace hK : ∀ (v : Value) (W2' : World), Ext W2 W2' → (v = .int .i64 (k : Int)) → _ := hK
                simp only [mkOf, List.map_cons, List.map_nil, Act.put, List.setIfInBounds_toArray, List.set_cons_succ, List.set_cons_zero, Nat.reduceAdd, Nat.zero_add] at hK ⊢
                go_simp
                exact hK _ _ (Ext.refl _) rfl
              | 1, _, ho =>
                obtain rfl := Option.some.inj ho
                intro s W2 hX hd K hK
                rw [if_pos (wanted_plain rfl)]
                clear hd
                replace hK : ∀ (v : Value) (W2' : World), Ext W2 W2' → (v = .int .i64 (j : Int)) → _ := hK
                simp only [mkOf, List.map_cons, List.map_nil, Act.put, List.setIfInBounds_toArray, List.set_cons_succ, List.set_cons_zero, Nat.reduceAdd, Nat.zero_add] at hK ⊢
                go_simp
                exact hK _ _ (Ext.refl _) rfl
              | 2, _, ho =>
                obtain rfl := Option.some.inj ho
                intro s W2 hX hd K hK
                rw [if_pos (wanted_plain rfl)]
                clear hd
                replace hK : ∀ (v : Value) (W2' : World), Ext W2 W2' → (v = .int .i64 (j : Int)) → _ := hK
                simp only [mkOf, List.map_cons, List.map_nil, Act.put, List.setIfInBounds_toArray, List.set_cons_succ, List.set_cons_zero, Nat.reduceAdd, Nat.zero_add] at hK ⊢
                go_simp
                exact hK _ _ (Ext.refl _) rfl
              | 3, _, ho =>
                obtain rfl := Option.some.inj ho
                intro s W2 hX hd K hK
                rw [if_pos (wanted_plain rfl)]
                have d27 : (s 2) = .int .i64 (j : Int) := hd 2 (by decide) (by decide)
                clear hd
                replace hK : ∀ (v : Value) (W2' : World), Ext W2 W2' → (v = .int .i64 ((16 + j : Nat) : Int)) → _ := hK
                simp only [mkOf, List.map_cons, List.map_nil, Act.put, List.setIfInBounds_toArray, List.set_cons_succ, List.set_cons_zero, Nat.reduceAdd, Nat.zero_add] at hK ⊢
                simp only [d27] at hK ⊢
                go_simp
                exact hK _ _ (Ext.refl _) (by first | rfl | (rw [HW16.out]; done) | (congr 1; omega))
              | 4, _, ho =>
                obtain rfl := Option.some.inj ho
                intro s W2 hX hd K hK
                rw [if_pos (wanted_plain rfl)]
                have d28 : (s 3) = .int .i64 ((16 + j : Nat) : Int) := hd 3 (by decide) (by decide)
                clear hd
                replace hK : ∀ (v : Value) (W2' : World), Ext W2 W2' → (v = .pointer (some ⟨gd, 16 + j, none⟩)) → _ := hK
                simp only [mkOf, List.map_cons, List.map_nil, Act.put, List.setIfInBounds_toArray, List.set_cons_succ, List.set_cons_zero, Nat.reduceAdd, Nat.zero_add] at hK ⊢
                simp only [d28] at hK ⊢
                go_simp
                rw [if_pos ⟨by omega, by omega⟩, show ((16 : Int) + (j : Int)).toNat = 16 + j by omega]
                (try go_simp)
                exact hK _ _ (Ext.refl _) rfl
              | 5, _, ho =>
                obtain rfl := Option.some.inj ho
                intro s W2 hX hd K hK
                rw [if_pos (wanted_plain rfl)]
                have d29 : (s 4) = .pointer (some ⟨gd, 16 + j, none⟩) := hd 4 (by decide) (by decide)
                clear hd
                replace hK : ∀ (v : Value) (W2' : World), Ext W2 W2' → (v = .int .u8 (x2 : Int)) → _ := hK
                simp only [mkOf, List.map_cons, List.map_nil, Act.put, List.setIfInBounds_toArray, List.set_cons_succ, List.set_cons_zero, Nat.reduceAdd, Nat.zero_add] at hK ⊢
                simp only [d29] at hK ⊢
                have c1 := ((HBD2.out.keep hX (by simp)).cell (16 + j)).trans HX2.out
                go_simp
                exact hK _ _ (Ext.refl _) rfl
              | 6, _, ho =>
                obtain rfl := Option.some.inj ho
                intro s W2 hX hd K hK
                rw [if_pos (wanted_plain rfl)]
                clear hd
                replace hK : ∀ (v : Value) (W2' : World), Ext W2 W2' → (v = .pointer (some ⟨gs, 512, none⟩)) → _ := hK
                simp only [mkOf, List.map_cons, List.map_nil, Act.put, List.setIfInBounds_toArray, List.set_cons_succ, List.set_cons_zero, Nat.reduceAdd, Nat.zero_add] at hK ⊢
                go_simp
                exact hK _ _ (Ext.refl _) rfl
              | 7, _, ho =>
                obtain rfl := Option.some.inj ho
                intro s W2 hX hd K hK
                rw [if_pos (wanted_plain rfl)]
                have d25 : (s 0) = .int .i64 (k : Int) := hd 0 (by decide) (by decide)
                have d31 : (s 6) = .pointer (some ⟨gs, 512, none⟩) := hd 6 (by decide) (by decide)
                clear hd
                replace hK : ∀ (v : Value) (W2' : World), Ext W2 W2' → (v = .pointer (some ⟨gs, 512 + k * 16, none⟩)) → _ := hK
                simp only [mkOf, List.map_cons, List.map_nil, Act.put, List.setIfInBounds_toArray, List.set_cons_succ, List.set_cons_zero, Nat.reduceAdd, Nat.zero_add] at hK ⊢
                simp only [d25, d31] at hK ⊢
                go_simp
                exact hK _ _ (Ext.refl _) rfl
              | 8, _, ho =>
                obtain rfl := Option.some.inj ho
                intro s W2 hX hd K hK
                rw [if_pos (wanted_plain rfl)]
                have d26 : (s 1) = .int .i64 (j : Int) := hd 1 (by decide) (by decide)
                have d32 : (s 7) = .pointer (some ⟨gs, 512 + k * 16, none⟩) := hd 7 (by decide) (by decide)
                clear hd
                replace hK : ∀ (v : Value) (W2' : World), Ext W2 W2' → (v = .pointer (some ⟨gs, 512 + k * 16 + j, none⟩)) → _ := hK
                simp only [mkOf, List.map_cons, List.map_nil, Act.put, List.setIfInBounds_toArray, List.set_cons_succ, List.set_cons_zero, Nat.reduceAdd, Nat.zero_add] at hK ⊢
                simp only [d26, d32] at hK ⊢
                go_simp
                exact hK _ _ (Ext.refl _) rfl
              | i + 9, hi, _ => exact absurd hi (by simp)
            · intro o ho
              obtain rfl := Option.some.inj ho
              intro s W2 hX hd K hK
              rw [if_pos (wanted_plain rfl)]
              have d25 : (s 0) = .int .i64 (k : Int) := hd 0 (by decide)
              have d26 : (s 1) = .int .i64 (j : Int) := hd 1 (by decide)
              have d27 : (s 2) = .int .i64 (j : Int) := hd 2 (by decide)
              have d28 : (s 3) = .int .i64 ((16 + j : Nat) : Int) := hd 3 (by decide)
              have d29 : (s 4) = .pointer (some ⟨gd, 16 + j, none⟩) := hd 4 (by decide)
              have d30 : (s 5) = .int .u8 (x2 : Int) := hd 5 (by decide)
              have d31 : (s 6) = .pointer (some ⟨gs, 512, none⟩) := hd 6 (by decide)
              have d32 : (s 7) = .pointer (some ⟨gs, 512 + k * 16, none⟩) := hd 7 (by decide)
              have d33 : (s 8) = .pointer (some ⟨gs, 512 + k * 16 + j, none⟩) := hd 8 (by decide)
              clear hd
              simp only [mkOf, List.map_cons, List.map_nil, Act.put, List.setIfInBounds_toArray, List.set_cons_succ, List.set_cons_zero, Nat.reduceAdd, Nat.zero_add]
              have hb := HBS2.out.keep hX (by simp)
              have hf := hb.free (512 + k * 16 + j)
              have hc := (hb.cell (512 + k * 16 + j)).trans HU2.out
              simp only [d33, d30]
              go_simp
              refine hK _ _ ?_
              have hh := hb.set (512 + k * 16 + j) (.int .u8 (x2 : Int))
              rw [HS2.out] at hh
              have hgr := only_set (w := W2) (g := gs) (512 + k * 16 + j) (.int .u8 (x2 : Int))
              have hl3 := HL3.out
              have hgl3 := HGL3.out
              have hgs3 := HGS.out
              have HBS3 := Lib.hid hh
              have HBD3 := Lib.hid ((HBD2.out.keep hX (by simp)).keep hgr (by simp; omega))
              have HB23 := Lib.hid ((HB22.out.keep hX (by simp)).keep hgr (by simp; omega))
              have HIN3 := Lib.hid ((HIN2.out.keep hX (by simp) (fun b _ => by simp)).keep hgr (by simp; omega) (fun b hb => by have := HFB.out b hb; simp; omega))
              have HG3 := Lib.hid (grown_then (grown_then HG2.out (hX.any _) (.inl rfl)) hgr (.inr (by rintro b ⟨⟩; omega)))
              clear hb hf hc hh hgr hl3 hgl3 hX
              subst hgs3
              (try simp only [Exit.then])
              go_wp2_with fail
              go_roundw
              case rel => exact ⟨j + 1, by omega, by go_num, HG3.out, HIN3.out, HB23.out, by rw [HH2.out]; exact HBS3.out, HBD3.out⟩
              case measure => simp [intOf]; omega
        · obtain rfl : j = 16 := by omega
          have e : halfAt C Z P1 P2 k 16 = mixAt C Z (k + 1) := by
            unfold halfAt
            rw [List.take_of_length_le (by rw [HP1.out]; exact Nat.le_refl _), List.take_of_length_le (by rw [HP2.out]; exact Nat.le_refl _)]
            exact HST.out
          rw [e] at hb3
          have HG9 := Lib.hid hg
          have HIN9 := Lib.hid hin
          have HB9 := Lib.hid hb2
          have HB8 := Lib.hid hb3
          clear hg hin hb2 hb3 hbd e hlt3 hgl3
          go_wp2_with fail
          go_roundw
          case rel => exact ⟨k + 1, by omega, by go_num, HG9.out, HIN9.out, HB9.out, HB8.out⟩
          case measure => simp [intOf]; omega
    · obtain rfl : k = 32 := by omega
      rw [mixAt_all C Z HCL.out HZL.out] at hb3
      have hcm := hb3.cells
      have hr2 : wr.heap[w.heap.size]? = some (.cells Z.toArray 38 (0, 0)) := hb2
      have HG := Lib.hid hg
      have HIN := Lib.hid hin
      have hgl3 := HGL.out
      clear hg hb2 hb3 hin hwo
      go_wp2_with (first
        | (refine wpList_load_agg _ rfl 38 (.tmp 3) rfl _ rfl C _ Try.underlying38 rfl (rsig_size HCL.out) hcm ?_)
        | (refine wpList_store_row _ rfl 38 (.tmp 2) (.tmp 34) rfl w.heap.size rfl Z C _ rfl hr2 (rsig_size HCL.out) (by rw [HCL.out, HZL.out]) hone ?_)
        | fail)
      have hc9 := Blk.cells (t := 38) (setRow_at (cs' := C.toArray) hr2)
      (try simp only [Exit.inBlock, Exit.then])
      refine bodyPost_ret (results_agg rfl _ _ _ _ _ rfl Try.underlying38 rfl (rsig_size HCL.out) hc9) rfl ?_
      exact ⟨rfl, HIN.out.keep (setRow_only _) (by simp; omega) (fun b hb => by have := HFB.out b hb; simp; omega), grown_then HG.out (setRow_only _) (.inr (by rintro b ⟨⟩; omega))⟩
end
section
open Go.RowKit

set_option maxRecDepth 100000 in
set_option maxHeartbeats 4000000 in
theorem RLamp_Lay (BB : List UInt8) (vb : Value) (bs : List UInt8) (w : World) (F : Fp) (hB : BB.length = 1024) (hl : (Ty.sl .u8).holds w F [vb] bs) (hF : ∀ b, F b → b < w.heap.size) (hb : bs.length + 1024 ≤ 140737488355328) :
    Calls Try.prog 28 #[vb, .agg (bv BB).toArray] w fun e w' => ∃ v', e = .returned v' ∧ OwnB w' v' (bs ++ layS BB 32) ∧ Ext w w' ∧ ∀ b, v'.ownBlock = some b → w.heap.size ≤ b := by
  obtain ⟨i0, hi, hz0, hz1, hz2⟩ := info_parts u8_info
  have hb1 : Blk ((w.alloc (.cells (bv BB).toArray 38)).alloc (.cells #[] 5)) w.heap.size 38 (bv BB) := (Blk.new _ _ _).keep ((Ext.refl _).alloc _) (by simp)
  have hx0 : Ext w ((w.alloc (.cells (bv BB).toArray 38)).alloc (.cells #[] 5)) := ((Ext.refl w).alloc _).alloc _
  have hl2 := hx0.holds hF hl
  obtain ⟨A, c, xs, hv, _, _, _, _, _⟩ := hl
  cases hv
  have hsrc := src_bytes hl2
  have HBL := Lib.hid hB
  have HB1 := Lib.hid hb1
  have HX0 := Lib.hid hx0
  have HSRC := Lib.hid hsrc
  clear hb1 hx0 hl2 hsrc
  go_enter Try.func28, Try.ntmps28
  go_wp2_with (first
    | (at_builtin; go_must (refine wpList_app _ rfl (.tmp 7) (.tmp 8) _ _ rfl 5 5 i0 _ 1 1 Try.underlying55 Try.underlying55 hi hz0 hz1 hz2 rfl (by decide) (.slice (some ⟨w.heap.size + 1, 0, none⟩) 0 0) 0 [] rfl (own_empty (by simp)) A _ c (bv bs) rfl (by simp) HSRC.out (bv_one _) (by unfold maxLen; omega) (by omega) ?_); intro v2 w2 ho2 hm2)
    | fail)
  have hor : OwnB w2 v2 bs := by have h : OwnB w2 v2 ([] ++ bs) := OwnB.app ho2; simpa using h
  have hgr : ∀ b, v2.ownBlock = some b → w.heap.size + 1 ≤ b := fun b hb => by
    rcases hm2.at_ with e | hn
    · have h := e.symm.trans hb
      have : w.heap.size + 1 = b := by simpa [Value.ownBlock] using h
      omega
    · have h := hn b hb; simp at h; omega
  have hbb : Blk w2 w.heap.size 38 (bv BB) := HB1.out.keep hm2.grown (by simp [Value.ownBlock])
  have hxx : Ext w w2 := grown_then HX0.out hm2.grown (.inr fun b hb => by
    have : w.heap.size + 1 = b := by simpa [Value.ownBlock] using hb
    omega)
  have HO0 := Lib.hid hor
  have HG0 := Lib.hid hgr
  have HBB := Lib.hid hbb
  have HXX := Lib.hid hxx
  clear hor hgr hbb hxx ho2 hm2
  go_loopw [5, 6] (fun u i wr => ∃ k : Nat, k ≤ 32 ∧ i = .int .i64 k ∧ OwnB wr u (bs ++ layS BB k) ∧ Ext w wr ∧ Blk wr w.heap.size 38 (bv BB) ∧ (∀ b, u.ownBlock = some b → w.heap.size + 1 ≤ b)) (fun _ i _ => 32 - (intOf i).toNat)
  case atStart => exact ⟨0, by omega, rfl, by simpa [layS] using HO0.out, HXX.out, HBB.out, HG0.out⟩
  case round =>
    clear HO0 HG0 HBB HXX
    obtain ⟨k, hk, rfl, hou, hxu, hbu, hgu⟩ := hrel
    by_cases hlt : k < 32
    · have hll := layS_len HBL.out k (by omega)
      have hp1 := pieceB_len HBL.out (o := k * 16) (by omega)
      have hp2 := pieceB_len HBL.out (o := 512 + k * 16) (by omega)
      have hk1 : Cells wr ⟨w.heap.size, k * 16, none⟩ (bv ((BB.drop (k * 16)).take 16)) := by have h := (hbu.cells.drop (k * 16)).take 16; rw [addr_at, bv_piece] at h; exact h
      have hk2 : Cells wr ⟨w.heap.size, 512 + k * 16, none⟩ (bv ((BB.drop (512 + k * 16)).take 16)) := by have h := (hbu.cells.drop (512 + k * 16)).take 16; rw [addr_at, bv_piece] at h; exact h
      have hstep : layS BB (k + 1) = layS BB k ++ ((BB.drop (k * 16)).take 16 ++ (BB.drop (512 + k * 16)).take 16) := rfl
      generalize (BB.drop (k * 16)).take 16 = P1 at *
      generalize (BB.drop (512 + k * 16)).take 16 = P2 at *
      have hbl : w.heap.size < wr.heap.size := hbu.lt
      have HO := Lib.hid hou
      have HX := Lib.hid hxu
      have HB := Lib.hid hbu
      have HG := Lib.hid hgu
      have HK1 := Lib.hid hk1
      have HK2 := Lib.hid hk2
      have HP1 := Lib.hid hp1
      have HP2 := Lib.hid hp2
      have HLL := Lib.hid hll
      have HST := Lib.hid hstep
      have HBLT := Lib.hid hbl
      clear hou hxu hbu hgu hk1 hk2 hp1 hp2 hll hstep hbl
      go_wp2_with (first
        | (at_builtin
           refine wpList_app _ rfl (.tmp 14) (.tmp 18) _ _ rfl 5 5 i0 _ 1 1 Try.underlying55 Try.underlying55 hi hz0 hz1 hz2 rfl (by decide) u5 _ _ rfl HO.out _ 16 16 (bv P1) rfl (by simp [HP1.out]) (fun _ => ⟨_, rfl, HK1.out⟩) (bv_one _) (by have := HLL.out; rw [List.length_append]; unfold maxLen; omega) (by have := HLL.out; rw [List.length_append]; omega) ?_
           intro v8 w8 ho8 hm8
           have ho8 : OwnB w8 v8 ((bs ++ layS BB k) ++ P1) := OwnB.app (by rw [HP1.out]; exact ho8)
           have hne7 : some w.heap.size ≠ u5.ownBlock := fun e => absurd (HG.out _ e.symm) (by omega)
           have HK28 := Lib.hid (HK2.out.keep (hm8.grown.block w.heap.size HBLT.out hne7))
           have HB8 := Lib.hid (HB.out.keep hm8.grown hne7)
           have HX8 := Lib.hid (grown_then HX.out hm8.grown (.inr fun b hb => by have := HG.out b hb; omega) : Ext w w8)
           have HG8 : Hid (∀ b, v8.ownBlock = some b → w.heap.size + 1 ≤ b) := Lib.hid (fun b hb => by
             rcases hm8.at_ with e | hn
             · exact HG.out b (e.symm.trans hb)
             · have h1 := hn b hb
               have h3 := HBLT.out
               omega))
        | (at_builtin
           refine wpList_app _ rfl (.tmp 20) (.tmp 24) _ _ rfl 5 5 i0 _ 1 1 Try.underlying55 Try.underlying55 hi hz0 hz1 hz2 rfl (by decide) v8 _ _ rfl ho8 _ 16 16 (bv P2) rfl (by simp [HP2.out]) (fun _ => ⟨_, rfl, HK28.out⟩) (bv_one _) (by have := HLL.out; have := HP1.out; rw [List.length_append, List.length_append]; unfold maxLen; omega) (by have := HLL.out; have := HP1.out; rw [List.length_append, List.length_append]; omega) ?_
           intro v9 w9 ho9 hm9
           have ho9 : OwnB w9 v9 (((bs ++ layS BB k) ++ P1) ++ P2) := OwnB.app (by rw [HP2.out]; exact ho9))
        | fail)
      have hne8 : some w.heap.size ≠ v8.ownBlock := fun e => absurd (HG8.out _ e.symm) (by omega)
      have hb9 := HB8.out.keep hm9.grown hne8
      have hx9 : Ext w w9 := grown_then HX8.out hm9.grown (.inr fun b hb => by have := HG8.out b hb; omega)
      have hg9 : ∀ b, v9.ownBlock = some b → w.heap.size + 1 ≤ b := fun b hb => by
        rcases hm9.at_ with e | hn
        · exact HG8.out b (e.symm.trans hb)
        · have h1 := hn b hb
          have h3 := HB8.out.lt
          omega
      have ho9' : OwnB w9 v9 (bs ++ layS BB (k + 1)) := by rw [HST.out, ← List.append_assoc, ← List.append_assoc]; exact ho9
      have HO9 := Lib.hid ho9'
      have HB9 := Lib.hid hb9
      have HX9 := Lib.hid hx9
      have HG9 := Lib.hid hg9
      clear hb9 hx9 hg9 ho9'
      go_roundw
      case rel => exact ⟨k + 1, by omega, by go_num, HO9.out, HX9.out, HB9.out, HG9.out⟩
      case measure => simp [intOf]; omega
    · obtain rfl : k = 32 := by omega
      go_wp2
      go_ret
      exact ⟨_, rfl, hou, hxu, fun b hb => by have := hgu b hb; omega⟩
end
section
open Go.RowKit
theorem szPieceFrom04 {n : Nat} (h : n = 16) : (Try.prog.info? 40).map (·.size) = some n := by subst h; kernel_rfl
theorem szPieceBFrom04 {n : Nat} (h : n = 16) : (Try.prog.info? 35).map (·.size) = some n := by subst h; kernel_rfl
theorem szSigFrom04 {n : Nat} (h : n = 1024) : (Try.prog.info? 38).map (·.size) = some n := by subst h; kernel_rfl
theorem zSigFrom04 : (Try.prog.info? 38).bind (fun i => i.zero.map (·.cells)) = some (List.replicate 1024 (Value.int .u8 0)).toArray := by kernel_rfl
set_option maxRecDepth 100000 in
set_option maxHeartbeats 4000000 in
theorem From04 (C : List Value) (w : World) (hC : C.length = 1024) (hone : ∀ u ∈ C, u.oneCell' = true) :
    Calls Try.prog 13 #[.agg C.toArray] w fun e w' => e = .returned (.agg C.toArray) ∧ Ext w w' := by
  obtain ⟨Z, hz, hzl, hzo⟩ : ∃ Z : List Value, (Try.prog.info? 38).bind (fun i => i.zero.map (·.cells)) = some Z.toArray ∧ Z.length = 1024 ∧ ∀ u ∈ Z, u.oneCell' = true := ⟨_, zSigFrom04, List.length_replicate, fun u hu => by rw [List.eq_of_mem_replicate hu]; rfl⟩
  have HCL := Lib.hid hC
  have HZL := Lib.hid hzl
  have HZO := Lib.hid hzo
  have hb1 : Blk (((w.alloc (.cells C.toArray 43)).alloc (.cells Z.toArray 38)).alloc (.cells Z.toArray 38)) w.heap.size 43 C := ((Blk.new _ _ _).keep ((Ext.refl _).alloc _) (by simp)).keep ((Ext.refl _).alloc _) (by simp)
  have hb2 : Blk (((w.alloc (.cells C.toArray 43)).alloc (.cells Z.toArray 38)).alloc (.cells Z.toArray 38)) (w.heap.size + 1) 38 Z := (Blk.fresh (by simp) _ _).keep ((Ext.refl _).alloc _) (by simp)
  have hb3 : Blk (((w.alloc (.cells C.toArray 43)).alloc (.cells Z.toArray 38)).alloc (.cells Z.toArray 38)) (w.heap.size + 2) 38 Z := Blk.fresh (by simp) _ _
  have hx0 : Ext w (((w.alloc (.cells C.toArray 43)).alloc (.cells Z.toArray 38)).alloc (.cells Z.toArray 38)) := (((Ext.refl w).alloc _).alloc _).alloc _
  have HB1 := Lib.hid hb1
  have HB2 := Lib.hid hb2
  have HB3 := Lib.hid hb3
  have HX0 := Lib.hid hx0
  clear hb1 hb2 hb3 hx0 hC hzl hzo
  go_enter Try.func13, Try.ntmps13
  go_wp2_with (first
    | (refine wpList_alloc _ rfl 38 rfl _ hz ?_)
    | fail)
  go_loopw [4, 5] (fun p i wr => ∃ k : Nat, k ≤ 32 ∧ i = .int .i64 k ∧ Ext w wr ∧ Blk wr w.heap.size 43 C ∧ Blk wr (w.heap.size + 1) 38 Z ∧ Blk wr (w.heap.size + 2) 38 (mixAt C Z k) ∧ ∃ q, p = q) (fun _ i _ => 32 - (intOf i).toNat)
  case atStart => exact ⟨0, by omega, rfl, HX0.out, HB1.out, HB2.out, by rw [mixAt_zero C Z HCL.out HZL.out]; exact HB3.out, _, rfl⟩
  case round =>
    clear HX0 HB1 HB2 HB3
    obtain ⟨k, hk, rfl, hx, hb1, hb2, hb3, q, rfl⟩ := hrel
    by_cases hlt : k < 32
    · have HX := Lib.hid hx
      have HB1 := Lib.hid hb1
      have HB2 := Lib.hid hb2
      have HB3 := Lib.hid hb3
      clear hx hb1 hb2 hb3
      go_wp2
      have hx : Ext w wr.drew := HX.out.drew
      have hb1 : Blk wr.drew w.heap.size 43 C := HB1.out
      have hb2 : Blk wr.drew (w.heap.size + 1) 38 Z := HB2.out
      have hb3 : Blk wr.drew (w.heap.size + 2) 38 (mixAt C Z k) := HB3.out
      refine startM (KeepB fun b => b = w.heap.size) (by kernel_rfl) ?_
      (try simp only [Act.put, List.setIfInBounds_toArray, List.set_cons_succ, List.set_cons_zero])
      generalize wr.drew = w0 at *
      have hk1 : Cells w0 ⟨w.heap.size, k * 16, none⟩ ((C.drop (k * 16)).take 16) := by have h := (hb1.cells.drop (k * 16)).take 16; rw [addr_at] at h; exact h
      have hk2 : Cells w0 ⟨w.heap.size, 512 + k * 16, none⟩ ((C.drop (512 + k * 16)).take 16) := by have h := (hb1.cells.drop (512 + k * 16)).take 16; rw [addr_at] at h; exact h
      have hp1 := piece_len HCL.out (o := k * 16) (by omega)
      have hp2 := piece_len HCL.out (o := 512 + k * 16) (by omega)
      have hst := mixAt_step C Z HCL.out HZL.out k hlt
      have ho1 : ∀ u ∈ (C.drop (k * 16)).take 16, u.oneCell' = true := fun u hu => hone u (List.mem_of_mem_drop (List.mem_of_mem_take hu))
      have ho2 : ∀ u ∈ (C.drop (512 + k * 16)).take 16, u.oneCell' = true := fun u hu => hone u (List.mem_of_mem_drop (List.mem_of_mem_take hu))
      generalize (C.drop (k * 16)).take 16 = P1 at *
      generalize (C.drop (512 + k * 16)).take 16 = P2 at *
      have HX := Lib.hid hx
      have HB1 := Lib.hid hb1
      have HB2 := Lib.hid hb2
      have HB3 := Lib.hid hb3
      have HK1 := Lib.hid hk1
      have HK2 := Lib.hid hk2
      have HP1 := Lib.hid hp1
      have HP2 := Lib.hid hp2
      have HST := Lib.hid hst
      have HO1 := Lib.hid ho1
      have HO2 := Lib.hid ho2
      clear hx hb1 hb2 hb3 hk1 hk2 hp1 hp2 hst ho1 ho2
      refine takeK 0 rfl (by kernel_rfl) (by kernel_rfl) (by kernel_rfl) rfl (fun _ _ _ _ h => h) rfl (fun K hK => ?_)
      go_big_quiet_op
      first | refine hK _ ?_ | refine ⟨_, fun _ _ => rfl, hK _ ?_⟩
      clear hK K
      refine takeK 1 rfl (by kernel_rfl) (by kernel_rfl) (by kernel_rfl) rfl (fun _ _ _ _ h => h) rfl (fun K hK => ?_)
      go_big_quiet_op
      first | refine hK _ ?_ | refine ⟨_, fun _ _ => rfl, hK _ ?_⟩
      clear hK K
      refine takeK 2 rfl (by kernel_rfl) (by kernel_rfl) (by kernel_rfl) rfl (fun _ _ _ _ h => h) rfl (fun K hK => ?_)
      go_big_quiet_op
      first | refine hK _ ?_ | refine ⟨_, fun _ _ => rfl, hK _ ?_⟩
      clear hK K
      refine takeK 3 rfl (by kernel_rfl) (by kernel_rfl) (by kernel_rfl) rfl (fun _ _ _ _ h => h) rfl (fun K hK => ?_)
      go_big_quiet_op
      first | refine hK _ ?_ | refine ⟨_, fun _ _ => rfl, hK _ ?_⟩
      clear hK K
      refine takeK 4 rfl (by kernel_rfl) (by kernel_rfl) (by kernel_rfl) rfl (fun _ _ _ _ h => h) rfl (fun K hK => ?_)
      go_big_quiet_op
      first | refine hK _ ?_ | refine ⟨_, fun _ _ => rfl, hK _ ?_⟩
      clear hK K
      refine takeK 5 rfl (by kernel_rfl) (by kernel_rfl) (by kernel_rfl) rfl (fun _ _ _ _ h => h) rfl (fun K hK => ?_)
      refine quiet_agg 40 (.tmp 12) rfl _ rfl P1 _ Try.underlying40 rfl (szPieceFrom04 HP1.out) (fun W' h => KeepB.cells h HK1.out rfl) ?_
      refine hK _ ?_
      simp only [Act.put, List.setIfInBounds_toArray, List.set_cons_succ, List.set_cons_zero]
      clear hK K
      refine takeK 6 rfl (by kernel_rfl) (by kernel_rfl) (by kernel_rfl) rfl (fun _ _ _ _ h => h) rfl (fun K hK => ?_)
      go_big_quiet_op
      first | refine hK _ ?_ | refine ⟨_, fun _ _ => rfl, hK _ ?_⟩
      clear hK K
      refine takeK 7 rfl (by kernel_rfl) (by kernel_rfl) (by kernel_rfl) rfl (fun _ _ _ _ h => h) rfl (fun K hK => ?_)
      go_big_quiet_op
      first | refine hK _ ?_ | refine ⟨_, fun _ _ => rfl, hK _ ?_⟩
      clear hK K
      refine takeK 8 rfl (by kernel_rfl) (by kernel_rfl) (by kernel_rfl) rfl (fun _ _ _ _ h => h) rfl (fun K hK => ?_)
      go_big_quiet_op
      first | refine hK _ ?_ | refine ⟨_, fun _ _ => rfl, hK _ ?_⟩
      clear hK K
      refine takeK 9 rfl (by kernel_rfl) (by kernel_rfl) (by kernel_rfl) rfl (fun _ _ _ _ h => h) rfl (fun K hK => ?_)
      refine quiet_agg 40 (.tmp 16) rfl _ rfl P2 _ Try.underlying40 rfl (szPieceFrom04 HP2.out) (fun W' h => KeepB.cells h HK2.out rfl) ?_
      refine hK _ ?_
      simp only [Act.put, List.setIfInBounds_toArray, List.set_cons_succ, List.set_cons_zero]
      clear hK K
      refine takeK 10 rfl (by kernel_rfl) (by kernel_rfl) (by kernel_rfl) rfl (fun _ _ _ _ h => h) rfl (fun K hK => ?_)
      go_big_quiet_op
      first | refine hK _ ?_ | refine ⟨_, fun _ _ => rfl, hK _ ?_⟩
      clear hK K
      refine takeK 11 rfl (by kernel_rfl) (by kernel_rfl) (by kernel_rfl) rfl (fun _ _ _ _ h => h) rfl (fun K hK => ?_)
      go_big_quiet_op
      first | refine hK _ ?_ | refine ⟨_, fun _ _ => rfl, hK _ ?_⟩
      clear hK K
      refine takeK 13 rfl (by kernel_rfl) (by kernel_rfl) (by kernel_rfl) rfl (fun _ _ _ _ h => h) rfl (fun K hK => ?_)
      go_big_quiet_op
      first | refine hK _ ?_ | refine ⟨_, fun _ _ => rfl, hK _ ?_⟩
      clear hK K
      refine stepM 12 rfl (by kernel_rfl) rfl (fun K hK => ?_)
      refine wp_store_part w0 35 (.tmp 19) (.tmp 13) rfl (w.heap.size + 2) (k * 16) rfl (mixAt C Z k) P1 _ rfl HB3.out (szPieceBFrom04 HP1.out) (by rw [mixAt_len, HP1.out]; omega) HO1.out ?_
      refine hK _ _ (fun b hb => (setRow_only _).block b (by have := HB1.out.lt; rcases hb with rfl; exact this) (by rcases hb with rfl; simp)) ?_
      clear hK K
      (try simp only [Act.put, List.setIfInBounds_toArray, List.set_cons_succ, List.set_cons_zero])
      refine takeK 14 rfl (by kernel_rfl) (by kernel_rfl) (by kernel_rfl) rfl (fun _ _ _ _ h => h) rfl (fun K hK => ?_)
      go_big_quiet_op
      first | refine hK _ ?_ | refine ⟨_, fun _ _ => rfl, hK _ ?_⟩
      clear hK K
      refine stepM 15 rfl (by kernel_rfl) rfl (fun K hK => ?_)
      refine wp_store_part _ 35 (.tmp 21) (.tmp 17) rfl (w.heap.size + 2) (512 + k * 16) rfl (putAt (mixAt C Z k) (k * 16) P1) P2 _ rfl (setRow_at HB3.out) (szPieceBFrom04 HP2.out) (by rw [putAt_len (by rw [mixAt_len, HP1.out]; omega), mixAt_len, HP2.out]; omega) HO2.out ?_
      refine hK _ _ (fun b hb => (setRow_only _).block b (by have := HB1.out.lt; rcases hb with rfl; simpa [World.setRow] using this) (by rcases hb with rfl; simp)) ?_
      clear hK K
      (try simp only [Act.put, List.setIfInBounds_toArray, List.set_cons_succ, List.set_cons_zero])
      refine doneM (by kernel_rfl) ?_ _
      have hx9 : Ext w ((w0.setRow (w.heap.size + 2) (putAt (mixAt C Z k) (k * 16) P1).toArray).setRow (w.heap.size + 2) (putAt (putAt (mixAt C Z k) (k * 16) P1) (512 + k * 16) P2).toArray) := grown_then (grown_then HX.out (setRow_only _) (.inr (by rintro b ⟨⟩; omega))) (setRow_only _) (.inr (by rintro b ⟨⟩; omega))
      have hb1 : Blk ((w0.setRow (w.heap.size + 2) (putAt (mixAt C Z k) (k * 16) P1).toArray).setRow (w.heap.size + 2) (putAt (putAt (mixAt C Z k) (k * 16) P1) (512 + k * 16) P2).toArray) w.heap.size 43 C := (HB1.out.keep (setRow_only _) (by simp)).keep (setRow_only _) (by simp)
      have hb2 : Blk ((w0.setRow (w.heap.size + 2) (putAt (mixAt C Z k) (k * 16) P1).toArray).setRow (w.heap.size + 2) (putAt (putAt (mixAt C Z k) (k * 16) P1) (512 + k * 16) P2).toArray) (w.heap.size + 1) 38 Z := (HB2.out.keep (setRow_only _) (by simp)).keep (setRow_only _) (by simp)
      have hb3 : Blk ((w0.setRow (w.heap.size + 2) (putAt (mixAt C Z k) (k * 16) P1).toArray).setRow (w.heap.size + 2) (putAt (putAt (mixAt C Z k) (k * 16) P1) (512 + k * 16) P2).toArray) (w.heap.size + 2) 38 (mixAt C Z (k + 1)) := by rw [← HST.out]; exact setRow_at (setRow_at HB3.out)
      generalize World.setRow _ _ _ = w9 at *
      have HX9 := Lib.hid hx9
      have HB91 := Lib.hid hb1
      have HB92 := Lib.hid hb2
      have HB93 := Lib.hid hb3
      clear hx9 hb1 hb2 hb3
      go_wp2
      go_roundw
      case rel => exact ⟨k + 1, by omega, by go_num, HX9.out, HB91.out, HB92.out, HB93.out, _, rfl⟩
      case measure => simp [intOf]; omega
    · obtain rfl : k = 32 := by omega
      rw [mixAt_all C Z HCL.out HZL.out] at hb3
      have hcm := hb3.cells
      have hr2 : wr.heap[w.heap.size + 1]? = some (.cells Z.toArray 38 (0, 0)) := hb2
      have HX := Lib.hid hx
      clear hx hb1 hb2 hb3
      go_wp2_with (first
        | (refine wpList_load_agg _ rfl 38 (.tmp 3) rfl _ rfl C _ Try.underlying38 rfl (szSigFrom04 HCL.out) hcm ?_)
        | (refine wpList_store_row _ rfl 38 (.tmp 2) (.tmp 23) rfl (w.heap.size + 1) rfl Z C _ rfl hr2 (szSigFrom04 HCL.out) (by rw [HCL.out, HZL.out]) hone ?_)
        | fail)
      have hc9 := Blk.cells (t := 38) (setRow_at (cs' := C.toArray) hr2)
      (try simp only [Exit.inBlock, Exit.then])
      refine bodyPost_ret (results_agg rfl _ _ _ _ _ rfl Try.underlying38 rfl (szSigFrom04 HCL.out) hc9) rfl ?_
      exact ⟨rfl, grown_then HX.out (setRow_only _) (.inr (by rintro b ⟨⟩; omega))⟩
end
section
open Go.RowKit

theorem own_one {w : World} (b : UInt8) : OwnB (w.alloc (.cells #[.int .u8 (b.toNat : Int)] 5)) (.slice (some ⟨w.heap.size, 0, none⟩) 1 1) [b] :=
  ⟨rfl, .inr ⟨w.heap.size, 1, #[.int .u8 (b.toNat : Int)], rfl, Nat.zero_le _, heap_alloc_new w _, Nat.le_refl _, by simp [maxLen], rfl, rfl⟩⟩
set_option maxRecDepth 100000 in
set_option maxHeartbeats 4000000 in
theorem BytesLong (S : List UInt8) (A : Option Addr) (n c : Nat) (hn : 5000 < n) (hnm : n ≤ 9223372036854775807) (w : World) :
    Calls Try.prog 7 #[.agg (bv S).toArray, .slice A n c] w fun e w' => e = .returned (.bool true) ∧ Ext w w' := by
  have hx0 : Ext w (w.alloc (.cells (bv S).toArray 38)) := (Ext.refl w).alloc _
  generalize bv S = C at *
  go_enter Try.func7, Try.ntmps7
  go_wp2_with (first
    | (go_at_call 10; refine (LAwake _).mono ?_; rintro e w9 ⟨rfl, hx9⟩)
    | fail)
  go_ret
  exact ⟨rfl, hx0.trans hx9⟩
end
section
open Go.RowKit

def halfM (seed : List UInt8) (n m : Nat) : List UInt8 := coverM (secretM seed n (m / 2) (m % 2))
theorem half_rows (seed : List UInt8) (n : Nat) : ∀ k, piecesM (halfM seed n) (2 * k) = piecesM (rowM seed n) k
  | 0 => by simp [piecesM]
  | k + 1 => by
    rw [show 2 * (k + 1) = 2 * k + 1 + 1 by omega, piecesM_succ, piecesM_succ, half_rows seed n k, piecesM_succ, List.append_assoc]
    unfold halfM rowM
    rw [show 2 * k / 2 = k by omega, show 2 * k % 2 = 0 by omega, show (2 * k + 1) / 2 = k by omega, show (2 * k + 1) % 2 = 1 by omega]
set_option maxRecDepth 100000 in
set_option maxHeartbeats 8000000 in
theorem RLeaf (seed : List UInt8) (hs : seed.length = 32) (n : Nat) (hn : n < 4294967296) (w : World) :
    Calls Try.prog 12 #[.agg tabsC.toArray, .agg (bv seed).toArray, .int .u32 (n : Int)] w fun e w' => e = .returned (.agg (bv (leafM seed n)).toArray) ∧ Ext w w' := by
  obtain ⟨i0, hi, hz0, hz1, hz2⟩ := info_parts u8_info
  obtain ⟨Z, hz, hzl⟩ : ∃ Z : List Value, (Try.prog.info? 35).bind (fun i => i.zero.map (·.cells)) = some Z.toArray ∧ Z.length = 16 := ⟨_, rpiece_zero, by simp⟩
  obtain ⟨D, hzd, hdl0⟩ : ∃ D : List Value, (Try.prog.info? 22).bind (fun i => i.zero.map (·.cells)) = some D.toArray ∧ D.length = 32 := ⟨_, arr_zero, by simp⟩
  have hsl : (bv seed).length = 32 := by rw [bv_length]; exact hs
  have hpl : ∀ m, (piecesM (halfM seed n) m).length = 16 * m := piecesM_length (f := halfM seed n) (fun _ => coverM_length _)
  have hall : piecesM (halfM seed n) 64 = allM seed n := half_rows seed n 32
  have hsec := fun (k : Nat) (hk : k < 32) (bt : Nat) (hbt : bt < 2) W => RSecret seed hs n hn k hk bt hbt W
  have hcov := fun (p : List UInt8) (hp : p.length = 16) W => RCover p hp W
  have hal : (allM seed n).length = 1024 := piecesM_length (f := rowM seed n) (fun k => rowM_length _ _ _) 32
  have hfor := fun v W F hp2 hF => RFor 2 2 rfl [allM seed n] (by simp [blob, be_length, hal]) v W F hp2 hF
  have hlm : sha (textM 2 [allM seed n]) = leafM seed n := rfl
  rw [hlm] at hfor
  have hrl : (bv (leafM seed n)).length = 32 := by rw [bv_length]; exact leafOf_length _
  have hro := bv_one (leafM seed n)
  have hts : (Try.prog.info? 25).map (·.size) = some tabsC.length := tabs_size rfl
  generalize tabsC = TB at *
  generalize bv (leafM seed n) = R at *
  have hb0 : Blk (((w.alloc (.cells TB.toArray 25)).alloc (.cells (bv seed).toArray 22)).alloc (.cells D.toArray 22)) w.heap.size 25 TB := ((Blk.new _ _ _).keep ((Ext.refl _).alloc _) (by simp)).keep ((Ext.refl _).alloc _) (by simp)
  have hb1 : Blk (((w.alloc (.cells TB.toArray 25)).alloc (.cells (bv seed).toArray 22)).alloc (.cells D.toArray 22)) (w.heap.size + 1) 22 (bv seed) := (Blk.fresh (by simp) _ _).keep ((Ext.refl _).alloc _) (by simp)
  have hb2 : Blk (((w.alloc (.cells TB.toArray 25)).alloc (.cells (bv seed).toArray 22)).alloc (.cells D.toArray 22)) (w.heap.size + 1 + 1) 22 D := Blk.fresh (by simp) _ _
  have hx0 : Ext w (((w.alloc (.cells TB.toArray 25)).alloc (.cells (bv seed).toArray 22)).alloc (.cells D.toArray 22)) := (((Ext.refl w).alloc _).alloc _).alloc _
  generalize bv seed = SC at *
  have HB0 := Lib.hid hb0
  have HB1 := Lib.hid hb1
  have HB2 := Lib.hid hb2
  have HX0 := Lib.hid hx0
  have HSL := Lib.hid hsl
  have HZL := Lib.hid hzl
  have HDL0 := Lib.hid hdl0
  have HPL := Lib.hid hpl
  have HALL := Lib.hid hall
  have HSEC := Lib.hid hsec
  have HCOV := Lib.hid hcov
  have HFOR := Lib.hid hfor
  have HRL := Lib.hid hrl
  have HTS := Lib.hid hts
  clear hb0 hb1 hb2 hx0 hsl hzl hdl0 hpl hall hsec hcov hfor hrl hts hlm hal
  go_enter Try.func12, Try.ntmps12
  go_wp2_with (first
    | (refine wpList_alloc _ rfl 22 rfl _ hzd ?_)
    | fail)
  go_loopw [7, 8, 9, 10] (fun u i j p wr => ∃ k : Nat, k ≤ 32 ∧ i = .int .i64 k ∧ OwnB wr u (piecesM (halfM seed n) (2 * k)) ∧ Ext w wr ∧ Blk wr w.heap.size 25 TB ∧ Blk wr (w.heap.size + 1) 22 SC ∧ Blk wr (w.heap.size + 1 + 1) 22 D ∧ ∀ b, u.ownBlock = some b → w.heap.size + 1 + 1 + 1 ≤ b) (fun _ i _ _ _ => 32 - (intOf i).toNat)
  case atStart => exact ⟨0, by omega, rfl, Own.nil _ _ _, HX0.out, HB0.out, HB1.out, HB2.out, fun b hb => by simp [Value.ownBlock] at hb⟩
  case round =>
    clear HX0 HB0 HB1 HB2
    obtain ⟨k, hk, rfl, hou, hx, hb0, hb1, hb2, hne⟩ := hrel
    obtain ⟨wo, hwo⟩ : ∃ wo, wo = wr := ⟨_, rfl⟩
    by_cases hlt : k < 32
    · subst hwo
      have HO := Lib.hid hou
      have HX := Lib.hid hx
      have HB0 := Lib.hid hb0
      have HB1 := Lib.hid hb1
      have HB2 := Lib.hid hb2
      have HNE := Lib.hid hne
      clear hou hx hb0 hb1 hb2 hne
      go_wp2_with fail
      have hdk0 : decide ((k : Int) < 32) = true := by rw [decide_eq_true_iff]; omega
      (try simp only [hdk0])
      clear hdk0
      go_loopw [7, 9, 10] (fun u i p wr => ∃ j : Nat, j ≤ 2 ∧ i = .int .i64 j ∧ OwnB wr u (piecesM (halfM seed n) (2 * k + j)) ∧ Ext w wr ∧ Blk wr w.heap.size 25 TB ∧ Blk wr (w.heap.size + 1) 22 SC ∧ Blk wr (w.heap.size + 1 + 1) 22 D ∧ ∀ b, u.ownBlock = some b → w.heap.size + 1 + 1 + 1 ≤ b) (fun _ i _ _ => 2 - (intOf i).toNat)
      case atStart => exact ⟨0, by omega, rfl, HO.out, HX.out, HB0.out, HB1.out, HB2.out, HNE.out⟩
      case round =>
        clear HO HX HB0 HB1 HB2 HNE
        obtain ⟨j, hj, rfl, hou, hx, hb0, hb1, hb2, hne⟩ := hrel
        by_cases hlj : j < 2
        · have hsc := fun W => HSEC.out k hlt j hlj W
          have hcv := fun W => HCOV.out (secretM seed n k j) (secretM_length _ _ _ _) W
          have hcl : (bv (coverM (secretM seed n k j))).length = 16 := by rw [bv_length, coverM_length]
          have hco := bv_one (coverM (secretM seed n k j))
          have hst : piecesM (halfM seed n) (2 * k + (j + 1)) = piecesM (halfM seed n) (2 * k + j) ++ coverM (secretM seed n k j) := by
            rw [← Nat.add_assoc, piecesM_succ]
            unfold halfM
            rw [show (2 * k + j) / 2 = k by omega, show (2 * k + j) % 2 = j by omega]
          have hpk := HPL.out (2 * k + j)
          have hcvl := coverM_length (secretM seed n k j)
          generalize bv (secretM seed n k j) = S1 at *
          generalize hcvb : coverM (secretM seed n k j) = CB at *
          generalize hCV : bv CB = CV at *
          have HSC := Lib.hid hsc
          have HCV := Lib.hid hcv
          have HCL := Lib.hid hcl
          have HST := Lib.hid hst
          have HPK := Lib.hid hpk
          have HCVE := Lib.hid hCV
          have HCBL := Lib.hid hcvl
          have HOUr := Lib.hid hou
          have HX := Lib.hid hx
          have HB0 : Hid (Blk wr.drew w.heap.size 25 TB) := Lib.hid hb0
          have HB1 : Hid (Blk wr.drew (w.heap.size + 1) 22 SC) := Lib.hid hb1
          have HB2 : Hid (Blk wr.drew (w.heap.size + 1 + 1) 22 D) := Lib.hid hb2
          have HNE := Lib.hid hne
          have HLTU := Lib.hid (OwnB.lt hou)
          clear hsc hcv hcl hst hpk hCV hcvl hou hx hb0 hb1 hb2 hne hcvb
          go_wp2_with fail
          have hdk : decide ((k : Int) < 32) = true := by rw [decide_eq_true_iff]; omega
          have hdj : decide ((j : Int) < 2) = true := by rw [decide_eq_true_iff]; omega
          (try simp only [hdk])
          (try simp only [hdj])
          clear hdk hdj
          refine stab_store Ext ext_refl ext_trans [[0], [1], [2], [3], [4], [5], [1, 2, 3, 4, 5, 6], [0, 1, 2, 3, 4, 5, 6, 7], [8], [0, 1, 2, 3, 4, 5, 6, 7, 8, 9]] (fun i v wv => match i with | 0 => v = .agg TB.toArray | 1 => v = .agg TB.toArray | 2 => v = .agg SC.toArray | 3 => v = .int .u32 (n : Int) | 4 => v = .int .i64 (k : Int) | 5 => v = .int .i64 (j : Int) | 6 => v = .agg S1.toArray | 7 => v = .agg CV.toArray | 8 => ∃ g, v = .pointer (some ⟨g, 0, none⟩) ∧ wr.heap.size ≤ g ∧ Blk wv g 35 Z | _ => True) (by kernel_rfl) (by kernel_rfl) (by kernel_rfl) (by kernel_rfl) (by simp) ?_ ?_ ?_
          · intro i v w1 w2 h hx
            match i, h with
            | 0, h => exact h
            | 1, h => exact h
            | 2, h => exact h
            | 3, h => exact h
            | 4, h => exact h
            | 5, h => exact h
            | 6, h => exact h
            | 7, h => exact h
            | 8, h =>
              replace h : ∃ g, v = .pointer (some ⟨g, 0, none⟩) ∧ wr.heap.size ≤ g ∧ Blk w1 g 35 Z := h
              show ∃ g, v = .pointer (some ⟨g, 0, none⟩) ∧ wr.heap.size ≤ g ∧ Blk w2 g 35 Z
              obtain ⟨g, h1, h2, h3⟩ := h
              exact ⟨g, h1, h2, h3.keep hx (by simp)⟩
            | i + 9, h => trivial
          · intro i hi o ho
            match i, hi, ho with
            | 0, _, ho =>
              obtain rfl := Option.some.inj ho
              intro s W hX hd K hK
              rw [if_pos (wanted_plain rfl)]
              clear hd
              replace hK : ∀ (v : Value) (W' : World), Ext W W' → (v = .agg TB.toArray) → _ := hK
              simp only [mkOf, List.map_cons, List.map_nil, Act.put, List.setIfInBounds_toArray, List.set_cons_succ, List.set_cons_zero, Nat.reduceAdd, Nat.zero_add] at hK ⊢
              refine wp_load_agg 25 (.tmp 3) rfl _ rfl TB _ Try.underlying25 rfl HTS.out (HB0.out.keep hX (by simp)).cells ?_
              exact hK _ _ (Ext.refl _) rfl
            | 1, _, ho =>
              obtain rfl := Option.some.inj ho
              intro s W hX hd K hK
              rw [if_pos (wanted_plain rfl)]
              clear hd
              replace hK : ∀ (v : Value) (W' : World), Ext W W' → (v = .agg TB.toArray) → _ := hK
              simp only [mkOf, List.map_cons, List.map_nil, Act.put, List.setIfInBounds_toArray, List.set_cons_succ, List.set_cons_zero, Nat.reduceAdd, Nat.zero_add] at hK ⊢
              refine wp_load_agg 25 (.tmp 3) rfl _ rfl TB _ Try.underlying25 rfl HTS.out (HB0.out.keep hX (by simp)).cells ?_
              exact hK _ _ (Ext.refl _) rfl
            | 2, _, ho =>
              obtain rfl := Option.some.inj ho
              intro s W hX hd K hK
              rw [if_pos (wanted_plain rfl)]
              clear hd
              replace hK : ∀ (v : Value) (W' : World), Ext W W' → (v = .agg SC.toArray) → _ := hK
              simp only [mkOf, List.map_cons, List.map_nil, Act.put, List.setIfInBounds_toArray, List.set_cons_succ, List.set_cons_zero, Nat.reduceAdd, Nat.zero_add] at hK ⊢
              refine wp_load_agg 22 (.tmp 4) rfl _ rfl SC _ Try.underlying22 rfl (arr_size HSL.out) (HB1.out.keep hX (by simp)).cells ?_
              exact hK _ _ (Ext.refl _) rfl
            | 3, _, ho =>
              obtain rfl := Option.some.inj ho
              intro s W hX hd K hK
              rw [if_pos (wanted_plain rfl)]
              clear hd
              replace hK : ∀ (v : Value) (W' : World), Ext W W' → (v = .int .u32 (n : Int)) → _ := hK
              simp only [mkOf, List.map_cons, List.map_nil, Act.put, List.setIfInBounds_toArray, List.set_cons_succ, List.set_cons_zero, Nat.reduceAdd, Nat.zero_add] at hK ⊢
              go_simp
              exact hK _ _ (Ext.refl _) rfl
            | 4, _, ho =>
              obtain rfl := Option.some.inj ho
              intro s W hX hd K hK
              rw [if_pos (wanted_plain rfl)]
              clear hd
              replace hK : ∀ (v : Value) (W' : World), Ext W W' → (v = .int .i64 (k : Int)) → _ := hK
              simp only [mkOf, List.map_cons, List.map_nil, Act.put, List.setIfInBounds_toArray, List.set_cons_succ, List.set_cons_zero, Nat.reduceAdd, Nat.zero_add] at hK ⊢
              go_simp
              exact hK _ _ (Ext.refl _) rfl
            | 5, _, ho =>
              obtain rfl := Option.some.inj ho
              intro s W hX hd K hK
              rw [if_pos (wanted_plain rfl)]
              clear hd
              replace hK : ∀ (v : Value) (W' : World), Ext W W' → (v = .int .i64 (j : Int)) → _ := hK
              simp only [mkOf, List.map_cons, List.map_nil, Act.put, List.setIfInBounds_toArray, List.set_cons_succ, List.set_cons_zero, Nat.reduceAdd, Nat.zero_add] at hK ⊢
              go_simp
              exact hK _ _ (Ext.refl _) rfl
            | 6, _, ho =>
              obtain rfl := Option.some.inj ho
              intro s W hX hd K hK
              rw [if_pos (wanted_plain rfl)]
              have d20 : (s 1) = .agg TB.toArray := hd 1 (by decide) (by decide)
              have d21 : (s 2) = .agg SC.toArray := hd 2 (by decide) (by decide)
              have d22 : (s 3) = .int .u32 (n : Int) := hd 3 (by decide) (by decide)
              have d23 : (s 4) = .int .i64 (k : Int) := hd 4 (by decide) (by decide)
              have d24 : (s 5) = .int .i64 (j : Int) := hd 5 (by decide) (by decide)
              clear hd
              replace hK : ∀ (v : Value) (W' : World), Ext W W' → (v = .agg S1.toArray) → _ := hK
              simp only [mkOf, List.map_cons, List.map_nil, Act.put, List.setIfInBounds_toArray, List.set_cons_succ, List.set_cons_zero, Nat.reduceAdd, Nat.zero_add] at hK ⊢
              simp only [d20, d21, d22, d23, d24] at hK ⊢
              go_simp
              refine (HSC.out W).mono ?_
              rintro e w' ⟨rfl, hx⟩
              exact hK _ _ hx rfl
            | 7, _, ho =>
              obtain rfl := Option.some.inj ho
              intro s W hX hd K hK
              rw [if_pos (wanted_plain rfl)]
              have d19 : (s 0) = .agg TB.toArray := hd 0 (by decide) (by decide)
              have d25 : (s 6) = .agg S1.toArray := hd 6 (by decide) (by decide)
              clear hd
              replace hK : ∀ (v : Value) (W' : World), Ext W W' → (v = .agg CV.toArray) → _ := hK
              simp only [mkOf, List.map_cons, List.map_nil, Act.put, List.setIfInBounds_toArray, List.set_cons_succ, List.set_cons_zero, Nat.reduceAdd, Nat.zero_add] at hK ⊢
              simp only [d19, d25] at hK ⊢
              go_simp
              refine (HCV.out W).mono ?_
              rintro e w' ⟨rfl, hx⟩
              exact hK _ _ hx rfl
            | 8, _, ho =>
              obtain rfl := Option.some.inj ho
              intro s W hX hd K hK
              rw [if_pos (wanted_plain rfl)]
              clear hd
              replace hK : ∀ (v : Value) (W' : World), Ext W W' → (∃ g, v = .pointer (some ⟨g, 0, none⟩) ∧ wr.heap.size ≤ g ∧ Blk W' g 35 Z) → _ := hK
              simp only [mkOf, List.map_cons, List.map_nil, Act.put, List.setIfInBounds_toArray, List.set_cons_succ, List.set_cons_zero, Nat.reduceAdd, Nat.zero_add] at hK ⊢
              refine wp_alloc_agg 35 rfl Z hz ?_
              exact hK _ _ ((Ext.refl _).alloc _) ⟨_, rfl, by have := hX.size; simpa using this, Blk.new _ _ _⟩
            | i + 9, hi, _ => exact absurd hi (by simp)
          · intro o ho
            obtain rfl := Option.some.inj ho
            intro s W hX hd K hK
            rw [if_pos (wanted_plain rfl)]
            have d19 : (s 0) = .agg TB.toArray := hd 0 (by decide)
            have d20 : (s 1) = .agg TB.toArray := hd 1 (by decide)
            have d21 : (s 2) = .agg SC.toArray := hd 2 (by decide)
            have d22 : (s 3) = .int .u32 (n : Int) := hd 3 (by decide)
            have d23 : (s 4) = .int .i64 (k : Int) := hd 4 (by decide)
            have d24 : (s 5) = .int .i64 (j : Int) := hd 5 (by decide)
            have d25 : (s 6) = .agg S1.toArray := hd 6 (by decide)
            have d26 : (s 7) = .agg CV.toArray := hd 7 (by decide)
            have d10 : ∃ g, (s 8) = .pointer (some ⟨g, 0, none⟩) ∧ wr.heap.size ≤ g ∧ Blk W g 35 Z := hd 8 (by decide)
            clear hd
            simp only [mkOf, List.map_cons, List.map_nil, Act.put, List.setIfInBounds_toArray, List.set_cons_succ, List.set_cons_zero, Nat.reduceAdd, Nat.zero_add]
            obtain ⟨g, hg, hgb, hB⟩ := d10
            rw [hg]
            refine wp_store_row 35 (.tmp 10) (.tmp 26) rfl g rfl Z CV _ (by simpa [Act.eval] using d26) hB (rpiece_size HCL.out) (by rw [HCL.out, HZL.out]) hco ?_
            refine hK _ _ ?_
            have hV : Ext wr (W.setRow g CV.toArray) := setRow_grown ((Ext.refl wr).drew.trans hX) _ _ hgb
            have hgV : Blk (W.setRow g CV.toArray) g 35 CV := setRow_at hB
            generalize W.setRow g CV.toArray = V at *
            have HVX := Lib.hid hV
            have HCG := Lib.hid hgV.cells
            have HOU := Lib.hid (HOUr.out.ext hV)
            clear hK hX hV hgV hB d19 d20 d21 d22 d23 d24 d25 d26
            (try simp only [Exit.then])
            go_wp2_with (first
              | (at_builtin
                 refine wpList_app _ rfl (.tmp 27) (.tmp 28) _ _ rfl 5 5 i0 _ 1 1 Try.underlying55 Try.underlying55 hi hz0 hz1 hz2 rfl (by decide) u7 _ _ rfl HOU.out _ 16 16 CV rfl (by rw [HCL.out]) (fun _ => ⟨_, rfl, HCG.out⟩) hco (by rw [HPK.out]; unfold maxLen; omega) (by rw [HPK.out]; omega) ?_
                 intro v9 w9 ho9 hm9)
              | fail)
            have hfr : ∀ b, u7.ownBlock = some b → w.heap.size ≤ b := fun b hb => by have := HNE.out b hb; omega
            have hx9 : Ext w w9 := grown_then (HX.out.trans HVX.out) hm9.grown (.inr hfr)
            have kk : ∀ {h : Nat} {t : TypeId} {cs : List Value}, Blk wr h t cs → h < w.heap.size + 1 + 1 + 1 → Blk w9 h t cs := fun h hg => (h.keep HVX.out (by simp)).keep hm9.grown (fun e => by have := HNE.out _ e.symm; omega)
            have HB90 := Lib.hid (kk (t := 25) HB0.out (by omega))
            have HB91 := Lib.hid (kk (t := 22) HB1.out (by omega))
            have HB92 := Lib.hid (kk (t := 22) HB2.out (by omega))
            have HN9 : Hid (∀ b, v9.ownBlock = some b → w.heap.size + 1 + 1 + 1 ≤ b) := Lib.hid fun b hb => by
              rcases hm9.at_ with e | hn
              · exact HNE.out b (e.symm.trans hb)
              · have h1 := hn b hb
                have h2 := HVX.out.size
                have h3 := Blk.lt (w := wr) (t := 22) HB2.out
                omega
            have HO9 : Hid (OwnB w9 v9 (piecesM (halfM seed n) (2 * k + (j + 1)))) := Lib.hid (by
              rw [HST.out]
              unfold OwnB
              rw [bv_append, HCVE.out, List.length_append, HCBL.out]
              exact ho9)
            have HX9 := Lib.hid hx9
            clear hx9 kk ho9 hm9 hfr
            go_wp2_with fail
            go_roundw
            case rel => exact ⟨j + 1, by omega, by go_num, HO9.out, HX9.out, HB90.out, HB91.out, HB92.out, HN9.out⟩
            case measure => simp [intOf]; omega
        · obtain rfl : j = 2 := by omega
          have HO9 := Lib.hid hou
          have HX9 := Lib.hid hx
          have HB90 := Lib.hid hb0
          have HB91 := Lib.hid hb1
          have HB92 := Lib.hid hb2
          have HN9 := Lib.hid hne
          clear hou hx hb0 hb1 hb2 hne
          go_wp2_with fail
          go_roundw
          case rel => exact ⟨k + 1, by omega, by go_num, by rw [show 2 * (k + 1) = 2 * k + 2 by omega]; exact HO9.out, HX9.out, HB90.out, HB91.out, HB92.out, HN9.out⟩
          case measure => simp [intOf]; omega
    · obtain rfl : k = 32 := by omega
      rw [show 2 * 32 = 64 from rfl, HALL.out] at hou
      obtain ⟨A, c, hv⟩ := OwnB.form hou
      subst hv
      have h1 := hou.holds
      have hlt1 := OwnB.lt hou
      obtain ⟨F, hp9, hF9⟩ := one_part (T := 55) h1 hlt1
      have hct := hb0.cells
      have HF9 := Lib.hid (HFOR.out _ _ F hp9 hF9)
      have HX := Lib.hid (hx.alloc (.cells #[Value.slice A (allM seed n).length c] 55))
      have HB3 := Lib.hid (hb2.keep ((Ext.refl wr).alloc (.cells #[Value.slice A (allM seed n).length c] 55)) (by simp))
      clear hx hb0 hb1 hb2 hou h1 hlt1 hp9 hF9 hne
      generalize (allM seed n).length = m at *
      clear hwo
      go_wp2_with (first
        | (refine wpList_load_agg _ rfl 25 (.tmp 3) rfl _ rfl TB _ Try.underlying25 rfl HTS.out hct ?_)
        | fail)
      refine (HF9.out).mono ?_
      rintro e w4 ⟨rfl, hx4⟩
      have hr4 : w4.heap[w.heap.size + 1 + 1]? = some (.cells D.toArray 22 (0, 0)) := HB3.out.keep hx4 (by simp)
      have hx5 := HX.out.trans hx4
      go_wp2_with (first
        | (refine wpList_store_row _ rfl 22 (.tmp 6) (.tmp 33) rfl (w.heap.size + 1 + 1) rfl D R _ rfl hr4 (arr_size HRL.out) (by rw [HRL.out, HDL0.out]) hro ?_)
        | fail)
      have hc9 := Blk.cells (t := 22) (setRow_at (cs' := R.toArray) hr4)
      (try simp only [Exit.inBlock, Exit.then])
      refine bodyPost_ret (results_agg rfl _ _ _ _ _ rfl Try.underlying22 rfl (arr_size HRL.out) hc9) rfl ?_
      exact ⟨rfl, setRow_grown hx5 _ _ (by omega)⟩
end
section
open Go.RowKit

def PieceT : Ty := .arr 16 .u8
def SigT : Ty := .st (.pair (.arr 32 PieceT) (.pair (.arr 32 PieceT) .unit))
def DigT4 : Ty := .arr 32 .u8
def zSigC : List Value := bv (List.replicate 1024 0)
def zDigC : List Value := bv (List.replicate 32 0)
theorem agg_cells4 (cs : List Value) : (Value.agg cs.toArray).cells.toList = cs := by simp [Value.cells]
theorem pieces_bytes {w : World} {F : Fp} : ∀ {l : List (List UInt8)} {cs : List Value}, AllH (PieceT.holds w F) cs l → ∃ B : List UInt8, cs = bv B
  | [], _, h => ⟨[], h⟩
  | p :: l, _, h => by
    obtain ⟨c1, c2, rfl, h1, h2⟩ := h
    obtain ⟨B, rfl⟩ := pieces_bytes h2
    exact ⟨p ++ B, by rw [bv_append, AllH.bytes.1 h1.2]⟩
theorem sig_open {w : World} {F : Fp} {cs : List Value} {sg : SigT.Data} (h : SigT.holds w F (Value.agg cs.toArray).cells.toList sg) : ∃ S : List UInt8, cs = bv S ∧ S.length = 1024 := by
  rw [agg_cells4] at h
  have hl := Ty.len SigT h
  obtain ⟨c1, _, rfl, ⟨_, h1⟩, c2, _, rfl, ⟨_, h2⟩, rfl⟩ := h
  obtain ⟨B1, rfl⟩ := pieces_bytes h1
  obtain ⟨B2, rfl⟩ := pieces_bytes h2
  refine ⟨B1 ++ B2, by rw [bv_append, List.append_nil], ?_⟩
  rw [List.append_nil, List.length_append, bv_length, bv_length] at hl
  rw [List.length_append]; exact hl
theorem dig_open {w : World} {F : Fp} {cs : List Value} {d : DigT4.Data} (h : DigT4.holds w F (Value.agg cs.toArray).cells.toList d) : ∃ S : List UInt8, cs = bv S ∧ S.length = 32 := by
  rw [agg_cells4] at h
  exact ⟨d, AllH.bytes.1 h.2, h.1⟩
end
end Go.Proofs.Ytfoomnibfibfnaa

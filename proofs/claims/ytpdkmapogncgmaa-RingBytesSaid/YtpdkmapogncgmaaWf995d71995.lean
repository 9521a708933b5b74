/- Walks and plain laws, put together in build order. Conditions: what each of them names. -/
import Derived.Test.YtpdkmapogncgmaaWb070c7e1ff
set_option linter.unusedVariables false
set_option linter.unusedSimpArgs false
set_option linter.unnecessarySimpa false
namespace Go.Proofs.Ytpdkmapogncgmaa
section
open Go.RowKit

/-- Piece k, its first j bytes laid. -/
def halfAt (C Z : List Value) (P1 P2 : List UInt8) (k j : Nat) : List Value := putAt (putAt (mixAt C Z k) (k * 16) (bv (P1.take j))) (512 + k * 16) (bv (P2.take j))
/-- .. and one more of the open one. -/
def halfAt1 (C Z : List Value) (P1 P2 : List UInt8) (k j : Nat) : List Value := putAt (putAt (mixAt C Z k) (k * 16) (bv (P1.take (j + 1)))) (512 + k * 16) (bv (P2.take j))
theorem put_more {M : List Value} {off : Nat} {P : List UInt8} {j : Nat} (hj : j < P.length) (hl : off + j < M.length) : (putAt M off (bv (P.take j))).set (off + j) (.int .u8 ((P.getD j 0).toNat : Int)) = putAt M off (bv (P.take (j + 1))) := by
  have h1 : (bv (P.take j)).length = j := by rw [bv_length, List.length_take]; omega
  have h2 : (bv (P.take (j + 1))).length = j + 1 := by rw [bv_length, List.length_take]; omega
  have e : P.take (j + 1) = P.take j ++ [P.getD j 0] := by rw [List.take_add_one]; simp [List.getD, hj]
  unfold putAt
  rw [h1, h2, e, bv_append, List.append_assoc, List.set_append_right _ _ (by rw [List.length_take]; omega), List.length_take, Nat.min_eq_left (by omega), Nat.add_sub_cancel_left, List.set_append_right _ _ (by omega), h1, Nat.sub_self, List.drop_eq_getElem_cons (show off + j < M.length by omega), List.set_cons_zero]
  simp [bv, List.append_assoc]
  rfl
theorem putAt_set {M : List Value} {o2 i : Nat} {c : List Value} (v : Value) (h : i < o2) (hl : o2 + c.length ≤ M.length) : (putAt M o2 c).set i v = putAt (M.set i v) o2 c := by
  unfold putAt
  rw [List.append_assoc, List.set_append_left _ _ (by rw [List.length_take]; omega), List.take_set, List.drop_set_of_lt (by omega), List.append_assoc]
theorem putAt_nil (M : List Value) (o : Nat) : putAt M o (bv []) = M := by unfold putAt; simp [bv]
set_option maxRecDepth 100000 in
set_option maxHeartbeats 8000000 in
theorem RTake {w : World} {g : Nat} {F : Fp} {s : InS} (h : RIn w g F s) :
    Calls Try.prog 54 #[.pointer (some ⟨g, 0, none⟩)] w fun e w' => e = .returned (.agg (bv (takeS s)).toArray) ∧ RIn w' g F (stT s 32) ∧ w.grownBy w' (some g) := by
  obtain ⟨Z, hz, hzl⟩ : ∃ Z : List Value, (Try.prog.info? 26).bind (fun i => i.zero.map (·.cells)) = some Z.toArray ∧ Z.length = 1024 := ⟨_, rsig_zero, List.length_replicate⟩
  obtain ⟨ZD, hzd, hzdl⟩ : ∃ ZD : List Value, (Try.prog.info? 31).bind (fun i => i.zero.map (·.cells)) = some ZD.toArray ∧ ZD.length = 32 := ⟨_, arr_zero, by simp⟩
  have hgl := h.lt
  have HFB : Hid (∀ b, F b → b < w.heap.size) := Lib.hid fun b hb => (h.fp b hb).1
  have hC : (bv (takeS s)).length = 1024 := by rw [bv_length, takeS_length]
  have hone := bv_one (takeS s)
  have hop := fun k (h : k < 32) => take_open s h
  have hot := fun k (h : k < 32) => take_other s h
  have hb2 : Blk ((w.alloc (.cells Z.toArray 26)).alloc (.cells Z.toArray 26)) w.heap.size 26 Z := (Blk.new _ _ _).keep ((Ext.refl _).alloc _) (by simp)
  have hb3 : Blk ((w.alloc (.cells Z.toArray 26)).alloc (.cells Z.toArray 26)) (w.heap.size + 1) 26 Z := Blk.fresh (by simp) _ _
  have hx0 : Ext w ((w.alloc (.cells Z.toArray 26)).alloc (.cells Z.toArray 26)) := ((Ext.refl w).alloc _).alloc _
  have hin := h.keep hx0 (by simp) (fun b _ => by simp)
  have hg0 : w.grownBy ((w.alloc (.cells Z.toArray 26)).alloc (.cells Z.toArray 26)) (some g) := hx0.any _
  generalize bv (takeS s) = C at *
  have HB2 := Lib.hid hb2
  have HB3 := Lib.hid hb3
  have HIN := Lib.hid hin
  have HG0 := Lib.hid hg0
  have HCL := Lib.hid hC
  have HZL := Lib.hid hzl
  have HZDL := Lib.hid hzdl
  have HOP := Lib.hid hop
  have HOT := Lib.hid hot
  have HGL := Lib.hid hgl
  clear hb2 hb3 hx0 hin hg0 hC hzl hzdl hop hot hgl h
  go_enter Try.func54, Try.ntmps54
  go_wp2_with (first
    | (refine wpList_alloc _ rfl 26 rfl _ hz ?_)
    | fail)
  go_loopw [4, 5, 6] (fun i p r wr => ∃ k : Nat, k ≤ 32 ∧ i = .int .i64 k ∧ w.grownBy wr (some g) ∧ RIn wr g F (stT s k) ∧ Blk wr w.heap.size 26 Z ∧ Blk wr (w.heap.size + 1) 26 (mixAt C Z k)) (fun i _ _ _ => 32 - (intOf i).toNat)
  case atStart => exact ⟨0, by omega, rfl, HG0.out, HIN.out, HB2.out, by rw [mixAt_zero C Z HCL.out HZL.out]; exact HB3.out⟩
  case round =>
    clear HG0 HIN HB2 HB3
    obtain ⟨k, hk, rfl, hg, hin, hb2, hb3⟩ := hrel
    obtain ⟨wo, hwo⟩ : ∃ wo, wo = wr := ⟨_, rfl⟩
    by_cases hlt : k < 32
    · subst hwo
      have hst := mixAt_step C Z HCL.out HZL.out k hlt
      rw [HOP.out k hlt, HOT.out k hlt] at hst
      have hdo := bv_one (sumM (stT s k)).1
      have hdl : (bv (sumM (stT s k)).1).length = 32 := by rw [bv_length, sumM_length]
      have hx1 : ∀ j, j < 16 → (bv (sumM (stT s k)).1)[j]? = some (.int .u8 (((takeO s k).getD j 0).toNat : Int)) := fun j hj => by
        have := sumM_length (stT s k)
        simp [takeO, bv, List.getD, List.getElem?_take, hj, show j < (sumM (stT s k)).1.length by omega]
      have hx2 : ∀ j, j < 16 → (bv (sumM (stT s k)).1)[16 + j]? = some (.int .u8 (((takeT s k).getD j 0).toNat : Int)) := fun j hj => by
        have := sumM_length (stT s k)
        simp [takeT, bv, List.getD, List.getElem?_drop, show 16 + j < (sumM (stT s k)).1.length by omega]
      have hp1 := takeO_length s k
      have hp2 := takeT_length s k
      have hsm := RSum hin
      have hs1 : (sumM (stT s k)).2 = stT s (k + 1) := rfl
      rw [hs1] at hsm
      generalize takeO s k = P1 at *
      generalize takeT s k = P2 at *
      generalize bv (sumM (stT s k)).1 = DD at *
      have HST := Lib.hid hst
      have HDL := Lib.hid hdl
      have HX1A := Lib.hid hx1
      have HX2A := Lib.hid hx2
      have HP1 := Lib.hid hp1
      have HP2 := Lib.hid hp2
      have HSM := Lib.hid hsm
      have HG := Lib.hid hg
      have HB2 := Lib.hid hb2
      have HB3 := Lib.hid hb3
      clear hst hdl hx1 hx2 hp1 hp2 hsm hg hb2 hb3 hin hs1
      go_wp2_with fail
      refine HSM.out.mono ?_
      rintro e w1 ⟨rfl, hin1, hg1⟩
      have hxd : Ext w1 (w1.alloc (.cells DD.toArray 31)) := (Ext.refl w1).alloc _
      have HIN1 := Lib.hid (hin1.keep hxd (by simp) (fun b _ => by simp))
      have HG1 : Hid (w.grownBy (w1.alloc (.cells DD.toArray 31)) (some g)) := Lib.hid (grown_then (grown_then HG.out hg1 (.inl rfl)) (hxd.any _) (.inl rfl))
      have HB21 := Lib.hid ((HB2.out.keep hg1 (by have := HGL.out; simp; omega)).keep hxd (by simp))
      have hb31 := HB3.out.keep hg1 (by have := HGL.out; simp; omega)
      have HB31 := Lib.hid (hb31.keep hxd (by simp))
      have HBD : Hid (Blk (w1.alloc (.cells DD.toArray 31)) w1.heap.size 31 DD) := Lib.hid (Blk.new _ _ _)
      have HLT3 : Hid (w.heap.size + 1 < w1.heap.size) := Lib.hid hb31.lt
      clear hin1 hg1 hxd hb31
      go_wp2_with (first
        | (refine wpList_alloc _ rfl 31 rfl _ hzd ?_)
        | (refine wpList_store_new _ rfl 31 (.tmp 5) (.tmp 12) rfl rfl ZD DD _ rfl (arr_size HDL.out) (by rw [HDL.out, HZDL.out]) hdo ?_)
        | fail)
      generalize w1.alloc (.cells DD.toArray 31) = V at *
      have hdk0 : decide ((k : Int) < 32) = true := by rw [decide_eq_true_iff]; omega
      (try simp only [hdk0])
      clear hdk0
      go_loopw [6] (fun i wr => ∃ j : Nat, j ≤ 16 ∧ i = .int .i64 j ∧ w.grownBy wr (some g) ∧ RIn wr g F (stT s (k + 1)) ∧ Blk wr w.heap.size 26 Z ∧ Blk wr (w.heap.size + 1) 26 (halfAt C Z P1 P2 k j) ∧ Blk wr w1.heap.size 31 DD) (fun i _ => 16 - (intOf i).toNat)
      case atStart => exact ⟨0, by omega, rfl, HG1.out, HIN1.out, HB21.out, by unfold halfAt; rw [List.take_zero, List.take_zero, putAt_nil, putAt_nil]; exact HB31.out, HBD.out⟩
      case round =>
        clear HG1 HIN1 HB21 HB31 HBD
        obtain ⟨j, hj, rfl, hg, hin, hb2, hb3, hbd⟩ := hrel
        have hlt3 := HLT3.out
        have hgl3 := HGL.out
        by_cases hlj : j < 16
        · have hx1 := HX1A.out j hlj
          have hx2 := HX2A.out j hlj
          have hlen0 : ∀ a b : Nat, a ≤ 16 → b ≤ 16 → (putAt (putAt (mixAt C Z k) (k * 16) (bv (P1.take a))) (512 + k * 16) (bv (P2.take b))).length = 1024 := fun a b ha hb => by
            have h1 : (putAt (mixAt C Z k) (k * 16) (bv (P1.take a))).length = 1024 := by rw [putAt_len (by rw [mixAt_len, bv_length, List.length_take]; omega), mixAt_len]
            rw [putAt_len (by rw [h1, bv_length, List.length_take]; omega), h1]
          have hl1 : (putAt (mixAt C Z k) (k * 16) (bv (P1.take (j + 1)))).length = 1024 := by rw [putAt_len (by rw [mixAt_len, bv_length, List.length_take]; omega), mixAt_len]
          have hl0 : (putAt (mixAt C Z k) (k * 16) (bv (P1.take j))).length = 1024 := by rw [putAt_len (by rw [mixAt_len, bv_length, List.length_take]; omega), mixAt_len]
          have hs1 : (halfAt C Z P1 P2 k j).set (k * 16 + j) (.int .u8 ((P1.getD j 0).toNat : Int)) = halfAt1 C Z P1 P2 k j := by
            unfold halfAt halfAt1
            rw [putAt_set _ (by omega) (by rw [hl0, bv_length, List.length_take]; omega), put_more (by rw [HP1.out]; exact hlj) (by rw [mixAt_len]; omega)]
          have hs2 : (halfAt1 C Z P1 P2 k j).set (512 + k * 16 + j) (.int .u8 ((P2.getD j 0).toNat : Int)) = halfAt C Z P1 P2 k (j + 1) := by
            unfold halfAt halfAt1
            rw [put_more (by rw [HP2.out]; exact hlj) (by rw [hl1]; omega)]
          have hu1 : ∃ u, (halfAt C Z P1 P2 k j)[k * 16 + j]? = some u := ⟨_, List.getElem?_eq_getElem (by unfold halfAt; rw [hlen0 j j (by omega) (by omega)]; omega)⟩
          have hu2 : ∃ u, (halfAt1 C Z P1 P2 k j)[512 + k * 16 + j]? = some u := ⟨_, List.getElem?_eq_getElem (by unfold halfAt1; rw [hlen0 (j + 1) j (by omega) (by omega)]; omega)⟩
          obtain ⟨u1, hu1⟩ := hu1
          obtain ⟨u2, hu2⟩ := hu2
          generalize (P1.getD j 0).toNat = x1 at *
          generalize (P2.getD j 0).toNat = x2 at *
          generalize hH0 : halfAt C Z P1 P2 k j = H0 at *
          generalize hH1 : halfAt1 C Z P1 P2 k j = H1 at *
          generalize hH2 : halfAt C Z P1 P2 k (j + 1) = H2 at *
          have HX1 := Lib.hid hx1
          have HX2 := Lib.hid hx2
          have HS1 := Lib.hid hs1
          have HS2 := Lib.hid hs2
          have HU1 := Lib.hid hu1
          have HU2 := Lib.hid hu2
          have HH2 := Lib.hid hH2
          have HW16 : Hid (IntKind.i64.wrap (16 + (j : Int)) = ((16 + j : Nat) : Int)) := Lib.hid (by simp [IntKind.wrap, IntKind.bits, IntKind.signed]; omega)
          have HG := Lib.hid hg
          have HIN := Lib.hid hin
          have HB2 := Lib.hid hb2
          generalize hgs : w.heap.size + 1 = gs at *
          generalize hgd : w1.heap.size = gd at *
          have HGS := Lib.hid hgs
          have HBS : Hid (Blk wr.drew gs 26 H0) := Lib.hid hb3
          have HBD : Hid (Blk wr.drew gd 31 DD) := Lib.hid hbd
          have HL3 := Lib.hid hlt3
          have HGL3 := Lib.hid hgl3
          clear hx1 hx2 hlen0 hl1 hl0 hs1 hs2 hu1 hu2 hg hin hb2 hb3 hbd hlt3 hgl3 hgs hgd hH0 hH1 hH2
          go_wp2_with fail
          have hdj : decide ((j : Int) < 16) = true := by rw [decide_eq_true_iff]; omega
          (try simp only [hdj])
          clear hdj
          refine stab_store Ext ext_refl ext_trans [[0], [1], [2], [2, 3], [2, 3, 4], [5], [0, 5, 6], [0, 1, 2, 3, 4, 5, 6, 7], [0, 1, 2, 3, 4, 5, 6, 7, 8]] (fun i v wv => match i with | 0 => v = .int .i64 (k : Int) | 1 => v = .int .i64 (j : Int) | 2 => v = .int .i64 (j : Int) | 3 => v = .pointer (some ⟨gd, j, none⟩) | 4 => v = .int .u8 (x1 : Int) | 5 => v = .pointer (some ⟨gs, 0, none⟩) | 6 => v = .pointer (some ⟨gs, k * 16, none⟩) | 7 => v = .pointer (some ⟨gs, k * 16 + j, none⟩) | _ => True) (by kernel_rfl) (by kernel_rfl) (by kernel_rfl) (by kernel_rfl) (by simp) ?_ ?_ ?_
          · intro i v w1 w2 h hx
            match i, h with
            | 0, h => exact h
            | 1, h => exact h
            | 2, h => exact h
            | 3, h => exact h
            | 4, h => exact h
            | 5, h => exact h
            | 6, h => exact h
            | 7, h => exact h
            | i + 8, h => trivial
          · intro i hi o ho
            match i, hi, ho with
            | 0, _, ho =>
              obtain rfl := Option.some.inj ho
              intro s W hX hd K hK
              rw [if_pos (wanted_plain rfl)]
              clear hd
              replace hK : ∀ (v : Value) (W' : World), Ext W W' → (v = .int .i64 (k : Int)) → _ := hK
              simp only [mkOf, List.map_cons, List.map_nil, Act.put, List.setIfInBounds_toArray, List.set_cons_succ, List.set_cons_zero, Nat.reduceAdd, Nat.zero_add] at hK ⊢
              go_simp
              exact hK _ _ (Ext.refl _) rfl
            | 1, _, ho =>
              obtain rfl := Option.some.inj ho
              intro s W hX hd K hK
              rw [if_pos (wanted_plain rfl)]
              clear hd
              replace hK : ∀ (v : Value) (W' : World), Ext W W' → (v = .int .i64 (j : Int)) → _ := hK
              simp only [mkOf, List.map_cons, List.map_nil, Act.put, List.setIfInBounds_toArray, List.set_cons_succ, List.set_cons_zero, Nat.reduceAdd, Nat.zero_add] at hK ⊢
              go_simp
              exact hK _ _ (Ext.refl _) rfl
            | 2, _, ho =>
              obtain rfl := Option.some.inj ho
              intro s W hX hd K hK
              rw [if_pos (wanted_plain rfl)]
              clear hd
              replace hK : ∀ (v : Value) (W' : World), Ext W W' → (v = .int .i64 (j : Int)) → _ := hK
              simp only [mkOf, List.map_cons, List.map_nil, Act.put, List.setIfInBounds_toArray, List.set_cons_succ, List.set_cons_zero, Nat.reduceAdd, Nat.zero_add] at hK ⊢
              go_simp
              exact hK _ _ (Ext.refl _) rfl
            | 3, _, ho =>
              obtain rfl := Option.some.inj ho
              intro s W hX hd K hK
              rw [if_pos (wanted_plain rfl)]
              have d19 : (s 2) = .int .i64 (j : Int) := hd 2 (by decide) (by decide)
              clear hd
              replace hK : ∀ (v : Value) (W' : World), Ext W W' → (v = .pointer (some ⟨gd, j, none⟩)) → _ := hK
              simp only [mkOf, List.map_cons, List.map_nil, Act.put, List.setIfInBounds_toArray, List.set_cons_succ, List.set_cons_zero, Nat.reduceAdd, Nat.zero_add] at hK ⊢
              simp only [d19] at hK ⊢
              have hj32 : (j : Int) < 32 := by omega
              go_simp
              exact hK _ _ (Ext.refl _) rfl
            | 4, _, ho =>
              obtain rfl := Option.some.inj ho
              intro s W hX hd K hK
              rw [if_pos (wanted_plain rfl)]
              have d20 : (s 3) = .pointer (some ⟨gd, j, none⟩) := hd 3 (by decide) (by decide)
              clear hd
              replace hK : ∀ (v : Value) (W' : World), Ext W W' → (v = .int .u8 (x1 : Int)) → _ := hK
              simp only [mkOf, List.map_cons, List.map_nil, Act.put, List.setIfInBounds_toArray, List.set_cons_succ, List.set_cons_zero, Nat.reduceAdd, Nat.zero_add] at hK ⊢
              simp only [d20] at hK ⊢
              have c1 := ((HBD.out.keep hX (by simp)).cell j).trans HX1.out
              go_simp
              exact hK _ _ (Ext.refl _) rfl
            | 5, _, ho =>
              obtain rfl := Option.some.inj ho
              intro s W hX hd K hK
              rw [if_pos (wanted_plain rfl)]
              clear hd
              replace hK : ∀ (v : Value) (W' : World), Ext W W' → (v = .pointer (some ⟨gs, 0, none⟩)) → _ := hK
              simp only [mkOf, List.map_cons, List.map_nil, Act.put, List.setIfInBounds_toArray, List.set_cons_succ, List.set_cons_zero, Nat.reduceAdd, Nat.zero_add] at hK ⊢
              go_simp
              exact hK _ _ (Ext.refl _) rfl
            | 6, _, ho =>
              obtain rfl := Option.some.inj ho
              intro s W hX hd K hK
              rw [if_pos (wanted_plain rfl)]
              have d17 : (s 0) = .int .i64 (k : Int) := hd 0 (by decide) (by decide)
              have d22 : (s 5) = .pointer (some ⟨gs, 0, none⟩) := hd 5 (by decide) (by decide)
              clear hd
              replace hK : ∀ (v : Value) (W' : World), Ext W W' → (v = .pointer (some ⟨gs, k * 16, none⟩)) → _ := hK
              simp only [mkOf, List.map_cons, List.map_nil, Act.put, List.setIfInBounds_toArray, List.set_cons_succ, List.set_cons_zero, Nat.reduceAdd, Nat.zero_add] at hK ⊢
              simp only [d17, d22] at hK ⊢
              go_simp
              exact hK _ _ (Ext.refl _) rfl
            | 7, _, ho =>
              obtain rfl := Option.some.inj ho
              intro s W hX hd K hK
              rw [if_pos (wanted_plain rfl)]
              have d18 : (s 1) = .int .i64 (j : Int) := hd 1 (by decide) (by decide)
              have d23 : (s 6) = .pointer (some ⟨gs, k * 16, none⟩) := hd 6 (by decide) (by decide)
              clear hd
              replace hK : ∀ (v : Value) (W' : World), Ext W W' → (v = .pointer (some ⟨gs, k * 16 + j, none⟩)) → _ := hK
              simp only [mkOf, List.map_cons, List.map_nil, Act.put, List.setIfInBounds_toArray, List.set_cons_succ, List.set_cons_zero, Nat.reduceAdd, Nat.zero_add] at hK ⊢
              simp only [d18, d23] at hK ⊢
              go_simp
              exact hK _ _ (Ext.refl _) rfl
            | i + 8, hi, _ => exact absurd hi (by simp)
          · intro o ho
            obtain rfl := Option.some.inj ho
            intro s W hX hd K hK
            rw [if_pos (wanted_plain rfl)]
            have d17 : (s 0) = .int .i64 (k : Int) := hd 0 (by decide)
            have d18 : (s 1) = .int .i64 (j : Int) := hd 1 (by decide)
            have d19 : (s 2) = .int .i64 (j : Int) := hd 2 (by decide)
            have d20 : (s 3) = .pointer (some ⟨gd, j, none⟩) := hd 3 (by decide)
            have d21 : (s 4) = .int .u8 (x1 : Int) := hd 4 (by decide)
            have d22 : (s 5) = .pointer (some ⟨gs, 0, none⟩) := hd 5 (by decide)
            have d23 : (s 6) = .pointer (some ⟨gs, k * 16, none⟩) := hd 6 (by decide)
            have d24 : (s 7) = .pointer (some ⟨gs, k * 16 + j, none⟩) := hd 7 (by decide)
            clear hd
            simp only [mkOf, List.map_cons, List.map_nil, Act.put, List.setIfInBounds_toArray, List.set_cons_succ, List.set_cons_zero, Nat.reduceAdd, Nat.zero_add]
            have hb := HBS.out.keep hX (by simp)
            have hf := hb.free (k * 16 + j)
            have hc := (hb.cell (k * 16 + j)).trans HU1.out
            simp only [d24, d21]
            go_simp
            refine hK _ _ ?_
            have hh := hb.set (k * 16 + j) (.int .u8 (x1 : Int))
            rw [HS1.out] at hh
            have hgr := only_set (w := W) (g := gs) (k * 16 + j) (.int .u8 (x1 : Int))
            have hd5 := (Ext.refl (W.setCell ⟨gs, k * 16 + j, none⟩ (.int .u8 (x1 : Int)))).drew
            have hl3 := HL3.out
            have hgl3 := HGL3.out
            have hgs3 := HGS.out
            have hxr : Ext wr W := (Ext.refl wr).drew.trans hX
            have HBS2 := Lib.hid (hh.keep hd5 (by simp))
            have HBD2 := Lib.hid (((HBD.out.keep hX (by simp)).keep hgr (by simp; omega)).keep hd5 (by simp))
            have HB22 := Lib.hid (((HB2.out.keep hxr (by simp)).keep hgr (by simp; omega)).keep hd5 (by simp))
            have HIN2 := Lib.hid (((HIN.out.keep hxr (by simp) (fun b _ => by simp)).keep hgr (by simp; omega) (fun b hb => by have := HFB.out b hb; simp; omega)).keep hd5 (by simp) (fun b _ => by simp))
            have HG2 := Lib.hid (grown_then (grown_then (grown_then HG.out (hxr.any _) (.inl rfl)) hgr (.inr (by rintro b ⟨⟩; omega))) (hd5.any (some g)) (.inl rfl))
            clear hb hf hc hh hgr hd5 hl3 hgl3 hgs3 hxr hX HBS HBD HB2 HIN HG d17 d18 d19 d20 d21 d22 d23 d24
            (try simp only [Exit.then])
            go_wp2_with fail
            generalize W.setCell ⟨gs, k * 16 + j, none⟩ (.int .u8 (x1 : Int)) = V5 at *
            refine stab_store Ext ext_refl ext_trans [[0], [1], [2], [2, 3], [2, 3, 4], [2, 3, 4, 5], [6], [0, 6, 7], [0, 1, 2, 3, 4, 5, 6, 7, 8], [0, 1, 2, 3, 4, 5, 6, 7, 8, 9]] (fun i v wv => match i with | 0 => v = .int .i64 (k : Int) | 1 => v = .int .i64 (j : Int) | 2 => v = .int .i64 (j : Int) | 3 => v = .int .i64 ((16 + j : Nat) : Int) | 4 => v = .pointer (some ⟨gd, 16 + j, none⟩) | 5 => v = .int .u8 (x2 : Int) | 6 => v = .pointer (some ⟨gs, 512, none⟩) | 7 => v = .pointer (some ⟨gs, 512 + k * 16, none⟩) | 8 => v = .pointer (some ⟨gs, 512 + k * 16 + j, none⟩) | _ => True) (by kernel_rfl) (by kernel_rfl) (by kernel_rfl) (by kernel_rfl) (by simp) ?_ ?_ ?_
            · intro i v w1 w2 h hx
              match i, h with
              | 0, h => exact h
              | 1, h => exact h
              | 2, h => exact h
              | 3, h => exact h
              | 4, h => exact h
              | 5, h => exact h
              | 6, h => exact h
              | 7, h => exact h
              | 8, h => exact h
              | i + 9, h => trivial
            · intro i hi o ho
              match i, hi, ho with
              | 0, _, ho =>
                obtain rfl := Option.some.inj ho
                intro s W2 hX hd K hK
                rw [if_pos (wanted_plain rfl)]
                clear hd
                replace hK : ∀ (v : Value) (W2' : World), Ext W2 W2' → (v = .int .i64 (k : Int)) → _ := hK
                simp only [mkOf, List.map_cons, List.map_nil, Act.put, List.setIfInBounds_toArray, List.set_cons_succ, List.set_cons_zero, Nat.reduceAdd, Nat.zero_add] at hK ⊢
                go_simp
                exact hK _ _ (Ext.refl _) rfl
              | 1, _, ho =>
                obtain rfl := Option.some.inj ho
                intro s W2 hX hd K hK
                rw [if_pos (wanted_plain rfl)]
                clear hd
                replace hK : ∀ (v : Value) (W2' : World), Ext W2 W2' → (v = .int .i64 (j : Int)) → _ := hK
                simp only [mkOf, List.map_cons, List.map_nil, Act.put, List.setIfInBounds_toArray, List.set_cons_succ, List.set_cons_zero, Nat.reduceAdd, Nat.zero_add] at hK ⊢
                go_simp
                exact hK _ _ (Ext.refl _) rfl
              | 2, _, ho =>
                obtain rfl := Option.some.inj ho
                intro s W2 hX hd K hK
                rw [if_pos (wanted_plain rfl)]
                clear hd
                replace hK : ∀ (v : Value) (W2' : World), Ext W2 W2' → (v = .int .i64 (j : Int)) → _ := hK
                simp only [mkOf, List.map_cons, List.map_nil, Act.put, List.setIfInBounds_toArray, List.set_cons_succ, List.set_cons_zero, Nat.reduceAdd, Nat.zero_add] at hK ⊢
                go_simp
                exact hK _ _ (Ext.refl _) rfl
              | 3, _, ho =>
                obtain rfl := Option.some.inj ho
                intro s W2 hX hd K hK
                rw [if_pos (wanted_plain rfl)]
                have d27 : (s 2) = .int .i64 (j : Int) := hd 2 (by decide) (by decide)
                clear hd
                replace hK : ∀ (v : Value) (W2' : World), Ext W2 W2' → (v = .int .i64 ((16 + j : Nat) : Int)) → _ := hK
                simp only [mkOf, List.map_cons, List.map_nil, Act.put, List.setIfInBounds_toArray, List.set_cons_succ, List.set_cons_zero, Nat.reduceAdd, Nat.zero_add] at hK ⊢
                simp only [d27] at hK ⊢
                go_simp
                exact hK _ _ (Ext.refl _) (by first | rfl | (rw [HW16.out]; done) | (congr 1; omega))
              | 4, _, ho =>
                obtain rfl := Option.some.inj ho
                intro s W2 hX hd K hK
                rw [if_pos (wanted_plain rfl)]
                have d28 : (s 3) = .int .i64 ((16 + j : Nat) : Int) := hd 3 (by decide) (by decide)
                clear hd
                replace hK : ∀ (v : Value) (W2' : World), Ext W2 W2' → (v = .pointer (some ⟨gd, 16 + j, none⟩)) → _ := hK
                simp only [mkOf, List.map_cons, List.map_nil, Act.put, List.setIfInBounds_toArray, List.set_cons_succ, List.set_cons_zero, Nat.reduceAdd, Nat.zero_add] at hK ⊢
                simp only [d28] at hK ⊢
                go_simp
                rw [if_pos ⟨by omega, by omega⟩, show ((16 : Int) + (j : Int)).toNat = 16 + j by omega]
                (try go_simp)
                exact hK _ _ (Ext.refl _) rfl
              | 5, _, ho =>
                obtain rfl := Option.some.inj ho
                intro s W2 hX hd K hK
                rw [if_pos (wanted_plain rfl)]
                have d29 : (s 4) = .pointer (some ⟨gd, 16 + j, none⟩) := hd 4 (by decide) (by decide)
                clear hd
                replace hK : ∀ (v : Value) (W2' : World), Ext W2 W2' → (v = .int .u8 (x2 : Int)) → _ := hK
                simp only [mkOf, List.map_cons, List.map_nil, Act.put, List.setIfInBounds_toArray, List.set_cons_succ, List.set_cons_zero, Nat.reduceAdd, Nat.zero_add] at hK ⊢
                simp only [d29] at hK ⊢
                have c1 := ((HBD2.out.keep hX (by simp)).cell (16 + j)).trans HX2.out
                go_simp
                exact hK _ _ (Ext.refl _) rfl
              | 6, _, ho =>
                obtain rfl := Option.some.inj ho
                intro s W2 hX hd K hK
                rw [if_pos (wanted_plain rfl)]
                clear hd
                replace hK : ∀ (v : Value) (W2' : World), Ext W2 W2' → (v = .pointer (some ⟨gs, 512, none⟩)) → _ := hK
                simp only [mkOf, List.map_cons, List.map_nil, Act.put, List.setIfInBounds_toArray, List.set_cons_succ, List.set_cons_zero, Nat.reduceAdd, Nat.zero_add] at hK ⊢
                go_simp
                exact hK _ _ (Ext.refl _) rfl
              | 7, _, ho =>
                obtain rfl := Option.some.inj ho
                intro s W2 hX hd K hK
                rw [if_pos (wanted_plain rfl)]
                have d25 : (s 0) = .int .i64 (k : Int) := hd 0 (by decide) (by decide)
                have d31 : (s 6) = .pointer (some ⟨gs, 512, none⟩) := hd 6 (by decide) (by decide)
                clear hd
                replace hK : ∀ (v : Value) (W2' : World), Ext W2 W2' → (v = .pointer (some ⟨gs, 512 + k * 16, none⟩)) → _ := hK
                simp only [mkOf, List.map_cons, List.map_nil, Act.put, List.setIfInBounds_toArray, List.set_cons_succ, List.set_cons_zero, Nat.reduceAdd, Nat.zero_add] at hK ⊢
                simp only [d25, d31] at hK ⊢
                go_simp
                exact hK _ _ (Ext.refl _) rfl
              | 8, _, ho =>
                obtain rfl := Option.some.inj ho
                intro s W2 hX hd K hK
                rw [if_pos (wanted_plain rfl)]
                have d26 : (s 1) = .int .i64 (j : Int) := hd 1 (by decide) (by decide)
                have d32 : (s 7) = .pointer (some ⟨gs, 512 + k * 16, none⟩) := hd 7 (by decide) (by decide)
                clear hd
                replace hK : ∀ (v : Value) (W2' : World), Ext W2 W2' → (v = .pointer (some ⟨gs, 512 + k * 16 + j, none⟩)) → _ := hK
                simp only [mkOf, List.map_cons, List.map_nil, Act.put, List.setIfInBounds_toArray, List.set_cons_succ, List.set_cons_zero, Nat.reduceAdd, Nat.zero_add] at hK ⊢
                simp only [d26, d32] at hK ⊢
                go_simp
                exact hK _ _ (Ext.refl _) rfl
              | i + 9, hi, _ => exact absurd hi (by simp)
            · intro o ho
              obtain rfl := Option.some.inj ho
              intro s W2 hX hd K hK
              rw [if_pos (wanted_plain rfl)]
              have d25 : (s 0) = .int .i64 (k : Int) := hd 0 (by decide)
              have d26 : (s 1) = .int .i64 (j : Int) := hd 1 (by decide)
              have d27 : (s 2) = .int .i64 (j : Int) := hd 2 (by decide)
              have d28 : (s 3) = .int .i64 ((16 + j : Nat) : Int) := hd 3 (by decide)
              have d29 : (s 4) = .pointer (some ⟨gd, 16 + j, none⟩) := hd 4 (by decide)
              have d30 : (s 5) = .int .u8 (x2 : Int) := hd 5 (by decide)
              have d31 : (s 6) = .pointer (some ⟨gs, 512, none⟩) := hd 6 (by decide)
              have d32 : (s 7) = .pointer (some ⟨gs, 512 + k * 16, none⟩) := hd 7 (by decide)
              have d33 : (s 8) = .pointer (some ⟨gs, 512 + k * 16 + j, none⟩) := hd 8 (by decide)
              clear hd
              simp only [mkOf, List.map_cons, List.map_nil, Act.put, List.setIfInBounds_toArray, List.set_cons_succ, List.set_cons_zero, Nat.reduceAdd, Nat.zero_add]
              have hb := HBS2.out.keep hX (by simp)
              have hf := hb.free (512 + k * 16 + j)
              have hc := (hb.cell (512 + k * 16 + j)).trans HU2.out
              simp only [d33, d30]
              go_simp
              refine hK _ _ ?_
              have hh := hb.set (512 + k * 16 + j) (.int .u8 (x2 : Int))
              rw [HS2.out] at hh
              have hgr := only_set (w := W2) (g := gs) (512 + k * 16 + j) (.int .u8 (x2 : Int))
              have hl3 := HL3.out
              have hgl3 := HGL3.out
              have hgs3 := HGS.out
              have HBS3 := Lib.hid hh
              have HBD3 := Lib.hid ((HBD2.out.keep hX (by simp)).keep hgr (by simp; omega))
              have HB23 := Lib.hid ((HB22.out.keep hX (by simp)).keep hgr (by simp; omega))
              have HIN3 := Lib.hid ((HIN2.out.keep hX (by simp) (fun b _ => by simp)).keep hgr (by simp; omega) (fun b hb => by have := HFB.out b hb; simp; omega))
              have HG3 := Lib.hid (grown_then (grown_then HG2.out (hX.any _) (.inl rfl)) hgr (.inr (by rintro b ⟨⟩; omega)))
              clear hb hf hc hh hgr hl3 hgl3 hX
              subst hgs3
              (try simp only [Exit.then])
              go_wp2_with fail
              go_roundw
              case rel => exact ⟨j + 1, by omega, by go_num, HG3.out, HIN3.out, HB23.out, by rw [HH2.out]; exact HBS3.out, HBD3.out⟩
              case measure => simp [intOf]; omega
        · obtain rfl : j = 16 := by omega
          have e : halfAt C Z P1 P2 k 16 = mixAt C Z (k + 1) := by
            unfold halfAt
            rw [List.take_of_length_le (by rw [HP1.out]; exact Nat.le_refl _), List.take_of_length_le (by rw [HP2.out]; exact Nat.le_refl _)]
            exact HST.out
          rw [e] at hb3
          have HG9 := Lib.hid hg
          have HIN9 := Lib.hid hin
          have HB9 := Lib.hid hb2
          have HB8 := Lib.hid hb3
          clear hg hin hb2 hb3 hbd e hlt3 hgl3
          go_wp2_with fail
          go_roundw
          case rel => exact ⟨k + 1, by omega, by go_num, HG9.out, HIN9.out, HB9.out, HB8.out⟩
          case measure => simp [intOf]; omega
    · obtain rfl : k = 32 := by omega
      rw [mixAt_all C Z HCL.out HZL.out] at hb3
      have hcm := hb3.cells
      have hr2 : wr.heap[w.heap.size]? = some (.cells Z.toArray 26 (0, 0)) := hb2
      have HG := Lib.hid hg
      have HIN := Lib.hid hin
      have hgl3 := HGL.out
      clear hg hb2 hb3 hin hwo
      go_wp2_with (first
        | (refine wpList_load_agg _ rfl 26 (.tmp 3) rfl _ rfl C _ Try.underlying26 rfl (rsig_size HCL.out) hcm ?_)
        | (refine wpList_store_row _ rfl 26 (.tmp 2) (.tmp 34) rfl w.heap.size rfl Z C _ rfl hr2 (rsig_size HCL.out) (by rw [HCL.out, HZL.out]) hone ?_)
        | fail)
      have hc9 := Blk.cells (t := 26) (setRow_at (cs' := C.toArray) hr2)
      (try simp only [Exit.inBlock, Exit.then])
      refine bodyPost_ret (results_agg rfl _ _ _ _ _ rfl Try.underlying26 rfl (rsig_size HCL.out) hc9) rfl ?_
      exact ⟨rfl, HIN.out.keep (setRow_only _) (by simp; omega) (fun b hb => by have := HFB.out b hb; simp; omega), grown_then HG.out (setRow_only _) (.inr (by rintro b ⟨⟩; omega))⟩
end
section
open Go.RowKit

set_option maxRecDepth 100000 in
set_option maxHeartbeats 4000000 in
theorem RNum (n : Nat) (hn : n < 8) (hn0 : 0 < n) {w : World} {g : Nat} {F : Fp} {s : InS} (h : RIn w g F s) :
    Calls Try.prog 52 #[.pointer (some ⟨g, 0, none⟩), .int .i64 (n : Int)] w fun r w' => r = .returned (.int .u64 ((numM n s).1 : Int)) ∧ RIn w' g F (numM n s).2 ∧ w.grownBy w' (some g) := by
  have hraw := RRaw n (by omega) hn0 h
  have HRAW := Lib.hid hraw
  have hl := cutM_len n s
  clear hraw h
  go_enter Try.func52, Try.ntmps52
  go_wp2_with fail
  refine HRAW.out.mono ?_
  rintro e w1 ⟨v, rfl, ho, hi, hg, hv⟩
  have hv := ho.holds
  have HI : Hid (RIn w1 g F (numM n s).2) := Lib.hid hi
  have HG := Lib.hid hg
  have e1 : beNum (cutM n s).1 = (numM n s).1 := rfl
  clear ho hi hg HRAW
  generalize (cutM n s).1 = bs at *
  have E1 := Lib.hid e1
  clear e1
  obtain ⟨A, c, xs, hv', hlc, hc, hA, hcell, hall⟩ := hv
  cases hv'
  unfold maxLen at hc
  go_wp2
  go_loopw [6, 7] (fun m i wr => wr = w1 ∧ ∃ k : Nat, k ≤ bs.length ∧ i = .int .i64 k ∧ m = .int .u64 ((beNum (bs.take k) : Nat) : Int)) (fun _ i _ => bs.length - (intOf i).toNat)
  case atStart => exact ⟨rfl, 0, by omega, rfl, rfl⟩
  case round =>
    obtain ⟨rfl, k, hk, rfl, rfl⟩ := hrel
    by_cases hlt : k < bs.length
    · obtain ⟨ad, rfl, hFa, hcells⟩ := hcell (by rintro rfl; simp at hlt)
      have hx := AllH.u8_at hall hlt
      have hcx := hcells k _ hx
      have hst := beNum_step bs k hlt
      have hbd := beNum_lt (bs.take k)
      have hb1 := bs[k].toNat_lt
      have hlow : beNum (bs.take k) < 256 ^ 6 := Nat.lt_of_lt_of_le hbd (Nat.pow_le_pow_right (by omega) (by simp; omega))
      generalize hM : beNum (bs.take k) = M at *
      have HM := Lib.hid hM
      have hw1 : IntKind.u64.wrap ((M : Int) * 256) = ((M * 256 : Nat) : Int) := by
        simp [IntKind.wrap, IntKind.bits, IntKind.signed]
        omega
      have hw2 : IntKind.u64.wrap (((M * 256 : Nat) : Int) + (bs[k].toNat : Int)) = ((M * 256 + bs[k].toNat : Nat) : Int) := by
        simp [IntKind.wrap, IntKind.bits, IntKind.signed]
        omega
      have HST := Lib.hid hst
      clear hM
      clear hx hbd hst
      go_wp2
      go_roundw
      case rel =>
        refine ⟨trivial, k + 1, by omega, by go_num, ?_⟩
        rw [HST.out]
        go_num
      case measure => simp [intOf]; omega
    · obtain rfl : k = bs.length := by omega
      rw [List.take_length, E1.out]
      go_wp2
      go_ret
      exact ⟨rfl, HI.out, HG.out⟩
set_option maxRecDepth 100000 in
set_option maxHeartbeats 4000000 in
theorem RMany (most : Nat) (hm : most < 256) {w : World} {g : Nat} {F : Fp} {s : InS} (h : RIn w g F s) :
    Calls Try.prog 53 #[.pointer (some ⟨g, 0, none⟩), .int .i64 (most : Int)] w fun r w' => r = .returned (.int .i64 (manyM (most : Int) s).1) ∧ RIn w' g F (manyM (most : Int) s).2 ∧ w.grownBy w' (some g) := by
  have hl : (numM 1 s).1 < 256 := numM_lt 1 s
  have hnum := RNum 1 (by omega) (by omega) h
  have HNUM := Lib.hid hnum
  clear hnum h
  by_cases hb : most < (numM 1 s).1
  · rw [manyM_big (by omega)]
    generalize (numM 1 s).1 = m at *
    generalize (numM 1 s).2 = t at *
    obtain ⟨l, bad⟩ := t
    have hgt : (most : Int) < (m : Int) := by omega
    go_enter Try.func53, Try.ntmps53
    go_wp2_with fail
    refine HNUM.out.mono ?_
    rintro e w1 ⟨rfl, hi, hg⟩
    have HI := Lib.hid hi
    have HG := Lib.hid hg
    obtain ⟨A, c, B, at_, hb, hh, hat, e1, e2, hF, hbl, hwf⟩ := hi
    have hc2 : w1.cell? ⟨g, 2, none⟩ = some (.int .i64 bad) := hb.cell 2
    have hf2 : w1.frozen? ⟨g, 2, none⟩ = false := hb.free 2
    by_cases hbad : bad = 0
    · subst hbad
      have hs := hb.set 2 (.int .i64 8)
      have hg2 : w1.grownBy (w1.setCell ⟨g, 2, none⟩ (.int .i64 8)) (some g) := only_set 2 _
      have hr : RIn (w1.setCell ⟨g, 2, none⟩ (.int .i64 8)) g F ([], 8) := ⟨A, c, B, at_, hs, Ty.keep (fun b hb => hg2.block b (hF b hb).1 (by have := (hF b hb).2; simp; omega)) (fun _ h => h) _ hh, hat, fun h => absurd h (by decide), fun _ => rfl, fun b hb => ⟨Nat.lt_of_lt_of_le (hF b hb).1 hg2.size, (hF b hb).2⟩, hbl, (by show (Lit.int .i64 8).wf = true; decide)⟩
      have HR := Lib.hid hr
      have HG2 := Lib.hid (grown_then HG.out hg2 (.inl rfl))
      clear hb hh hat e1 e2 hF hbl hwf hs hg2 hr hg
      go_wp2_with fail
      go_ret
      exact ⟨rfl, HR.out, HG2.out⟩
    · have hbb : (bad == 0) = false := by simpa using hbad
      clear hb hh hat e1 e2 hF hbl hwf hg
      go_wp2_with fail
      go_ret
      refine ⟨rfl, ?_, HG.out⟩
      rw [show failM 8 (l, bad) = (l, bad) from if_neg (by simp [hbad])]
      exact HI.out
  · rw [manyM_ok (by omega)]
    have hgt : ¬ (most : Int) < ((numM 1 s).1 : Int) := by omega
    generalize (numM 1 s).1 = m at *
    generalize (numM 1 s).2 = t at *
    go_enter Try.func53, Try.ntmps53
    go_wp2_with fail
    refine HNUM.out.mono ?_
    rintro e w1 ⟨rfl, hi, hg⟩
    have HI := Lib.hid hi
    have HG := Lib.hid hg
    clear hi hg
    go_wp2_with fail
    go_ret
    exact ⟨rfl, HI.out, HG.out⟩
/-! ### Both sides' objects, below a bound -/
/-- The program's object, below the bound. -/
structure PIn (B : Nat) (w : World) (g q : Nat) (s : InS) : Prop where
  at_ : InAt w g q s
  hg : g < B
  hq : q < B
theorem PIn.far {B : Nat} {w w' : World} {g q : Nat} {s : InS} {row : Option Nat} (h : PIn B w g q s) (hx : w.grownBy w' row) (hr : ∀ b, row = some b → B ≤ b) : PIn B w' g q s :=
  ⟨h.at_.keep hx (fun e => by have h1 := hr g e.symm; have h2 := h.hg; omega) (fun e => by have h1 := hr q e.symm; have h2 := h.hq; omega), h.hg, h.hq⟩
theorem PIn.four {B : Nat} {w : World} {g q : Nat} {s : InS} (h : PIn B w g q s) : Calls Try.prog 48 #[.pointer (some ⟨g, 0, none⟩)] w fun r w' => r = .returned (.int .u32 ((numM 4 s).1 : Int)) ∧ PIn B w' g q (numM 4 s).2 ∧ w.grownBy w' (some g) :=
  (In_Four (h := h.at_)).mono fun e w' ⟨h1, h2, h3⟩ => ⟨h1, ⟨h2, h.hg, h.hq⟩, h3⟩
theorem PIn.many {B : Nat} {w : World} {g q : Nat} {s : InS} (h : PIn B w g q s) : Calls Try.prog 49 #[.pointer (some ⟨g, 0, none⟩), .int .i64 8] w fun r w' => r = .returned (.int .i64 (manyM 8 s).1) ∧ PIn B w' g q (manyM 8 s).2 ∧ w.grownBy w' (some g) :=
  (In_Many (most := 8) (_hm := by decide) (h := h.at_)).mono fun e w' ⟨h1, h2, h3⟩ => ⟨h1, ⟨h2, h.hg, h.hq⟩, h3⟩
theorem PIn.sum {B : Nat} {w : World} {g q : Nat} {s : InS} (h : PIn B w g q s) : Calls Try.prog 51 #[.pointer (some ⟨g, 0, none⟩)] w fun r w' => r = .returned (.agg (bv (sumM s).1).toArray) ∧ PIn B w' g q (sumM s).2 ∧ w.grownBy w' (some g) :=
  (In_Sum (h := h.at_)).mono fun e w' ⟨h1, h2, h3⟩ => ⟨h1, ⟨h2, h.hg, h.hq⟩, h3⟩
theorem PIn.take {B : Nat} {w : World} {g q : Nat} {s : InS} (h : PIn B w g q s) : Calls Try.prog 50 #[.pointer (some ⟨g, 0, none⟩)] w fun r w' => r = .returned (.agg (bv (takeS s)).toArray) ∧ PIn B w' g q (stT s 32) ∧ w.grownBy w' (some g) :=
  (Take w h.at_).mono fun e w' ⟨h1, h2, h3⟩ => ⟨h1, ⟨h2, h.hg, h.hq⟩, h3⟩
theorem PIn.bad {B : Nat} {w : World} {g q : Nat} {s : InS} (h : PIn B w g q s) : Calls Try.prog 31 #[.pointer (some ⟨g, 0, none⟩)] w fun r w' => r = .returned (.int .i64 s.2) ∧ w = w' := In_Bad (h := h.at_)
/-- The document's, below the bound. -/
structure QIn (B : Nat) (w : World) (g : Nat) (F : Fp) (s : InS) : Prop where
  at_ : RIn w g F s
  hg : g < B
  hF : ∀ b, F b → b < B
theorem QIn.far {B : Nat} {w w' : World} {g : Nat} {F : Fp} {s : InS} {row : Option Nat} (h : QIn B w g F s) (hx : w.grownBy w' row) (hr : ∀ b, row = some b → B ≤ b) : QIn B w' g F s :=
  ⟨h.at_.keep hx (fun e => by have h1 := hr g e.symm; have h2 := h.hg; omega) (fun b hb e => by have h1 := hr b e.symm; have h2 := h.hF b hb; omega), h.hg, h.hF⟩
theorem QIn.four {B : Nat} {w : World} {g : Nat} {F : Fp} {s : InS} (h : QIn B w g F s) : Calls Try.prog 52 #[.pointer (some ⟨g, 0, none⟩), .int .i64 4] w fun r w' => r = .returned (.int .u64 ((numM 4 s).1 : Int)) ∧ QIn B w' g F (numM 4 s).2 ∧ w.grownBy w' (some g) :=
  (RNum 4 (by decide) (by decide) h.at_).mono fun e w' ⟨h1, h2, h3⟩ => ⟨h1, ⟨h2, h.hg, h.hF⟩, h3⟩
theorem QIn.many {B : Nat} {w : World} {g : Nat} {F : Fp} {s : InS} (h : QIn B w g F s) : Calls Try.prog 53 #[.pointer (some ⟨g, 0, none⟩), .int .i64 8] w fun r w' => r = .returned (.int .i64 (manyM 8 s).1) ∧ QIn B w' g F (manyM 8 s).2 ∧ w.grownBy w' (some g) :=
  (RMany 8 (by decide) h.at_).mono fun e w' ⟨h1, h2, h3⟩ => ⟨h1, ⟨h2, h.hg, h.hF⟩, h3⟩
theorem QIn.sum {B : Nat} {w : World} {g : Nat} {F : Fp} {s : InS} (h : QIn B w g F s) : Calls Try.prog 55 #[.pointer (some ⟨g, 0, none⟩)] w fun r w' => r = .returned (.agg (bv (sumM s).1).toArray) ∧ QIn B w' g F (sumM s).2 ∧ w.grownBy w' (some g) :=
  (RSum h.at_).mono fun e w' ⟨h1, h2, h3⟩ => ⟨h1, ⟨h2, h.hg, h.hF⟩, h3⟩
theorem QIn.take {B : Nat} {w : World} {g : Nat} {F : Fp} {s : InS} (h : QIn B w g F s) : Calls Try.prog 54 #[.pointer (some ⟨g, 0, none⟩)] w fun r w' => r = .returned (.agg (bv (takeS s)).toArray) ∧ QIn B w' g F (stT s 32) ∧ w.grownBy w' (some g) :=
  (RTake h.at_).mono fun e w' ⟨h1, h2, h3⟩ => ⟨h1, ⟨h2, h.hg, h.hF⟩, h3⟩
/-! ### What a ring's Take takes -/
theorem many_nat (s : InS) : ∃ n : Nat, n ≤ 8 ∧ (manyM 8 s).1 = (n : Int) := by
  unfold manyM
  split
  · exact ⟨0, by omega, rfl⟩
  · exact ⟨(numM 1 s).1, by omega, rfl⟩
def manyN (s : InS) : Nat := (manyM 8 s).1.toNat
theorem manyN_eq (s : InS) : (manyM 8 s).1 = ((manyN s : Nat) : Int) := by obtain ⟨n, _, h⟩ := many_nat s; unfold manyN; rw [h]; rfl
theorem manyN_le (s : InS) : manyN s ≤ 8 := by obtain ⟨n, hn, h⟩ := many_nat s; unfold manyN; rw [h]; simpa using hn
/-- The sums that are taken one behind the other. -/
def wayT (s : InS) (k : Nat) : List Dg := (List.range k).map fun i => (sumM (stT s i)).1
theorem wayT_length (s : InS) (k : Nat) : List.length (α := Dg) (wayT s k) = k := by simp [wayT]
theorem wayT_succ (s : InS) (k : Nat) : wayT s (k + 1) = wayT s k ++ [(sumM (stT s k)).1] := by simp [wayT, List.range_succ]
/-- The state behind the pieces; behind all. -/
def tkP (s : InS) : InS := stT (manyM 8 (numM 4 s).2).2 32
def tkE (s : InS) : InS := stT (tkP s) (manyN (numM 4 s).2)
def tkS (s : InS) : List UInt8 := if (tkE s).2 = 0 then takeS (manyM 8 (numM 4 s).2).2 else List.replicate 1024 0
def tkK (s : InS) : Nat := if (tkE s).2 = 0 then (numM 4 s).1 else 0
def tkW (s : InS) : List Dg := if (tkE s).2 = 0 then wayT (tkP s) (manyN (numM 4 s).2) else []
end
section
open Go.RowKit

section
variable {P : Program} {md : Region.Mode} {ops : Array Oper} {Q : Exit → Act → World → Prop} {R : World → World → Prop}
/-- Three may come up. -/
theorem triM (i k l : Nat) {oi ok ol : Oper} {fuel : Nat} {listed : Array Bool} {a : Act} {w : World} (hi : (ops.toList.drop i).head? = some oi) (hk : (ops.toList.drop k).head? = some ok) (hl : (ops.toList.drop l).head? = some ol)
    (hr : Region.ready md ops listed = [i, k, l]) (hw : Region.wanted oi (yielded ops a.tmps) = true) (hw2 : Region.wanted ok (yielded ops a.tmps) = true) (hw3 : Region.wanted ol (yielded ops a.tmps) = true)
    (h1 : ∀ K : Act → World → Prop, (∀ a' w', R w w' → wpAnyM P md ops Q R fuel (listed.setIfInBounds i true) a' w' → K a' w') → oi.wp P a w K Q)
    (h2 : ∀ K : Act → World → Prop, (∀ a' w', R w w' → wpAnyM P md ops Q R fuel (listed.setIfInBounds k true) a' w' → K a' w') → ok.wp P a w K Q)
    (h3 : ∀ K : Act → World → Prop, (∀ a' w', R w w' → wpAnyM P md ops Q R fuel (listed.setIfInBounds l true) a' w' → K a' w') → ol.wp P a w K Q) : wpAnyM P md ops Q R (fuel + 1) listed a w := by
  refine ⟨fun h0 => (by rw [hr] at h0; cases h0), fun j hj => ?_⟩
  rw [hr] at hj
  rcases List.mem_cons.1 hj with rfl | hj
  · refine wpOp_step (op_at hi) (fun K' hK => ?_)
    rw [if_pos hw]
    exact h1 K' (fun a' w' h1 h2 => hK _ _ ⟨h1, h2⟩)
  rcases List.mem_cons.1 hj with rfl | hj
  · refine wpOp_step (op_at hk) (fun K' hK => ?_)
    rw [if_pos hw2]
    exact h2 K' (fun a' w' h1 h2 => hK _ _ ⟨h1, h2⟩)
  · obtain rfl : j = l := by simpa using hj
    refine wpOp_step (op_at hl) (fun K' hK => ?_)
    rw [if_pos hw3]
    exact h3 K' (fun a' w' h1 h2 => hK _ _ ⟨h1, h2⟩)
end
end
section
open Go.RowKit

section
variable {P : Program} (w : World)
theorem wp_oneL {o : Oper} {a : Act} {K : Act → World → Prop} {Q : Exit → Act → World → Prop} (t : TypeId) (x : Operand) (ho : o.op = .buildSlice t 1 #[(0, x)])
    (e : TypeId) (u : Value) (cs : List Value) (ht : P.underlying t = some (.slice e)) (hx : a.eval x = u) (hv : u.cells = cs.toArray) (hi : (P.info? e).map (·.size) = some cs.length) (hz : ((P.info? e).bind (·.zero)).isSome = true) (hl : cs.length ≤ 16777216) (hn : 0 < cs.length)
    (h : K (a.put o.dst (.slice (some ⟨w.heap.size, 0, none⟩) 1 1)) (w.alloc (.cells cs.toArray e))) : o.wp P a w K Q := by
    obtain ⟨i, hi', hs⟩ := Option.map_eq_some_iff.1 hi
    rw [hi', Option.bind_some] at hz
    obtain ⟨z, hz⟩ := Option.isSome_iff_exists.1 hz
    have hfill : ∀ (c : Array Value), c.size = cs.length → Instr.fill (fun i => some (i * cs.length, cs.length)) c [(0, u)] = some cs.toArray := by
      intro c hc
      rw [fill_list _ c 0 u cs 0 [] hv (by simp) (by omega)]
      simp only [Instr.fill, List.take_zero, List.nil_append, Nat.zero_add]
      rw [List.drop_eq_nil_of_le (by rw [Array.length_toList]; omega), List.append_nil]
    unfold Oper.wp execOp
    have hrun : (Instr.buildSlice t 1 #[(0, u)]).run P w = .ok (.slice (some ⟨w.heap.size, 0, none⟩) 1 1) (w.alloc (.cells cs.toArray e)) := by
      unfold Instr.buildSlice
      simp only [Sem.run_bind, run_underlying ht, Result.andThen_ok, sizeOf, typeInfo, run_program, hi', Sem.run_pure, hs, Nat.one_mul]
      rw [if_neg (by omega)]
      have h0 : ¬ cs.length = 0 := by omega
      simp only [h0, if_false, Sem.run_bind, Sem.run_pure, Result.andThen_ok, zeroValue, typeInfo, run_program, hi', hz]
      have := hfill ((Array.range cs.length).map fun x => z.cells[x % z.cells.size]!) (by simp)
      simp only [this]
      simp [newRow]
    simp only [ho, List.map_toArray, List.map_cons, List.map_nil, hx, Sem.run_bind, hrun, Result.andThen_ok, Sem.run_pure]
    exact h
theorem wp_twoL {o : Oper} {a : Act} {K : Act → World → Prop} {Q : Exit → Act → World → Prop} (t : TypeId) (x y : Operand) (ho : o.op = .buildSlice t 2 #[(0, x), (1, y)])
    (e : TypeId) (u1 u2 : Value) (ht : P.underlying t = some (.slice e)) (hx : a.eval x = u1) (hy : a.eval y = u2) (h1 : u1.cells = #[u1]) (h2 : u2.cells = #[u2]) (hi : (P.info? e).map (·.size) = some 1) (hz : ((P.info? e).bind (·.zero)).isSome = true)
    (h : K (a.put o.dst (.slice (some ⟨w.heap.size, 0, none⟩) 2 2)) (w.alloc (.cells [u1, u2].toArray e))) : o.wp P a w K Q := by
    obtain ⟨i, hi', hs⟩ := Option.map_eq_some_iff.1 hi
    rw [hi', Option.bind_some] at hz
    obtain ⟨z, hz⟩ := Option.isSome_iff_exists.1 hz
    have hfill : ∀ (c : Array Value), c.size = 2 → Instr.fill (fun i => some (i, 1)) c [(0, u1), (1, u2)] = some [u1, u2].toArray := by
      intro c hc
      have hc' : c.toList.length = 2 := by rw [Array.length_toList]; exact hc
      obtain ⟨x0, x1, hx⟩ : ∃ x0 x1, c.toList = [x0, x1] := by
        match hl : c.toList, hc' with
        | [x0, x1], _ => exact ⟨x0, x1, rfl⟩
      rw [fill_list _ c 0 u1 [u1] 0 _ (by simpa using h1) rfl (by simp; omega), hx]
      simp only [List.take_zero, List.nil_append, List.length_singleton, List.drop_succ_cons, List.drop_zero, List.singleton_append]
      rw [fill_list _ _ 1 u2 [u2] 1 _ (by simpa using h2) rfl (by simp)]
      simp [Instr.fill]
    unfold Oper.wp execOp
    have hrun : (Instr.buildSlice t 2 #[(0, u1), (1, u2)]).run P w = .ok (.slice (some ⟨w.heap.size, 0, none⟩) 2 2) (w.alloc (.cells [u1, u2].toArray e)) := by
      unfold Instr.buildSlice
      simp only [Sem.run_bind, run_underlying ht, Result.andThen_ok, sizeOf, typeInfo, run_program, hi', Sem.run_pure, hs, Nat.mul_one]
      rw [if_neg (by omega)]
      simp only [show ¬ (2 = 0) by omega, if_false, Sem.run_bind, Sem.run_pure, Result.andThen_ok, zeroValue, typeInfo, run_program, hi', hz]
      have := hfill ((Array.range 2).map fun x => z.cells[x % z.cells.size]!) (by simp)
      simp only [this]
      simp [newRow]
    simp only [ho, List.map_toArray, List.map_cons, List.map_nil, hx, hy, Sem.run_bind, hrun, Result.andThen_ok, Sem.run_pure]
    exact h
end
section
variable {P : Program} {md : Region.Mode} {ops : Array Oper} {Q : Exit → Act → World → Prop} {R : World → World → Prop}
/-- Each of some operations may be next. -/
def eachM (P : Program) (md : Region.Mode) (ops : Array Oper) (Q : Exit → Act → World → Prop) (R : World → World → Prop) (fuel : Nat) (listed : Array Bool) (a : Act) (w : World) : List Nat → Prop
  | [] => True
  | i :: l => wpOp P ops Q i (fun a' w' => R w w' ∧ wpAnyM P md ops Q R fuel (listed.setIfInBounds i true) a' w') a w ∧ eachM P md ops Q R fuel listed a w l
theorem eachM_mem {fuel : Nat} {listed : Array Bool} {a : Act} {w : World} : ∀ {l : List Nat}, eachM P md ops Q R fuel listed a w l → ∀ i ∈ l, wpOp P ops Q i (fun a' w' => R w w' ∧ wpAnyM P md ops Q R fuel (listed.setIfInBounds i true) a' w') a w
  | [], _, _, h => by cases h
  | j :: l, h, i, hi => by
    rcases List.mem_cons.1 hi with rfl | hi
    · exact h.1
    · exact eachM_mem h.2 i hi
theorem anyofM (j : Nat) (l : List Nat) {fuel : Nat} {listed : Array Bool} {a : Act} {w : World} (hr : Region.ready md ops listed = j :: l) (h : eachM P md ops Q R fuel listed a w (j :: l)) : wpAnyM P md ops Q R (fuel + 1) listed a w := by
  refine ⟨fun h0 => (by rw [hr] at h0; cases h0), fun i hi => ?_⟩
  rw [hr] at hi
  exact eachM_mem h i hi
theorem oneM {i : Nat} {oi : Oper} {fuel : Nat} {listed : Array Bool} {a : Act} {w : World} (hi : (ops.toList.drop i).head? = some oi) (hw : Region.wanted oi (yielded ops a.tmps) = true)
    (h : ∀ K : Act → World → Prop, (∀ a' w', R w w' → wpAnyM P md ops Q R fuel (listed.setIfInBounds i true) a' w' → K a' w') → oi.wp P a w K Q) : wpOp P ops Q i (fun a' w' => R w w' ∧ wpAnyM P md ops Q R fuel (listed.setIfInBounds i true) a' w') a w := by
  refine wpOp_step (op_at hi) (fun K' hK => ?_)
  rw [if_pos hw]
  exact h K' (fun a' w' h1 h2 => hK _ _ ⟨h1, h2⟩)
end
theorem lat0 {Q : Prop} {A : World → Prop} (J : World → Prop) (h1 : (∀ w, J w → A w) → Q) (h2 : ∀ w, J w → A w) : Q := h1 h2
theorem lat1 {Q : Prop} {A : Value → World → Prop} (J : Value → World → Prop) (h1 : (∀ v0 w, J v0 w → A v0 w) → Q) (h2 : ∀ v0 w, J v0 w → A v0 w) : Q := h1 h2
theorem lat2 {Q : Prop} {A : Value → Value → World → Prop} (J : Value → Value → World → Prop) (h1 : (∀ v0 v1 w, J v0 v1 w → A v0 v1 w) → Q) (h2 : ∀ v0 v1 w, J v0 v1 w → A v0 v1 w) : Q := h1 h2
theorem lat3 {Q : Prop} {A : Value → Value → Value → World → Prop} (J : Value → Value → Value → World → Prop) (h1 : (∀ v0 v1 v2 w, J v0 v1 v2 w → A v0 v1 v2 w) → Q) (h2 : ∀ v0 v1 v2 w, J v0 v1 v2 w → A v0 v1 v2 w) : Q := h1 h2
theorem lat4 {Q : Prop} {A : Value → Value → Value → Value → World → Prop} (J : Value → Value → Value → Value → World → Prop) (h1 : (∀ v0 v1 v2 v3 w, J v0 v1 v2 v3 w → A v0 v1 v2 v3 w) → Q) (h2 : ∀ v0 v1 v2 v3 w, J v0 v1 v2 v3 w → A v0 v1 v2 v3 w) : Q := h1 h2
theorem lat5 {Q : Prop} {A : Value → Value → Value → Value → Value → World → Prop} (J : Value → Value → Value → Value → Value → World → Prop) (h1 : (∀ v0 v1 v2 v3 v4 w, J v0 v1 v2 v3 v4 w → A v0 v1 v2 v3 v4 w) → Q) (h2 : ∀ v0 v1 v2 v3 v4 w, J v0 v1 v2 v3 v4 w → A v0 v1 v2 v3 v4 w) : Q := h1 h2
theorem lat6 {Q : Prop} {A : Value → Value → Value → Value → Value → Value → World → Prop} (J : Value → Value → Value → Value → Value → Value → World → Prop) (h1 : (∀ v0 v1 v2 v3 v4 v5 w, J v0 v1 v2 v3 v4 v5 w → A v0 v1 v2 v3 v4 v5 w) → Q) (h2 : ∀ v0 v1 v2 v3 v4 v5 w, J v0 v1 v2 v3 v4 v5 w → A v0 v1 v2 v3 v4 v5 w) : Q := h1 h2
theorem lat7 {Q : Prop} {A : Value → Value → Value → Value → Value → Value → Value → World → Prop} (J : Value → Value → Value → Value → Value → Value → Value → World → Prop) (h1 : (∀ v0 v1 v2 v3 v4 v5 v6 w, J v0 v1 v2 v3 v4 v5 v6 w → A v0 v1 v2 v3 v4 v5 v6 w) → Q) (h2 : ∀ v0 v1 v2 v3 v4 v5 v6 w, J v0 v1 v2 v3 v4 v5 v6 w → A v0 v1 v2 v3 v4 v5 v6 w) : Q := h1 h2
theorem lat8 {Q : Prop} {A : Value → Value → Value → Value → Value → Value → Value → Value → World → Prop} (J : Value → Value → Value → Value → Value → Value → Value → Value → World → Prop) (h1 : (∀ v0 v1 v2 v3 v4 v5 v6 v7 w, J v0 v1 v2 v3 v4 v5 v6 v7 w → A v0 v1 v2 v3 v4 v5 v6 v7 w) → Q) (h2 : ∀ v0 v1 v2 v3 v4 v5 v6 v7 w, J v0 v1 v2 v3 v4 v5 v6 v7 w → A v0 v1 v2 v3 v4 v5 v6 v7 w) : Q := h1 h2
theorem lat9 {Q : Prop} {A : Value → Value → Value → Value → Value → Value → Value → Value → Value → World → Prop} (J : Value → Value → Value → Value → Value → Value → Value → Value → Value → World → Prop) (h1 : (∀ v0 v1 v2 v3 v4 v5 v6 v7 v8 w, J v0 v1 v2 v3 v4 v5 v6 v7 v8 w → A v0 v1 v2 v3 v4 v5 v6 v7 v8 w) → Q) (h2 : ∀ v0 v1 v2 v3 v4 v5 v6 v7 v8 w, J v0 v1 v2 v3 v4 v5 v6 v7 v8 w → A v0 v1 v2 v3 v4 v5 v6 v7 v8 w) : Q := h1 h2
theorem lat10 {Q : Prop} {A : Value → Value → Value → Value → Value → Value → Value → Value → Value → Value → World → Prop} (J : Value → Value → Value → Value → Value → Value → Value → Value → Value → Value → World → Prop) (h1 : (∀ v0 v1 v2 v3 v4 v5 v6 v7 v8 v9 w, J v0 v1 v2 v3 v4 v5 v6 v7 v8 v9 w → A v0 v1 v2 v3 v4 v5 v6 v7 v8 v9 w) → Q) (h2 : ∀ v0 v1 v2 v3 v4 v5 v6 v7 v8 v9 w, J v0 v1 v2 v3 v4 v5 v6 v7 v8 v9 w → A v0 v1 v2 v3 v4 v5 v6 v7 v8 v9 w) : Q := h1 h2
theorem lat11 {Q : Prop} {A : Value → Value → Value → Value → Value → Value → Value → Value → Value → Value → Value → World → Prop} (J : Value → Value → Value → Value → Value → Value → Value → Value → Value → Value → Value → World → Prop) (h1 : (∀ v0 v1 v2 v3 v4 v5 v6 v7 v8 v9 v10 w, J v0 v1 v2 v3 v4 v5 v6 v7 v8 v9 v10 w → A v0 v1 v2 v3 v4 v5 v6 v7 v8 v9 v10 w) → Q) (h2 : ∀ v0 v1 v2 v3 v4 v5 v6 v7 v8 v9 v10 w, J v0 v1 v2 v3 v4 v5 v6 v7 v8 v9 v10 w → A v0 v1 v2 v3 v4 v5 v6 v7 v8 v9 v10 w) : Q := h1 h2
theorem lat12 {Q : Prop} {A : Value → Value → Value → Value → Value → Value → Value → Value → Value → Value → Value → Value → World → Prop} (J : Value → Value → Value → Value → Value → Value → Value → Value → Value → Value → Value → Value → World → Prop) (h1 : (∀ v0 v1 v2 v3 v4 v5 v6 v7 v8 v9 v10 v11 w, J v0 v1 v2 v3 v4 v5 v6 v7 v8 v9 v10 v11 w → A v0 v1 v2 v3 v4 v5 v6 v7 v8 v9 v10 v11 w) → Q) (h2 : ∀ v0 v1 v2 v3 v4 v5 v6 v7 v8 v9 v10 v11 w, J v0 v1 v2 v3 v4 v5 v6 v7 v8 v9 v10 v11 w → A v0 v1 v2 v3 v4 v5 v6 v7 v8 v9 v10 v11 w) : Q := h1 h2
/-! ### What is carried -/
structure Item where
  t : Ty
  d : List t.Data
  v : Value
def Hold (x : Item) (w : World) : Prop := (Ty.sl x.t).holds w (fun b => x.v.ownBlock = some b) [x.v] x.d ∧ ∀ b, x.v.ownBlock = some b → b < w.heap.size
structure CJ (g : Nat) (w0 : World) (v0 cur : Value) (bs : List UInt8) (xs : List Item) (w : World) : Prop where
  mv : Moved w0 w v0 cur
  lt : g < w0.heap.size
  ne : ∀ b, cur.ownBlock = some b → b ≠ g
  own : OwnB w cur bs
  it : ∀ x ∈ xs, Hold x w ∧ ∀ b, cur.ownBlock = some b → x.v.ownBlock ≠ some b
section
variable {g : Nat} {w0 w w' : World} {v0 cur v' : Value} {bs bs' : List UInt8} {xs ys : List Item} {x : Item}
theorem CJ.start (hg : g < w0.heap.size) (ho : OwnB w0 v0 bs) (hne : ∀ b, v0.ownBlock = some b → b ≠ g) : CJ g w0 v0 v0 bs [] w0 := ⟨Moved.refl _ _, hg, hne, ho, fun _ h => by cases h⟩
theorem CJ.sub (h : CJ g w0 v0 cur bs xs w) (hs : ∀ x ∈ ys, x ∈ xs) : CJ g w0 v0 cur bs ys w := ⟨h.mv, h.lt, h.ne, h.own, fun x hx => h.it x (hs x hx)⟩
theorem CJ.ltw (h : CJ g w0 v0 cur bs xs w) : g < w.heap.size := Nat.lt_of_lt_of_le h.lt h.mv.grown.size
theorem CJ.make (h : CJ g w0 v0 cur bs xs w) (hx : Ext w w') (hh : Hold x w') (hn : ∀ b, x.v.ownBlock = some b → w.heap.size ≤ b) : CJ g w0 v0 cur bs (x :: xs) w' ∧ KeepB (fun b => b = g) w w' := by
  have hlt := OwnB.lt h.own
  refine ⟨⟨h.mv.post hx, h.lt, h.ne, h.own.ext hx, fun y hy => ?_⟩, fun b hb => hx.block b (by subst hb; exact h.ltw) (by simp)⟩
  rcases List.mem_cons.1 hy with rfl | hy
  · refine ⟨hh, fun b hb e => ?_⟩
    have h1 := hn b e
    have h2 := hlt b hb
    omega
  · obtain ⟨⟨h1, h2⟩, h3⟩ := h.it y hy
    exact ⟨⟨hx.holds h2 h1, fun b hb => Nat.lt_of_lt_of_le (h2 b hb) hx.size⟩, h3⟩
theorem CJ.call (h : CJ g w0 v0 cur bs xs w) (ho : OwnB w' v' bs') (hm : Moved w w' cur v') : CJ g w0 v0 v' bs' xs w' ∧ KeepB (fun b => b = g) w w' := by
  have hg := h.ltw
  refine ⟨⟨h.mv.trans hm, h.lt, fun b hb => ?_, ho, fun y hy => ?_⟩, fun b hb => by subst hb; exact hm.grown.block b hg (fun e => h.ne _ e.symm rfl)⟩
  · rcases hm.at_ with e | hn
    · exact h.ne b (e.symm.trans hb)
    · have := hn b hb; omega
  · obtain ⟨⟨h1, h2⟩, h3⟩ := h.it y hy
    have hfar : Far (fun b => y.v.ownBlock = some b) w cur := fun b hb => ⟨h2 b hb, fun e => h3 b e hb⟩
    refine ⟨⟨hm.holds hfar h1, fun b hb => Nat.lt_of_lt_of_le (h2 b hb) hm.grown.size⟩, fun b hb e => ?_⟩
    rcases hm.at_ with e' | hn
    · exact h3 b (e'.symm.trans hb) e
    · have h4 := hn b hb
      have h5 := h2 b e
      omega
theorem CJ.far (h : CJ g w0 v0 cur bs xs w) (hx : x ∈ xs) : Far (fun b => x.v.ownBlock = some b) w cur := fun b hb => ⟨(h.it x hx).1.2 b hb, fun e => (h.it x hx).2 b e hb⟩
theorem CJ.one (h : CJ g w0 v0 cur bs xs w) {l : List UInt8} {vl : Value} (hx : (⟨.u8, l, vl⟩ : Item) ∈ xs) (hb : bs.length + l.length ≤ 140737488355328) :
    Calls Try.prog 58 #[cur, vl] w fun e w' => ∃ v', e = .returned v' ∧ CJ g w0 v0 v' (bs ++ l) xs w' ∧ KeepB (fun b => b = g) w w' := by
  refine (Out_One cur vl bs l w _ h.own (h.it _ hx).1.1 hb).mono ?_
  rintro e w' ⟨v', rfl, ho, hm⟩
  exact ⟨v', rfl, h.call ho hm⟩
theorem CJ.four (h : CJ g w0 v0 cur bs xs w) {l : List Nat} {vl : Value} (hx : (⟨.nat .u32, l, vl⟩ : Item) ∈ xs) (hb : bs.length + 4 * l.length ≤ 140737488355328) :
    Calls Try.prog 57 #[cur, vl] w fun e w' => ∃ v', e = .returned v' ∧ CJ g w0 v0 v' (bs ++ l.flatMap (be 4)) xs w' ∧ KeepB (fun b => b = g) w w' := by
  refine (Out_Four cur vl bs l w _ h.own (h.it _ hx).1.1 (h.far hx) hb).mono ?_
  rintro e w' ⟨v', rfl, ho, hm⟩
  exact ⟨v', rfl, h.call ho hm⟩
theorem CJ.sum (h : CJ g w0 v0 cur bs xs w) {l : List (List UInt8)} {vl : Value} (hx : (⟨.arr 32 .u8, l, vl⟩ : Item) ∈ xs) (hb : bs.length + 32 * l.length ≤ 140737488355328) :
    Calls Try.prog 59 #[cur, vl] w fun e w' => ∃ v', e = .returned v' ∧ CJ g w0 v0 v' (bs ++ l.flatMap id) xs w' ∧ KeepB (fun b => b = g) w w' := by
  refine (Out_Sum cur vl bs l w _ h.own (h.it _ hx).1.1 (h.far hx) hb).mono ?_
  rintro e w' ⟨v', rfl, ho, hm⟩
  exact ⟨v', rfl, h.call ho hm⟩
/-- A slice of one thing is made. -/
theorem CJ.mk1 (h : CJ g w0 v0 cur bs xs w) {o : Oper} {a : Act} {K : Act → World → Prop} {Q : Exit → Act → World → Prop} (t : TypeId) (p : Operand) (ho : o.op = .buildSlice t 1 #[(0, p)]) (e : TypeId) (ht : Try.prog.underlying t = some (.slice e))
    (ty : Ty) (d : ty.Data) (u : Value) (cs : List Value) (hp : a.eval p = u) (hu : u.cells = cs.toArray) (hh : ∀ W F, ty.holds W F cs d) (hi : (Try.prog.info? e).map (·.size) = some cs.length) (hz : ((Try.prog.info? e).bind (·.zero)).isSome = true) (hl : cs.length ≤ 16777216) (hn : 0 < cs.length)
    (hk : ∀ v W', CJ g w0 v0 cur bs (⟨ty, [d], v⟩ :: xs) W' → KeepB (fun b => b = g) w W' → K (a.put o.dst v) W') : o.wp Try.prog a w K Q := by
  refine wp_oneL w t p ho e u cs ht hp hu hi hz hl hn ?_
  have h1 := h.make (x := ⟨ty, [d], .slice (some ⟨w.heap.size, 0, none⟩) 1 1⟩) (w' := w.alloc (.cells cs.toArray e)) ((Ext.refl w).alloc _) ⟨sl_made rfl rfl rfl (by decide) ⟨cs, [], by simp, hh _ _, rfl⟩, by rintro b ⟨⟩; simp⟩ (by rintro b ⟨⟩; exact Nat.le_refl _)
  exact hk _ _ h1.1 h1.2
/-- A slice of two numbers is made. -/
theorem CJ.mk2 (h : CJ g w0 v0 cur bs xs w) {o : Oper} {a : Act} {K : Act → World → Prop} {Q : Exit → Act → World → Prop} (t : TypeId) (p q : Operand) (ho : o.op = .buildSlice t 2 #[(0, p), (1, q)]) (ht : Try.prog.underlying t = some (.slice 69))
    (x y : Nat) (hp : a.eval p = .int .u64 (x : Int)) (hq : a.eval q = .int .u64 (y : Int)) (hx : (Lit.int .u64 (x : Int)).wf = true) (hy : (Lit.int .u64 (y : Int)).wf = true) (hi : (Try.prog.info? 69).map (·.size) = some 1) (hz : ((Try.prog.info? 69).bind (·.zero)).isSome = true)
    (hk : ∀ v W', CJ g w0 v0 cur bs (⟨.nat .u64, [x, y], v⟩ :: xs) W' → KeepB (fun b => b = g) w W' → K (a.put o.dst v) W') : o.wp Try.prog a w K Q := by
  refine wp_twoL w t p q ho 69 (.int .u64 (x : Int)) (.int .u64 (y : Int)) ht hp hq rfl rfl hi hz ?_
  have h1 := h.make (x := ⟨.nat .u64, [x, y], .slice (some ⟨w.heap.size, 0, none⟩) 2 2⟩) (w' := w.alloc (.cells [Value.int .u64 (x : Int), Value.int .u64 (y : Int)].toArray 69)) ((Ext.refl w).alloc _) ⟨sl_made rfl rfl rfl (by decide) ⟨[.int .u64 (x : Int)], _, rfl, ⟨rfl, hx⟩, [.int .u64 (y : Int)], [], rfl, ⟨rfl, hy⟩, rfl⟩, by rintro b ⟨⟩; simp⟩ (by rintro b ⟨⟩; exact Nat.le_refl _)
  exact hk _ _ h1.1 h1.2
end
end
section
open Go.RowKit

section
variable {g : Nat} {w0 w : World} {v0 cur : Value} {bs : List UInt8} {xs : List Item}
theorem CJ.appS (h : CJ g w0 v0 cur bs xs w) {o : Oper} {a : Act} {K : Act → World → Prop} {Q : Exit → Act → World → Prop} (s p : Operand) (t t' : TypeId) (ho : o.op = .call { callee := .builtin .append, args := #[s, p], argTypes := #[t, t'] })
    (ht : Try.prog.underlying t = some (.slice 5)) (ht' : Try.prog.underlying t' = some (.slice 5)) (hs : a.eval s = cur) (A : Option Addr) (m c : Nat) (l : List UInt8) (hp : a.eval p = .slice A m c) (hm : l.length = m) (hsrc : Src w A m (bv l)) (hb : bs.length + m ≤ 140737488355328)
    (hk : ∀ v' W', CJ g w0 v0 v' (bs ++ l) xs W' → KeepB (fun b => b = g) w W' → K (a.put o.dst v') W') : o.wp Try.prog a w K Q := by
  obtain ⟨i0, hi, hz0, hz1, hz2⟩ := info_parts u8_info
  refine wp_app w s p t t' ho 5 5 i0 _ 1 1 ht ht' hi hz0 hz1 hz2 rfl (by decide) cur _ _ hs h.own A m c (bv l) hp (by rw [bv_length, hm]; omega) hsrc (bv_one _) (by unfold maxLen; omega) (by omega) ?_
  intro v' w' ho' hm'
  subst hm
  have h1 := h.call (OwnB.app ho') hm'
  exact hk v' w' h1.1 h1.2
theorem CJ.appI (h : CJ g w0 v0 cur bs xs w) {o : Oper} {a : Act} {K : Act → World → Prop} {Q : Exit → Act → World → Prop} (s p : Operand) (t t' : TypeId) (ho : o.op = .call { callee := .builtin .append, args := #[s, p], argTypes := #[t, t'] })
    (ht : Try.prog.underlying t = some (.slice 5)) (ht' : Try.prog.underlying t' = some (.slice 5)) (hs : a.eval s = cur) {l : List UInt8} {vl : Value} (hx : (⟨.u8, l, vl⟩ : Item) ∈ xs) (hp : a.eval p = vl) (hb : bs.length + l.length ≤ 140737488355328)
    (hk : ∀ v' W', CJ g w0 v0 v' (bs ++ l) xs W' → KeepB (fun b => b = g) w W' → K (a.put o.dst v') W') : o.wp Try.prog a w K Q := by
  have h1 : (Ty.sl .u8).holds w (fun b => vl.ownBlock = some b) [vl] l := (h.it _ hx).1.1
  obtain ⟨A, c, hv⟩ : ∃ A c, vl = .slice A l.length c := by
    obtain ⟨A, c, xs', hv, _⟩ := h1
    exact ⟨A, c, by simpa using hv⟩
  rw [hv] at hp h1
  exact h.appS s p t t' ho ht ht' hs A _ c l hp rfl (src_bytes h1) hb hk
theorem CJ.num (h : CJ g w0 v0 cur bs xs w) (n size : Nat) (hn : n < 18446744073709551616) (hs : size ≤ 8) (hb : bs.length + size ≤ 140737488355328) :
    Calls Try.prog 60 #[cur, .int .u64 (n : Int), .int .i64 (size : Int)] w fun e w' => ∃ v', e = .returned v' ∧ CJ g w0 v0 v' (bs ++ be size n) xs w' ∧ KeepB (fun b => b = g) w w' := by
  refine (Ref_Num cur bs n size w _ (OwnB.holds h.own) (OwnB.lt h.own) hn hs hb).mono ?_
  rintro e w' ⟨v', rfl, ho, hf⟩
  exact ⟨v', rfl, h.call ho (Fresh.moved hf cur)⟩
theorem CJ.num0 (h : CJ g w0 v0 cur [] xs w) (vb : Value) (ds : List UInt8) (F : Fp) (hd : (Ty.sl .u8).holds w F [vb] ds) (hF : ∀ b, F b → b < w.heap.size) (n size : Nat) (hn : n < 18446744073709551616) (hs : size ≤ 8) (hb : ds.length + size ≤ 140737488355328) :
    Calls Try.prog 60 #[vb, .int .u64 (n : Int), .int .i64 (size : Int)] w fun e w' => ∃ v', e = .returned v' ∧ CJ g w0 v0 v' (ds ++ be size n) xs w' ∧ KeepB (fun b => b = g) w w' := by
  refine (Ref_Num vb ds n size w F hd hF hn hs hb).mono ?_
  rintro e w' ⟨v', rfl, ho, hf⟩
  exact ⟨v', rfl, h.call ho (Fresh.moved hf cur)⟩
theorem CJ.blk (h : CJ g w0 v0 cur bs xs w) (hv : ∀ b, v0.ownBlock = some b → b ≠ g) : w.heap[g]? = w0.heap[g]? := h.mv.grown.block g h.lt (fun e => hv _ e.symm rfl)
theorem CJ.ext (h : CJ g w0 (.slice none 0 0) cur bs xs w) : Ext w0 w := h.mv.grown
end
end
section
open Go.RowKit

set_option maxRecDepth 100000 in
set_option maxHeartbeats 4000000 in
theorem RLamp_Lay (BB : List UInt8) (vb : Value) (bs : List UInt8) (w : World) (F : Fp) (hB : BB.length = 1024) (hl : (Ty.sl .u8).holds w F [vb] bs) (hF : ∀ b, F b → b < w.heap.size) (hb : bs.length + 1024 ≤ 140737488355328) :
    Calls Try.prog 61 #[vb, .agg (bv BB).toArray] w fun e w' => ∃ v', e = .returned v' ∧ OwnB w' v' (bs ++ layS BB 32) ∧ Ext w w' ∧ ∀ b, v'.ownBlock = some b → w.heap.size ≤ b := by
  obtain ⟨i0, hi, hz0, hz1, hz2⟩ := info_parts u8_info
  have hb1 : Blk ((w.alloc (.cells (bv BB).toArray 26)).alloc (.cells #[] 5)) w.heap.size 26 (bv BB) := (Blk.new _ _ _).keep ((Ext.refl _).alloc _) (by simp)
  have hx0 : Ext w ((w.alloc (.cells (bv BB).toArray 26)).alloc (.cells #[] 5)) := ((Ext.refl w).alloc _).alloc _
  have hl2 := hx0.holds hF hl
  obtain ⟨A, c, xs, hv, _, _, _, _, _⟩ := hl
  cases hv
  have hsrc := src_bytes hl2
  have HBL := Lib.hid hB
  have HB1 := Lib.hid hb1
  have HX0 := Lib.hid hx0
  have HSRC := Lib.hid hsrc
  clear hb1 hx0 hl2 hsrc
  go_enter Try.func61, Try.ntmps61
  go_wp2_with (first
    | (at_builtin; go_must (refine wpList_app _ rfl (.tmp 7) (.tmp 8) _ _ rfl 5 5 i0 _ 1 1 Try.underlying62 Try.underlying62 hi hz0 hz1 hz2 rfl (by decide) (.slice (some ⟨w.heap.size + 1, 0, none⟩) 0 0) 0 [] rfl (own_empty (by simp)) A _ c (bv bs) rfl (by simp) HSRC.out (bv_one _) (by unfold maxLen; omega) (by omega) ?_); intro v2 w2 ho2 hm2)
    | fail)
  have hor : OwnB w2 v2 bs := by have h : OwnB w2 v2 ([] ++ bs) := OwnB.app ho2; simpa using h
  have hgr : ∀ b, v2.ownBlock = some b → w.heap.size + 1 ≤ b := fun b hb => by
    rcases hm2.at_ with e | hn
    · have h := e.symm.trans hb
      have : w.heap.size + 1 = b := by simpa [Value.ownBlock] using h
      omega
    · have h := hn b hb; simp at h; omega
  have hbb : Blk w2 w.heap.size 26 (bv BB) := HB1.out.keep hm2.grown (by simp [Value.ownBlock])
  have hxx : Ext w w2 := grown_then HX0.out hm2.grown (.inr fun b hb => by
    have : w.heap.size + 1 = b := by simpa [Value.ownBlock] using hb
    omega)
  have HO0 := Lib.hid hor
  have HG0 := Lib.hid hgr
  have HBB := Lib.hid hbb
  have HXX := Lib.hid hxx
  clear hor hgr hbb hxx ho2 hm2
  go_loopw [5, 6] (fun u i wr => ∃ k : Nat, k ≤ 32 ∧ i = .int .i64 k ∧ OwnB wr u (bs ++ layS BB k) ∧ Ext w wr ∧ Blk wr w.heap.size 26 (bv BB) ∧ (∀ b, u.ownBlock = some b → w.heap.size + 1 ≤ b)) (fun _ i _ => 32 - (intOf i).toNat)
  case atStart => exact ⟨0, by omega, rfl, by simpa [layS] using HO0.out, HXX.out, HBB.out, HG0.out⟩
  case round =>
    clear HO0 HG0 HBB HXX
    obtain ⟨k, hk, rfl, hou, hxu, hbu, hgu⟩ := hrel
    by_cases hlt : k < 32
    · have hll := layS_len HBL.out k (by omega)
      have hp1 := pieceB_len HBL.out (o := k * 16) (by omega)
      have hp2 := pieceB_len HBL.out (o := 512 + k * 16) (by omega)
      have hk1 : Cells wr ⟨w.heap.size, k * 16, none⟩ (bv ((BB.drop (k * 16)).take 16)) := by have h := (hbu.cells.drop (k * 16)).take 16; rw [addr_at, bv_piece] at h; exact h
      have hk2 : Cells wr ⟨w.heap.size, 512 + k * 16, none⟩ (bv ((BB.drop (512 + k * 16)).take 16)) := by have h := (hbu.cells.drop (512 + k * 16)).take 16; rw [addr_at, bv_piece] at h; exact h
      have hstep : layS BB (k + 1) = layS BB k ++ ((BB.drop (k * 16)).take 16 ++ (BB.drop (512 + k * 16)).take 16) := rfl
      generalize (BB.drop (k * 16)).take 16 = P1 at *
      generalize (BB.drop (512 + k * 16)).take 16 = P2 at *
      have hbl : w.heap.size < wr.heap.size := hbu.lt
      have HO := Lib.hid hou
      have HX := Lib.hid hxu
      have HB := Lib.hid hbu
      have HG := Lib.hid hgu
      have HK1 := Lib.hid hk1
      have HK2 := Lib.hid hk2
      have HP1 := Lib.hid hp1
      have HP2 := Lib.hid hp2
      have HLL := Lib.hid hll
      have HST := Lib.hid hstep
      have HBLT := Lib.hid hbl
      clear hou hxu hbu hgu hk1 hk2 hp1 hp2 hll hstep hbl
      go_wp2_with (first
        | (at_builtin
           refine wpList_app _ rfl (.tmp 14) (.tmp 18) _ _ rfl 5 5 i0 _ 1 1 Try.underlying62 Try.underlying62 hi hz0 hz1 hz2 rfl (by decide) u5 _ _ rfl HO.out _ 16 16 (bv P1) rfl (by simp [HP1.out]) (fun _ => ⟨_, rfl, HK1.out⟩) (bv_one _) (by have := HLL.out; rw [List.length_append]; unfold maxLen; omega) (by have := HLL.out; rw [List.length_append]; omega) ?_
           intro v8 w8 ho8 hm8
           have ho8 : OwnB w8 v8 ((bs ++ layS BB k) ++ P1) := OwnB.app (by rw [HP1.out]; exact ho8)
           have hne7 : some w.heap.size ≠ u5.ownBlock := fun e => absurd (HG.out _ e.symm) (by omega)
           have HK28 := Lib.hid (HK2.out.keep (hm8.grown.block w.heap.size HBLT.out hne7))
           have HB8 := Lib.hid (HB.out.keep hm8.grown hne7)
           have HX8 := Lib.hid (grown_then HX.out hm8.grown (.inr fun b hb => by have := HG.out b hb; omega) : Ext w w8)
           have HG8 : Hid (∀ b, v8.ownBlock = some b → w.heap.size + 1 ≤ b) := Lib.hid (fun b hb => by
             rcases hm8.at_ with e | hn
             · exact HG.out b (e.symm.trans hb)
             · have h1 := hn b hb
               have h3 := HBLT.out
               omega))
        | (at_builtin
           refine wpList_app _ rfl (.tmp 20) (.tmp 24) _ _ rfl 5 5 i0 _ 1 1 Try.underlying62 Try.underlying62 hi hz0 hz1 hz2 rfl (by decide) v8 _ _ rfl ho8 _ 16 16 (bv P2) rfl (by simp [HP2.out]) (fun _ => ⟨_, rfl, HK28.out⟩) (bv_one _) (by have := HLL.out; have := HP1.out; rw [List.length_append, List.length_append]; unfold maxLen; omega) (by have := HLL.out; have := HP1.out; rw [List.length_append, List.length_append]; omega) ?_
           intro v9 w9 ho9 hm9
           have ho9 : OwnB w9 v9 (((bs ++ layS BB k) ++ P1) ++ P2) := OwnB.app (by rw [HP2.out]; exact ho9))
        | fail)
      have hne8 : some w.heap.size ≠ v8.ownBlock := fun e => absurd (HG8.out _ e.symm) (by omega)
      have hb9 := HB8.out.keep hm9.grown hne8
      have hx9 : Ext w w9 := grown_then HX8.out hm9.grown (.inr fun b hb => by have := HG8.out b hb; omega)
      have hg9 : ∀ b, v9.ownBlock = some b → w.heap.size + 1 ≤ b := fun b hb => by
        rcases hm9.at_ with e | hn
        · exact HG8.out b (e.symm.trans hb)
        · have h1 := hn b hb
          have h3 := HB8.out.lt
          omega
      have ho9' : OwnB w9 v9 (bs ++ layS BB (k + 1)) := by rw [HST.out, ← List.append_assoc, ← List.append_assoc]; exact ho9
      have HO9 := Lib.hid ho9'
      have HB9 := Lib.hid hb9
      have HX9 := Lib.hid hx9
      have HG9 := Lib.hid hg9
      clear hb9 hx9 hg9 ho9'
      go_roundw
      case rel => exact ⟨k + 1, by omega, by go_num, HO9.out, HX9.out, HB9.out, HG9.out⟩
      case measure => simp [intOf]; omega
    · obtain rfl : k = 32 := by omega
      go_wp2
      go_ret
      exact ⟨_, rfl, hou, hxu, fun b hb => by have := hgu b hb; omega⟩
end
section
open Go.RowKit

/-- The byte that is made of a number. -/
def byteOf (n : Int) : UInt8 := UInt8.ofNat (n % 256).toNat
theorem byteOf_eq (n : Int) : ((byteOf n).toNat : Int) = n % 256 := by
  have h1 : 0 ≤ n % 256 := Int.emod_nonneg _ (by decide)
  have h2 : n % 256 < 256 := Int.emod_lt_of_pos _ (by decide)
  simp only [byteOf, UInt8.toNat_ofNat']
  omega
theorem u8_sizeU : (Try.prog.info? 5).map (·.size) = some 1 := by kernel_rfl
theorem u8_zeroU : ((Try.prog.info? 5).bind (·.zero)).isSome = true := by kernel_rfl
theorem szDg {n : Nat} (h : n = 32) : (Try.prog.info? 55).map (·.size) = some n := by subst h; kernel_rfl
theorem zDg : ((Try.prog.info? 55).bind (·.zero)).isSome = true := by kernel_rfl
end
end Go.Proofs.Ytpdkmapogncgmaa

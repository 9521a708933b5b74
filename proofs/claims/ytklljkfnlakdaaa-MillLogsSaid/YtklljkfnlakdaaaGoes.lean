/- MillGoes: for every input the law returns true. -/
import Derived.Test.YtklljkfnlakdaaaMAwake
import Derived.RegionTactic
import Derived.Deep.RegionWith
import Derived.Deep.DrawnRows
set_option linter.unusedVariables false
set_option linter.unusedSimpArgs false
set_option linter.unnecessarySimpa false
namespace Go.Proofs.Ytklljkfnlakdaaa
open Go.RowKit

theorem Note_nil (D v : Value) (cs : Array Value) (hD : D = .agg cs) (w : World) : Calls Try.prog 21 #[.pointer none, D, v] w fun e w' => e = .returned (.tuple #[]) ∧ Ext w w' := by
  subst hD
  go_enter Try.func21, Try.ntmps21
  go_wp2
  exact bodyPost_ret (results_none rfl _ _ _) rfl ⟨rfl, (Ext.refl w).alloc _⟩
theorem Met_nil (w : World) : Calls Try.prog 22 #[.pointer none] w fun e w' => e = .returned (.bool false) ∧ w = w' := by
  go_enter Try.func22, Try.ntmps22
  go_wp2
  go_ret
  exact ⟨rfl, rfl⟩
theorem Many_nil (w : World) : Calls Try.prog 23 #[.pointer none] w fun e w' => e = .returned (.int .i64 0) ∧ w = w' := by
  go_enter Try.func23, Try.ntmps23
  go_wp2
  go_ret
  exact ⟨rfl, rfl⟩

/-- How many bytes the first parts have. -/
def total (ps : List (List UInt8)) : Nat := (ps.flatMap id).length
attribute [local go_sem ↓] Go.wp_at_zero Go.wp_at_succ

set_option maxHeartbeats 1000000 in
theorem goes_big (v : Value) (ps : List (List UInt8)) (w : World) (F : Fp) (hp : (Ty.sl (.sl .u8)).holds w F [v] ps) (hF : ∀ b, F b → b < w.heap.size) (h30 : 30 < ps.length) :
    Calls Try.prog 8 #[v] w fun e w' => e = .returned (.bool true) ∧ Ext w w' := by
  obtain ⟨A, c, xs, hv, hlc, hc, hA, hcell, hall⟩ := hp
  cases hv
  unfold maxLen at hc
  go_enter Try.func8, Try.ntmps8
  go_wp2
  go_loopw [3, 14] (fun n i wr => ∃ k : Nat, k ≤ ps.length ∧ i = .int .i64 k ∧ wr = w ∧ ∃ m : Int, n = .int .i64 m) (fun _ i _ => ps.length - (intOf i).toNat)
  case atStart => exact ⟨0, by omega, rfl, rfl, _, rfl⟩
  case round =>
    obtain ⟨k, hk, rfl, rfl, m, rfl⟩ := hrel
    by_cases hlt : k < ps.length
    · obtain ⟨ad, rfl, hf, hcells⟩ := hcell (by rintro rfl; simp at hlt)
      obtain ⟨y, hy, hyh⟩ := AllH.sl_at hall hlt
      have hcx := hcells k _ hy
      obtain ⟨A1, c1, xs1, hv1, hlc1, hc1, _⟩ := hyh
      cases hv1
      go_wp2
      go_roundw
      case rel => exact ⟨k + 1, by omega, by go_num, trivial, _, rfl⟩
      case measure => simp [intOf]; omega
    · obtain rfl : k = ps.length := by omega
      by_cases hm : 5000 < m
      all_goals
        go_wp2_with fail
        refine (awake_true _).mono ?_
        rintro e w2 ⟨rfl, hx2⟩
        go_wp2
        go_ret
        exact ⟨rfl, hx2⟩

theorem total_step (ps : List (List UInt8)) (k : Nat) (h : k < ps.length) : total (ps.take (k + 1)) = total (ps.take k) + ps[k].length := by
  unfold total; rw [flat_step _ _ _ h, List.length_append]; rfl
theorem total_le (ps : List (List UInt8)) (M : Nat) (h : ∀ p ∈ ps, p.length ≤ M) : ∀ k, k ≤ ps.length → total (ps.take k) ≤ k * M
  | 0, _ => by simp [total]
  | k + 1, hk => by
    have := total_le ps M h k (by omega)
    rw [total_step ps k (by omega), Nat.succ_mul]
    have := h ps[k] (List.getElem_mem _)
    omega

set_option maxHeartbeats 2000000 in
theorem goes_small (v : Value) (ps : List (List UInt8)) (w : World) (F : Fp) (hp : (Ty.sl (.sl .u8)).holds w F [v] ps) (hF : ∀ b, F b → b < w.heap.size) (h30 : ps.length ≤ 30) (hr : ∀ p ∈ ps, p.length ≤ 140737488351232) :
    Calls Try.prog 8 #[v] w fun e w' => e = .returned (.bool true) ∧ Ext w w' := by
  have hp0 := hp
  obtain ⟨i0, hi, hz0, hz1, hz2⟩ := info_parts u8_info
  obtain ⟨A, c, xs, hv, hlc, hc, hA, hcell, hall⟩ := hp
  cases hv
  unfold maxLen at hc
  have hu8 : (Try.prog.info? 5).map (·.size) = some 1 := by kernel_rfl
  have hgt : Try.prog.eqGuardType Try.prog.depth 25 = false := by kernel_rfl
  have htl := total_le ps _ hr
  have HTL := Lib.hid htl
  have HP0 := Lib.hid hp0
  clear htl hp0
  go_enter Try.func8, Try.ntmps8
  go_wp2
  go_loopw [3, 14] (fun n i wr => ∃ k : Nat, k ≤ ps.length ∧ i = .int .i64 k ∧ wr = w ∧ n = .int .i64 (total (ps.take k) : Nat)) (fun _ i _ => ps.length - (intOf i).toNat)
  case atStart => exact ⟨0, by omega, rfl, rfl, rfl⟩
  case round =>
    obtain ⟨k, hk, rfl, rfl, rfl⟩ := hrel
    by_cases hlt : k < ps.length
    · obtain ⟨ad, rfl, hf, hcells⟩ := hcell (by rintro rfl; simp at hlt)
      obtain ⟨y, hy, hyh⟩ := AllH.sl_at hall hlt
      have hcx := hcells k _ hy
      obtain ⟨A1, c1, xs1, hv1, hlc1, hc1, _⟩ := hyh
      cases hv1
      have hst := total_step ps k hlt
      have hb1 := HTL.out k hk
      have hb2 := hr ps[k] (List.getElem_mem hlt)
      have hb3 : k * 140737488351232 ≤ 30 * 140737488351232 := Nat.mul_le_mul_right _ (by omega)
      have HST := Lib.hid hst
      clear hst
      generalize total (ps.take k) = T at hb1 HST ⊢
      go_wp2
      go_roundw
      case rel => exact ⟨k + 1, by omega, by go_num, trivial, by rw [HST.out]; go_num⟩
      case measure => simp [intOf]; omega
    · obtain rfl : k = ps.length := by omega
      have ht : total (ps.take ps.length) = (ps.flatMap id).length := by rw [List.take_length]; rfl
      rw [ht]
      generalize hT : (ps.flatMap id).length = T
      have HT := Lib.hid hT
      clear hT ht
      by_cases hbig : 5000 < T
      · skip
        go_wp2_with fail
        refine (awake_true _).mono ?_
        rintro e w2 ⟨rfl, hx2⟩
        go_wp2
        go_ret
        exact ⟨rfl, hx2⟩
      · go_wp2_with fail
        refine (New _).mono ?_
        rintro e w1 ⟨rfl, rfl⟩
        have hm1 := mill_new (w := wr) (G := wr.heap.size) rfl
        have hx1 := (Ext.refl wr).alloc (.cells (nv firstK ++ bv (List.replicate 64 0) ++ [Value.int .u64 0]).toArray 65)
        have hg1 : wr.heap.size < (wr.alloc (.cells (nv firstK ++ bv (List.replicate 64 0) ++ [Value.int .u64 0]).toArray 65)).heap.size := by simp
        generalize wr.alloc (.cells (nv firstK ++ bv (List.replicate 64 0) ++ [Value.int .u64 0]).toArray 65) = w1 at hm1 hx1 hg1 ⊢
        have hTl : ∀ k, ((ps.take k).flatMap id).length ≤ 5000 := fun k => by have := flat_take_len id ps k; have := HT.out; omega
        have HTL2 := Lib.hid hTl
        clear hTl
        obtain ⟨w0, rfl⟩ : ∃ w0 : World, w0 = wr := ⟨_, rfl⟩
        have hne0 : ∀ D : List UInt8, (D == D) = true := fun D => by simp
        go_wp2
        go_loopw [7, 36] (fun va i wr => ∃ k : Nat, k ≤ ps.length ∧ i = .int .i64 k ∧ Ext w0 wr ∧ MillAt wr w0.heap.size ((ps.take k).flatMap id) ∧ OwnB wr va ((ps.take k).flatMap id) ∧ (∀ b, va.ownBlock = some b → w0.heap.size < b)) (fun _ i _ => ps.length - (intOf i).toNat)
        case atStart => exact ⟨0, by omega, rfl, hx1, hm1, Own.nil _ _ _, by simp [Value.ownBlock]⟩
        case round =>
          clear hm1 hx1 hg1
          obtain ⟨k, hk, rfl, hx, hm, ho, hap⟩ := hrel
          by_cases hlt : k < ps.length
          · obtain ⟨ad, rfl, hf, hcells⟩ := hcell (by rintro rfl; simp at hlt)
            obtain ⟨y, hy, hyh⟩ := AllH.sl_at hall hlt
            have hcx := (hcells.keep (hx.same hF _ hf)) k _ hy
            have hyr := hx.holds hF hyh
            obtain ⟨A1, c1, xs1, hv1, hlc1, hc1, _⟩ := hyh
            cases hv1
            unfold maxLen at hc1
            have hb1 := HTL2.out k
            have hb2 := HTL2.out (k + 1)
            have hstp := flat_step id ps k hlt
            rw [hstp, List.length_append] at hb2
            have hstp : (ps.take (k + 1)).flatMap id = (ps.take k).flatMap id ++ ps[k] := hstp
            have HST := Lib.hid hstp
            have HM := Lib.hid hm
            have HO := Lib.hid ho
            have HY := Lib.hid hyr
            have hb3 : ps[k].length ≤ 5000 := by simp only [id] at hb2; omega
            clear hstp hm ho hyr hy
            generalize hP : (ps.take k).flatMap id = P at *
            generalize hp : ps[k] = p at *
            clear hP hp
            simp only [id] at hb2
            have hvl := HO.out.lt
            go_wp2_with fail
            have hF1 : ∀ b, F b → b < wr.heap.size := fun b hb => Nat.lt_of_lt_of_le (hF b hb) hx.size
            refine (Write w0.heap.size _ P [p] _ (fun b => F b ∨ b = wr.heap.size) (HM.out.keep ((Ext.refl _).alloc _) (by simp)) (parts_new rfl rfl (by simp [maxLen]) (AllH.one (R := (Ty.sl .u8).holds _ _) HY.out) hF1)
              (by have := HM.out.lt
                  rintro b (hb | rfl)
                  · have := hF b hb; have := hF1 b hb; exact ⟨by simp; omega, by omega⟩
                  · exact ⟨by simp, by omega⟩) (by simp only [List.flatMap_cons, List.flatMap_nil, id, List.append_nil]; omega)).mono ?_
            rintro e w3 ⟨rfl, hm3, hg3⟩
            have hx3 : wr.grownBy w3 (some w0.heap.size) := grown_then (((Ext.refl wr).alloc _).any _) hg3 (.inl rfl)
            have ho3 := HO.out.keep hx3 (by cases h : u7.ownBlock with
              | none => exact .inl rfl
              | some b => exact .inr (by have := hap b h; simp; omega))
            have hsrc := src_bytes (Ty.keep (t := .sl .u8) (fun b hb => hx3.block b (hF1 b hb) (by have := hF b hb; simp; omega)) (fun _ h => h) HY.out)
            have hm3 : MillAt w3 w0.heap.size (P ++ p) := by simpa using hm3
            have hxw3 : Ext w0 w3 := grown_then hx hx3 (.inr (by rintro _ ⟨⟩; exact Nat.le_refl _))
            have HM3 := Lib.hid hm3
            clear hm3 hg3
            go_wp2_with (first
              | (at_builtin; refine wpList_app _ rfl (.tmp 44) (.tmp 45) _ _ rfl _ _ i0 _ 1 1 Try.underlying22 Try.underlying22 hi hz0 hz1 hz2 rfl (by decide) _ _ _ rfl ho3 _ _ _ (bv p) rfl (by simp) hsrc (bv_one _) (by unfold maxLen; omega) (by omega) ?_; intro v4 w4 ho4 hm4)
              | fail)
            have hm4 : Moved w3 w4 u7 v4 := hm4
            have ho4 : OwnB w4 v4 (P ++ p) := OwnB.app ho4
            have hql : (P ++ p).length ≤ 5000 := by rw [List.length_append]; omega
            generalize hQ : P ++ p = Q at ho4 HM3 HST hql
            clear hQ
            obtain ⟨A4, c4, rfl⟩ := ho4.form
            have hap4 : ∀ b, (Value.slice A4 Q.length c4).ownBlock = some b → w0.heap.size < b := by
              intro b hb
              rcases hm4.at_ with e | h
              · exact hap b (by rw [← e]; exact hb)
              · have := h b hb; have := HM3.out.lt; omega
            have hmm4 : MillAt w4 w0.heap.size Q := HM3.out.keep hm4.grown (fun e => by have := hap _ e.symm; omega)
            have hx4 : Ext w0 w4 := grown_then hxw3 hm4.grown (.inr (fun b e => by have := hap b e; omega))
            have hS := sum_any hmm4 (by omega)
            have hO := of_one ho4 (by omega)
            have hD : (sha Q).length = 32 := sha_length _
            have HMM := Lib.hid hmm4
            have HO4 := Lib.hid ho4
            clear hmm4 ho4 hm4
            generalize hDD : sha Q = D at hS hO hD
            clear hDD
            refine (hS w4 (Ext.refl _)).mono ?_
            rintro e w5 ⟨rfl, hx5⟩
            go_wp2_with fail
            refine (hO _ _ _ hx5 rfl (Ext.refl _)).mono ?_
            rintro e w6 ⟨rfl, hx6⟩
            have hx46 : Ext w4 w6 := hx5.trans (((Ext.refl _).alloc _).trans hx6)
            go_wp2_with (first
              | (refine wpList_neD _ (.inl rfl) 25 _ (.tmp 48) (.tmp 51) rfl 5 32 Try.underlying25 Try.underlying5 hu8 hgt D D rfl rfl hD hD ?_)
              | fail)
            refine (hS w6 hx46).mono ?_
            rintro e w7 ⟨rfl, hx7⟩
            go_wp2_with fail
            refine (hS w7 (hx46.trans hx7)).mono ?_
            rintro e w8 ⟨rfl, hx8⟩
            have hx48 : Ext w4 w8 := (hx46.trans hx7).trans hx8
            go_wp2_with (first
              | (refine wpList_neD _ (.inr rfl) 25 _ (.tmp 55) (.tmp 57) rfl 5 32 Try.underlying25 Try.underlying5 hu8 hgt D D rfl rfl hD hD ?_)
              | fail)
            go_roundw
            case rel => exact ⟨k + 1, by omega, by go_num, hx4.trans hx48, by rw [HST.out]; exact HMM.out.keep hx48 (by simp), by rw [HST.out]; exact HO4.out.ext hx48, hap4⟩
            case measure => simp [intOf]; omega
          · obtain rfl : k = ps.length := by omega
            go_wp2_with fail
            refine (Write_nil _ _).mono ?_
            rintro e w3 ⟨rfl, rfl⟩
            go_wp2_with (first
              | (refine wpList_build (.inl rfl) 25 _ rfl (.agg (bv (List.replicate 32 0)).toArray) (by kernel_rfl) ?_)
              | fail)
            refine (Note_nil _ _ _ rfl _).mono ?_
            rintro e w3 ⟨rfl, hx3⟩
            go_wp2_with fail
            refine (awake_true _).mono ?_
            rintro e w4 ⟨rfl, hx4⟩
            go_wp2_with fail
            refine (Sum_nil _).mono ?_
            rintro e w5 ⟨rfl, hx5⟩
            go_wp2_with (first
              | (refine wpList_build (.inr rfl) 25 _ rfl (.agg (bv (List.replicate 32 0)).toArray) (by kernel_rfl) ?_)
              | (refine wpList_eqD _ (.inr rfl) 25 _ (.tmp 70) (.tmp 71) rfl 5 32 Try.underlying25 Try.underlying5 hu8 hgt (List.replicate 32 0) (List.replicate 32 0) rfl rfl rfl rfl ?_)
              | fail)
            refine (Met_nil _).mono ?_
            rintro e w6 ⟨rfl, rfl⟩
            go_wp2_with fail
            refine (Many_nil _).mono ?_
            rintro e w6 ⟨rfl, rfl⟩
            go_wp2
            go_ret
            exact ⟨rfl, hx.trans (hx3.trans (hx4.trans hx5))⟩
theorem goes_walk (v : Value) (ps : List (List UInt8)) (w : World) (F : Fp) (hp : (Ty.sl (.sl .u8)).holds w F [v] ps) (hF : ∀ b, F b → b < w.heap.size) (hr : ∀ p ∈ ps, p.length ≤ 140737488351232) :
    Calls Try.prog 8 #[v] w fun e w' => e = .returned (.bool true) ∧ Ext w w' := by
  by_cases h : ps.length ≤ 30
  · exact goes_small v ps w F hp hF h hr
  · exact goes_big v ps w F hp hF (by omega)
end Go.Proofs.Ytklljkfnlakdaaa

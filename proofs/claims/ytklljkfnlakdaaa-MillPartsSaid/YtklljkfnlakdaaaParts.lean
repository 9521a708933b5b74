/- MillParts: for every input the law returns true. -/
import Derived.Test.YtklljkfnlakdaaaMAwake
import Derived.RegionTactic
import Derived.Deep.RegionHeldLaw
import Derived.Deep.DrawnRows
import Derived.Deep.CutRange
import Derived.Deep.DeepCutAuto
import Derived.Deep.CutBlock
set_option linter.unusedVariables false
set_option linter.unusedSimpArgs false
set_option linter.unnecessarySimpa false
namespace Go.Proofs.Ytklljkfnlakdaaa
open Go.RowKit
attribute [local go_sem ↓] Go.wp_at_zero Go.wp_at_succ

theorem of_none (w : World) : Calls Try.prog 10 #[.slice none 0 0] w fun e w' => e = .returned (.agg (bv (sha [])).toArray) ∧ Ext w w' := by
  have := Of (.slice none 0 0) [] w (fun _ => False) ⟨none, 0, [], rfl, by simp, by simp [maxLen], fun _ => rfl, fun h => absurd rfl h, rfl⟩ (by simp) (by simp)
  simpa using this
theorem of_two {w : World} {v1 v2 : Value} {p1 p2 : List UInt8} {F : Fp} (h1 : (Ty.sl .u8).holds w F [v1] p1) (h2 : (Ty.sl .u8).holds w F [v2] p2) (hF : ∀ b, F b → b < w.heap.size) (hb : (p1 ++ p2).length < 576460752303423488) :
    ∀ (G : Nat) (w' w'' : World), Ext w w' → w'.heap.size = G → Ext (w'.alloc (.cells #[v1, v2] 22)) w'' → Calls Try.prog 10 #[.slice (some ⟨G, 0, none⟩) 2 2] w'' fun e w3 => e = .returned (.agg (bv (sha (p1 ++ p2))).toArray) ∧ Ext w'' w3 := by
  intro G w' w'' hx hG hx2
  have hF1 : ∀ b, F b → b < w'.heap.size := fun b hb => Nat.lt_of_lt_of_le (hF b hb) hx.size
  have h3 := parts_new (w := w') (T := 22) (n := 2) hG rfl (by simp [maxLen]) (allH_two (R := (Ty.sl .u8).holds _ _) (hx.holds hF h1) (hx.holds hF h2)) hF1
  have hF2 : ∀ b, (F b ∨ b = G) → b < (w'.alloc (.cells #[v1, v2] 22)).heap.size := by
    rintro b (hb | rfl)
    · have := hF1 b hb; simp; omega
    · simp; omega
  have := Of _ [p1, p2] w'' _ (hx2.holds hF2 h3) (fun b hb => Nat.lt_of_lt_of_le (hF2 b hb) hx2.size) (by simpa using hb)
  simpa using this
theorem xor_ff (b : UInt8) : ∃ n : UInt8, bits .xor .u8 (b.toNat : Int) 255 = (n.toNat : Int) := by
  have h : ∀ n : Nat, n < 256 → bits .xor .u8 (n : Int) 255 = ((UInt8.ofNat (n ^^^ 255)).toNat : Int) := by decide +kernel
  exact ⟨_, h b.toNat b.toNat_lt⟩

set_option maxHeartbeats 2000000 in
theorem parts_walk (v : Value) (ps : List (List UInt8)) (w : World) (F : Fp) (hp : (Ty.sl (.sl .u8)).holds w F [v] ps) (hF : ∀ b, F b → b < w.heap.size) :
    Calls Try.prog 4 #[v] w fun e w' => e = .returned (.bool true) ∧ Ext w w' := by
  obtain ⟨i0, hi, hz0, hz1, hz2⟩ := info_parts u8_info
  obtain ⟨A, c, xs, hv, hlc, hc, hA, hcell, hall⟩ := hp
  cases hv
  unfold maxLen at hc
  have hu8 : (Try.prog.info? 5).map (·.size) = some 1 := by kernel_rfl
  have hgt : Try.prog.eqGuardType Try.prog.depth 25 = false := by kernel_rfl
  go_enter Try.func4, Try.ntmps4
  go_wp2_with fail
  refine (New _).mono ?_
  rintro e w1 ⟨rfl, rfl⟩
  have hm1 := mill_new (w := w) (G := w.heap.size) rfl
  have hx1 := (Ext.refl w).alloc (.cells (nv firstK ++ bv (List.replicate 64 0) ++ [Value.int .u64 0]).toArray 65)
  have hg1 : w.heap.size < (w.alloc (.cells (nv firstK ++ bv (List.replicate 64 0) ++ [Value.int .u64 0]).toArray 65)).heap.size := by simp
  generalize w.alloc (.cells (nv firstK ++ bv (List.replicate 64 0) ++ [Value.int .u64 0]).toArray 65) = w1 at hm1 hx1 hg1 ⊢
  go_upto_block 0 with fail
  go_cut [13] from 4 to 70 (fun _ wx => Ext w wx)
  case first =>
    go_wp2_with fail
    go_loopw [4, 13] (fun va i wr => ∃ k : Nat, k ≤ ps.length ∧ k ≤ 30 ∧ i = .int .i64 k ∧ Ext w wr ∧ MillAt wr w.heap.size ((ps.take k).flatMap id) ∧ OwnB wr va ((ps.take k).flatMap id) ∧ (∀ b, va.ownBlock = some b → w.heap.size < b) ∧ ((ps.take k).flatMap id).length ≤ k * 2000) (fun _ i _ => ps.length - (intOf i).toNat)
    case atStart => exact ⟨0, by omega, by omega, rfl, hx1, hm1, Own.nil _ _ _, by simp [Value.ownBlock], by simp⟩
    case round =>
      clear hm1 hx1 hg1
      obtain ⟨k, hk, hk30, rfl, hx, hm, ho, hap, hlen⟩ := hrel
      by_cases hlt : k < ps.length
      · obtain ⟨ad, rfl, hf, hcells⟩ := hcell (by rintro rfl; simp at hlt)
        obtain ⟨y, hy, hyh⟩ := AllH.sl_at hall hlt
        have hcx := (hcells.keep (hx.same hF _ hf)) k _ hy
        have hyr := hx.holds hF hyh
        have HYW := Lib.hid hyh
        obtain ⟨A1, c1, xs1, hv1, hlc1, hc1, _⟩ := hyh
        cases hv1
        unfold maxLen at hc1
        by_cases h30 : 30 ≤ k
        · clear hk30
          go_wp2_with fail
          go_meet
          exact hx
        · have h30' : k < 30 := by omega
          by_cases h2000 : 2000 < ps[k].length
          · go_wp2_with fail
            go_meet
            exact hx
          · have hstp : (ps.take (k + 1)).flatMap id = (ps.take k).flatMap id ++ ps[k] := flat_step id ps k hlt
            have HST := Lib.hid hstp
            have HM := Lib.hid hm
            have HO := Lib.hid ho
            have HY := Lib.hid hyr
            clear hstp hm ho hyr hy h30
            generalize hP : (ps.take k).flatMap id = P at *
            generalize hp : ps[k] = p at *
            clear hP hp
            have hF1 : ∀ b, F b → b < wr.heap.size := fun b hb => Nat.lt_of_lt_of_le (hF b hb) hx.size
            have hsrc := src_bytes HY.out
            have hPl : P.length ≤ 60000 := by omega
            have hg0 := HM.out.lt
            go_wp2_with (first
              | (at_builtin; refine wpList_app _ rfl (.tmp 25) (.tmp 26) _ _ rfl _ _ i0 _ 1 1 Try.underlying22 Try.underlying22 hi hz0 hz1 hz2 rfl (by decide) _ _ _ rfl (own_empty rfl) _ _ _ (bv p) rfl (by simp) (hsrc.alloc (bv_ne p) _) (bv_one _) (by unfold maxLen; omega) (by omega) ?_; intro v2 w2 ho2 hm2; obtain ⟨A2, c2, hv2⟩ := ho2.form; rw [Nat.zero_add] at hv2; subst hv2)
              | fail)
            have ho2 : OwnB w2 (.slice A2 p.length c2) p := by unfold OwnB; simpa using ho2
            have hm2 : Fresh wr w2 (.slice A2 p.length c2) := (fresh_empty wr 5).trans hm2
            have hx2 : Ext wr w2 := hm2.ext
            have hv2 : ∀ b, (Value.slice A2 p.length c2).ownBlock = some b → wr.heap.size ≤ b := hm2.new
            have hh2 := ho2.holds
            have hlt2 := ho2.lt
            have hmil2 := HM.out.keep hx2 (by simp)
            clear hm2
            go_wp2_with fail
            refine (Write w.heap.size _ P [p] _ _ (hmil2.keep ((Ext.refl _).alloc _) (by simp)) (parts_new rfl rfl (by simp [maxLen]) (AllH.one (R := (Ty.sl .u8).holds _ _) hh2) hlt2)
              (by have := hx2.size
                  rintro b (hb | rfl)
                  · have := hlt2 b hb; have := hv2 b hb; exact ⟨by simp; omega, by omega⟩
                  · exact ⟨by simp, by omega⟩) (by simp only [List.flatMap_cons, List.flatMap_nil, id, List.append_nil]; omega)).mono ?_
            rintro e w3 ⟨rfl, hm3, hg3⟩
            have hm3 : MillAt w3 w.heap.size (P ++ p) := by simpa using hm3
            have hg23 : w2.grownBy w3 (some w.heap.size) := grown_then (((Ext.refl w2).alloc _).any _) hg3 (.inl rfl)
            have ho3 : OwnB w3 (.slice A2 p.length c2) p := ho2.keep hg23 (by cases h : (Value.slice A2 p.length c2).ownBlock with
              | none => exact .inl rfl
              | some b => exact .inr (by have := hv2 b h; simp; omega))
            have hgr3 : wr.grownBy w3 (some w.heap.size) := grown_then (hx2.any _) hg23 (.inl rfl)
            have hx3 : Ext w w3 := grown_then hx hgr3 (.inr (by rintro _ ⟨⟩; exact Nat.le_refl _))
            have hoa3 : OwnB w3 u4 P := HO.out.keep hgr3 (by cases h : u4.ownBlock with
              | none => exact .inl rfl
              | some b => exact .inr (by have := hap b h; simp; omega))
            have hltA := HO.out.lt
            have HSZ := Lib.hid hgr3.size
            clear hg3 hg23 hgr3 hh2 hlt2 hmil2 ho2
            obtain ⟨wi, rfl⟩ : ∃ wi : World, wi = wr := ⟨_, rfl⟩
            go_wp2
            go_loopw [34] (fun i wr => ∃ j : Nat, j ≤ p.length ∧ i = .int .i64 j ∧ Ext w wr ∧ MillAt wr w.heap.size (P ++ p) ∧ OwnB wr u4 P ∧ (∃ bs : List UInt8, bs.length = p.length ∧ OwnB wr (.slice A2 p.length c2) bs) ∧ (∀ b, F b → wr.heap[b]? = w.heap[b]?)) (fun i _ => p.length - (intOf i).toNat)
            case atStart => exact ⟨0, by omega, rfl, hx3, hm3, hoa3, ⟨p, rfl, ho3⟩, fun b hb => hx3.block b (hF b hb) (by simp)⟩
            case round =>
              clear hx3 hm3 hoa3 ho3
              obtain ⟨j, hj, rfl, hx, hm, ho, ⟨bs, hbl, hb⟩, hfr⟩ := hrel
              by_cases hjl : j < p.length
              · have hbo : Own wr 5 1 (.slice A2 p.length c2) p.length (bv bs) := by unfold OwnB at hb; rw [hbl] at hb; exact hb
                obtain ⟨g2, rfl⟩ : ∃ g2, A2 = some ⟨g2, 0, none⟩ := by
                  rcases hbo.2 with ⟨hv, h0⟩ | ⟨g2, cap2, cur2, hv, _⟩
                  · omega
                  · cases hv; exact ⟨g2, rfl⟩
                have hg2 : wi.heap.size ≤ g2 := hv2 g2 rfl
                have hcell0 := World.ownsRow.cellAt hbo j (by rw [Nat.mul_one]; exact hjl)
                have hbj : (bv bs)[j]? = some (Value.int .u8 (bs[j].toNat : Int)) := by rw [bv, List.getElem?_map, List.getElem?_eq_getElem (by omega)]; rfl
                rw [hbj] at hcell0
                have hfr0 := World.ownsRow.frozenAt hbo j
                obtain ⟨nb, hnb⟩ := xor_ff bs[j]
                have hst := (World.ownsRow.stored hbo j (.int .u8 (nb.toNat : Int))).1
                have j1 : (0 : Int) ≤ (j : Int) := by omega
                have j2 : (j : Int) < (p.length : Int) := by omega
                have hbb := bs[j].toNat_lt
                generalize bs[j].toNat = xb at *
                have HX := Lib.hid hx
                have HM1 := Lib.hid hm
                have HO1 := Lib.hid ho
                have HFR := Lib.hid hfr
                have HST1 := Lib.hid hst
                have HBL := Lib.hid hbl
                have hgW := hm.lt
                clear hx hm ho hfr hst hbl hb hbo hbj
                go_wp2
                go_roundw
                case rel =>
                  refine ⟨j + 1, by omega, by go_num, HX.out.setCell (by have := HX.out.size; show w.heap.size ≤ g2; omega) _, HM1.out.keep (only_set j _) (by simp; omega), HO1.out.keep (only_set j _) ?_, ⟨bs.set j nb, by rw [List.length_set]; exact HBL.out, ?_⟩, fun b hb => ?_⟩
                  · cases h : u4.ownBlock with
                    | none => exact .inl rfl
                    | some b => exact .inr (by have := hltA b h; simp; omega)
                  · unfold OwnB
                    rw [List.length_set, HBL.out, bv_set]
                    exact HST1.out
                  · rw [(only_set (w := wr) (g := g2) j _).block b (by have := hF b hb; have := HX.out.size; omega) (by have := hF b hb; simp; omega)]
                    exact HFR.out b hb
                case measure => simp [intOf]; omega
              · obtain rfl : j = p.length := by omega
                have hsrc3 := src_bytes (Ty.keep (t := .sl .u8) hfr (fun _ h => h) HYW.out)
                have HM3 := Lib.hid hm
                have HX3 := Lib.hid hx
                clear hb hm hx hfr hsrc
                go_wp2_with (first
                  | (at_builtin; refine wpList_app _ rfl (.tmp 44) (.tmp 45) _ _ rfl _ _ i0 _ 1 1 Try.underlying22 Try.underlying22 hi hz0 hz1 hz2 rfl (by decide) _ _ _ rfl ho _ _ _ (bv p) rfl (by simp) hsrc3 (bv_one _) (by unfold maxLen; omega) (by omega) ?_; intro v4 w4 ho4 hm4; obtain ⟨A4, c4, hv4⟩ := ho4.form; subst hv4)
                  | fail)
                have hm4 : Moved wr w4 u4 (.slice A4 (P.length + p.length) c4) := hm4
                have ho4 : OwnB w4 (.slice A4 (P.length + p.length) c4) (P ++ p) := OwnB.app ho4
                have hPQ : (P ++ p).length = P.length + p.length := List.length_append
                rw [← hPQ] at hm4 ho4 ⊢
                generalize hQ : P ++ p = Q at *
                have HQ := Lib.hid hQ
                have hql : Q.length ≤ 62000 := by omega
                have hqk : Q.length ≤ (k + 1) * 2000 := by omega
                have hmm4 : MillAt w4 w.heap.size Q := HM3.out.keep hm4.grown (fun e => by have := hap _ e.symm; omega)
                have hx4 : Ext w w4 := grown_then HX3.out hm4.grown (.inr (fun b e => by have := hap b e; omega))
                have hap4 : ∀ b, (Value.slice A4 Q.length c4).ownBlock = some b → w.heap.size < b := by
                  intro b hb
                  rcases hm4.at_ with e | h
                  · exact hap b (by rw [← e]; exact hb)
                  · have := h b hb; have := HM3.out.lt; omega
                obtain ⟨A5, c5, xs5, hv5, hlc5, hc5, _⟩ := ho4.holds
                cases hv5
                unfold maxLen at hc5
                have hS0 := sum_any hmm4 (by omega)
                have hO0 := of_one ho4 (by omega)
                have hP0 := of_two (holds_take ho4.holds (n := Q.length / 2) (by omega)) (holds_drop ho4.holds (n := Q.length / 2) (by omega)) ho4.lt (by rw [List.take_append_drop]; omega)
                rw [List.take_append_drop] at hP0
                have hD : (sha Q).length = 32 := sha_length _
                generalize sha Q = D at hS0 hO0 hP0 hD
                obtain ⟨hq1, hq2⟩ := ne_self hgt Try.underlying25 D hD
                generalize bv D = DV at hS0 hO0 hP0 hq1 hq2
                have hS : ∀ W, Ext w4 W → Calls Try.prog 15 #[.pointer (some ⟨w.heap.size, 0, none⟩)] W fun e W' => e = .returned (.agg DV.toArray) ∧ Ext W W' ∧ Ext w4 W' := fun W hW => (hS0 W hW).mono fun e W' ⟨h1, h2⟩ => ⟨h1, h2, hW.trans h2⟩
                have hO : ∀ (G : Nat) (W W' : World), Ext (W.alloc (.cells #[.slice A4 Q.length c4] 22)) W' → W.heap.size = G → Ext w4 W → Calls Try.prog 10 #[.slice (some ⟨G, 0, none⟩) 1 1] W' fun e W'' => e = .returned (.agg DV.toArray) ∧ Ext w4 W'' :=
                  fun G W W' h3 h2 h1 => (hO0 G W W' h1 h2 h3).mono fun e W'' ⟨h4, h5⟩ => ⟨h4, ((h1.alloc _).trans h3).trans h5⟩
                have hP2 : ∀ (G : Nat) (W W' : World), Ext (W.alloc (.cells #[.slice A4 (Q.length / 2) c4, .slice (if c4 = Q.length / 2 then A4 else A4.map (·.add (Q.length / 2))) (Q.length - Q.length / 2) (c4 - Q.length / 2)] 22)) W' → W.heap.size = G → Ext w4 W → Calls Try.prog 10 #[.slice (some ⟨G, 0, none⟩) 2 2] W' fun e W'' => e = .returned (.agg DV.toArray) ∧ Ext w4 W'' :=
                  fun G W W' h3 h2 h1 => (hP0 G W W' h1 h2 h3).mono fun e W'' ⟨h4, h5⟩ => ⟨h4, ((h1.alloc _).trans h3).trans h5⟩
                have hd0 : Ext w4 w4.drew := (Ext.refl w4).drew
                have HS := Lib.hid hS
                have HMM4 := Lib.hid hmm4
                have HO4 := Lib.hid ho4
                have b1 : (0 : Int) ≤ (Q.length : Int) / 2 := by omega
                have b2 : (Q.length : Int) / 2 ≤ (c4 : Int) := by omega
                have b3 : (Q.length : Int) / 2 ≤ (Q.length : Int) := by omega
                have bt : ((Q.length : Int) / 2).toNat = Q.length / 2 := by omega
                have bw : IntKind.i64.wrap ((Q.length : Int) / 2) = (Q.length : Int) / 2 := by rw [IntKind.wrap_i64]; omega
                have btd : (Q.length : Int).tdiv 2 = (Q.length : Int) / 2 := Int.tdiv_eq_ediv_of_nonneg (by omega)
                clear hS hS0 hO0 hP0 hmm4 ho4 hm4 hQ hPQ
                by_cases hch : c4 = Q.length / 2
                · obtain rfl : Q = [] := List.eq_nil_of_length_eq_zero (by omega)
                  obtain rfl : c4 = 0 := by simpa using hch
                  simp only [List.length_nil, Nat.zero_div, Nat.sub_zero, Nat.sub_self, if_true] at hO hP2 ⊢
                  have HO3 := Lib.hid hO
                  have HP2 := Lib.hid hP2
                  clear hO hP2 hch bt btd bw b1 b2 b3
                  go_region_held_law (fun _ => True) (trivial) (first
                    | (go_at_call 15; refine (HS.out _ (by first | assumption | exact Ext.alloc (by assumption) _)).mono ?_; rintro e W1 ⟨rfl, hW1, hW2⟩)
                    | (go_at_call 10; (with_reducible refine (HO3.out _ _ _ (Ext.refl _) rfl (by assumption)).mono ?_); rintro e W1 ⟨rfl, hW2⟩)
                    | (go_at_call 10; (with_reducible refine (HO3.out _ _ _ (by assumption) rfl (by assumption)).mono ?_); rintro e W1 ⟨rfl, hW2⟩)
                    | (go_at_call 10; (with_reducible refine (HO3.out _ w4 _ ((Ext.refl _).drew.trans (by assumption)) rfl (Ext.refl _)).mono ?_); rintro e W1 ⟨rfl, hW2⟩)
                    | (go_at_call 10; (with_reducible refine (HP2.out _ _ _ (Ext.refl _) rfl (by assumption)).mono ?_); rintro e W1 ⟨rfl, hW2⟩)
                    | (go_at_call 10; (with_reducible refine (HP2.out _ _ _ (by assumption) rfl (by assumption)).mono ?_); rintro e W1 ⟨rfl, hW2⟩)
                    | (go_at_call 10; (with_reducible refine (HP2.out _ w4 _ ((Ext.refl _).drew.trans (by assumption)) rfl (Ext.refl _)).mono ?_); rintro e W1 ⟨rfl, hW2⟩)
                    )
                  all_goals
                    go_wp2
                    go_roundw
                    case rel => exact ⟨k + 1, by omega, by omega, by go_num, hx4.trans hW2, by rw [HST.out]; exact HMM4.out.keep hW2 (by simp), by rw [HST.out]; exact HO4.out.ext hW2, hap4, by rw [HST.out]; first | exact hqk | simp⟩
                    case measure => simp [intOf]; omega
                · rw [if_neg hch] at hP2
                  have hc0 : ¬ c4 = 0 := by omega
                  have HO3 := Lib.hid hO
                  have HP2 := Lib.hid hP2
                  clear hO hP2
                  go_region_held_law (fun _ => True) (trivial) (first
                    | (go_at_call 15; refine (HS.out _ (by first | assumption | exact Ext.alloc (by assumption) _)).mono ?_; rintro e W1 ⟨rfl, hW1, hW2⟩)
                    | (go_at_call 10; (with_reducible refine (HO3.out _ _ _ (Ext.refl _) rfl (by assumption)).mono ?_); rintro e W1 ⟨rfl, hW2⟩)
                    | (go_at_call 10; (with_reducible refine (HO3.out _ _ _ (by assumption) rfl (by assumption)).mono ?_); rintro e W1 ⟨rfl, hW2⟩)
                    | (go_at_call 10; (with_reducible refine (HO3.out _ w4 _ ((Ext.refl _).drew.trans (by assumption)) rfl (Ext.refl _)).mono ?_); rintro e W1 ⟨rfl, hW2⟩)
                    | (go_at_call 10; (with_reducible refine (HP2.out _ _ _ (Ext.refl _) rfl (by assumption)).mono ?_); rintro e W1 ⟨rfl, hW2⟩)
                    | (go_at_call 10; (with_reducible refine (HP2.out _ _ _ (by assumption) rfl (by assumption)).mono ?_); rintro e W1 ⟨rfl, hW2⟩)
                    | (go_at_call 10; (with_reducible refine (HP2.out _ w4 _ ((Ext.refl _).drew.trans (by assumption)) rfl (Ext.refl _)).mono ?_); rintro e W1 ⟨rfl, hW2⟩)
                    )
                  all_goals
                    go_wp2
                    go_roundw
                    case rel => exact ⟨k + 1, by omega, by omega, by go_num, hx4.trans hW2, by rw [HST.out]; exact HMM4.out.keep hW2 (by simp), by rw [HST.out]; exact HO4.out.ext hW2, hap4, by rw [HST.out]; first | exact hqk | simp⟩
                    case measure => simp [intOf]; omega
      · obtain rfl : k = ps.length := by omega
        go_wp2_with fail
        go_meet
        exact hx
  case rest =>
    go_wp2_with fail
    refine (Write_nil _ _).mono ?_
    rintro e w3 ⟨rfl, rfl⟩
    go_wp2_with fail
    refine (awake_true _).mono ?_
    rintro e w4 ⟨rfl, hx4⟩
    go_wp2_with fail
    refine (Sum_nil _).mono ?_
    rintro e w5 ⟨rfl, hx5⟩
    go_wp2_with (first
      | (refine wpList_build (.inr rfl) 25 _ rfl (.agg (bv (List.replicate 32 0)).toArray) (by kernel_rfl) ?_)
      | (refine wpList_eqD _ (.inr rfl) 25 _ (.tmp 78) (.tmp 79) rfl 5 32 Try.underlying25 Try.underlying5 hu8 hgt (List.replicate 32 0) (List.replicate 32 0) rfl rfl rfl rfl ?_)
      | fail)
    refine (of_none _).mono ?_
    rintro e w6 ⟨rfl, hx6⟩
    have hsl : (sha []).length = 32 := sha_length _
    have hO := of_two (w := w6.alloc (.cells #[] 5)) (v1 := .slice none 0 0) (v2 := .slice (some ⟨w6.heap.size, 0, none⟩) 0 0) (p1 := []) (p2 := []) (F := fun b => b = w6.heap.size) ⟨none, 0, [], rfl, by simp, by simp [maxLen], fun _ => rfl, fun h => absurd rfl h, rfl⟩
      ⟨_, 0, [], rfl, by simp, by simp [maxLen], by simp, fun h => absurd rfl h, rfl⟩ (by rintro b rfl; simp) (by simp)
    rw [List.append_nil] at hO
    generalize sha [] = D0 at hsl hO ⊢
    have HO := Lib.hid hO
    clear hO
    go_wp2_with fail
    refine (HO.out (w6.heap.size + 1) (w6.alloc (.cells #[] 5)) _ (Ext.refl _) (by simp) (Ext.refl _)).mono ?_
    rintro e w7 ⟨rfl, hx7⟩
    go_wp2_with (first
      | (refine wpList_eqD _ (.inr rfl) 25 _ (.tmp 83) (.tmp 86) rfl 5 32 Try.underlying25 Try.underlying5 hu8 hgt D0 D0 rfl rfl hsl hsl ?_)
      | fail)
    go_ret
    exact ⟨rfl, Ext.trans hcut (((Ext.refl _).alloc _).alloc _ |>.trans (hx4.trans (hx5.trans (hx6.trans ((((Ext.refl _).alloc _).alloc _).trans hx7)))))⟩
end Go.Proofs.Ytklljkfnlakdaaa

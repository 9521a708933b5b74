/- OctetLays: for every input the law returns true. -/
import Derived.Test.YtihbalobgalpmaaLaw1
import Derived.RegionTactic
import Derived.Deep.RegionHeld3
set_option linter.unusedVariables false
set_option linter.unusedSimpArgs false
set_option linter.unnecessarySimpa false
namespace Go.Proofs.Ytihbalobgalpmaa
open Go.RowKit

theorem fits_len {l : List Item.Data} (h : fitsB l = true) : l.length ≤ 40 ∧ ∀ x ∈ l, x.2.2.2.1.length ≤ 4096 := by
  unfold fitsB at h
  rw [Bool.and_eq_true, List.all_eq_true] at h
  exact ⟨by simpa using h.2, fun x hx => by have := h.1 x hx; unfold bigItem at this; simpa using this⟩
theorem layB_len {d : Item.Data} (h : d.2.2.2.1.length ≤ 4096) (h32 : d.2.2.1.length = 32) : (layB d).length ≤ 4100 := by
  unfold layB
  split
  · simp
  split
  · simp [be_length]
  split
  · simp [be_length]
  split
  · omega
  split
  · simp [be_length, blob]; omega
  · simp

set_option maxHeartbeats 1000000 in
theorem lays_walk (vl vn : Value) (l : List Item.Data) (ns : List Nat) (w : World) (F : Fp) (hl : (Ty.sl Item).holds w F [vl] l) (hn : (Ty.sl (.nat .u64)).holds w F [vn] ns) (hF : ∀ b, F b → b < w.heap.size) (hr : ns.length * 8 ≤ 140737488351232) :
    Calls Try.prog 3 #[vl, vn] w fun e w' => e = .returned (.bool true) ∧ Ext w w' := by
  have hl0 := hl
  have hn0 := hn
  obtain ⟨A, c, xs, hv, hlc, hc, _, hcell, hall⟩ := hl
  cases hv
  obtain ⟨An, cn, xn, hvn, hlcn, hcn, _, hcelln, halln⟩ := hn
  cases hvn
  unfold maxLen at hc hcn
  by_cases hfit : fitsB l = true
  · have hfl := fits_len hfit
    go_enter Try.func3, Try.ntmps3
    go_wp2_with fail
    refine (fits_any _ l w F hl0 hF).mono ?_
    rintro e w1 ⟨rfl, hx1⟩
    rw [hfit]
    have HFL := Lib.hid hfl
    clear hfit hfl
    go_wp2
    go_loopw [5, 6, 18] (fun vo vw i wr => ∃ k : Nat, k ≤ l.length ∧ i = .int .i64 k ∧ OwnB wr vo ((l.take k).flatMap layB) ∧ OwnB wr vw ((l.take k).flatMap layB) ∧ Fresh w wr vo ∧ Fresh w wr vw ∧ Apart vo vw ∧ ((l.take k).flatMap layB).length ≤ k * 4100) (fun _ _ i _ => l.length - (intOf i).toNat)
    case atStart => exact ⟨0, by omega, rfl, Own.nil _ _ _, Own.nil _ _ _, Moved.post (Moved.refl _ _) hx1, Moved.post (Moved.refl _ _) hx1, Apart.nil _, by simp⟩
    case round =>
      obtain ⟨k, hk, rfl, ho, hw, hfo, hfw, hap, hlen⟩ := hrel
      by_cases hlt : k < l.length
      · obtain ⟨ad, rfl, hf, hcells⟩ := hcell (by rintro rfl; simp at hlt)
        have hx := AllH.elem (t := Item) hall hlt
        have hcx : Cells wr (ad.add (k * 36)) ((xs.drop (k * 36)).take 36) := ((hcells.keep (hfo.ext.same hF _ hf)).drop _).take _
        have hx : Item.holds w F ((xs.drop (k * 36)).take 36) l[k] := hx
        generalize hcs : (xs.drop (k * 36)).take 36 = cs at hx hcx
        clear hcs
        obtain ⟨hlen36, _, _, _, h32, _⟩ := item_cells hx
        have hone := Ty.one _ hx
        have hp := HFL.out.2 l[k] (List.getElem_mem hlt)
        have hlb := layB_len hp h32
        have hl40 := HFL.out.1
        have H36 := Lib.hid hlen36
        clear hlen36 h32
        have hFo := hfo.farF hF
        have hFw := hfw.farF hF
        have hxr := hfo.ext.holds hF hx
        have hblk : Cells (wr.alloc (.cells cs.toArray 31)) ⟨wr.heap.size, 0, none⟩ cs := by have := Cells.of_block (heap_alloc_new wr (.cells cs.toArray 31)); simpa using this
        go_wp2_with (first
          | (refine wpList_load_agg _ rfl 31 (.tmp 20) rfl _ rfl cs _ Try.underlying31 rfl (sizeItem H36.out) hcx ?_)
          | (refine wpList_alloc _ rfl 31 rfl _ zeroItem ?_)
          | (refine wpList_store_new _ rfl 31 (.tmp 8) (.tmp 21) rfl rfl _ cs _ rfl (sizeItem H36.out) (by rw [H36.out]; rfl) hone ?_)
          | (refine wpList_load_agg _ rfl 31 (.tmp 8) rfl _ rfl cs _ Try.underlying31 rfl (sizeItem H36.out) hblk ?_)
          | fail)
        refine (lay_any _ _ cs l[k] _ F (ho.ext ((Ext.refl _).alloc _)) (((Ext.refl _).alloc _).holds (fun b hb => (hFo b hb).1) hxr) (fun b hb => ⟨by have := (hFo b hb).1; simp; omega, (hFo b hb).2⟩) (by omega) hp).mono ?_
        rintro e w2 ⟨v2, rfl, ho2, hm2⟩
        have hmo : Moved wr w2 _ v2 := Moved.pre ((Ext.refl _).alloc _) hm2
        have hblk2 : Cells w2 ⟨wr.heap.size, 0, none⟩ cs := hblk.keep (hm2.grown.block _ (by simp) (fun e => by have := ho.lt _ e.symm; simp at this))
        have hx2 := hmo.holds hFo hxr
        have hw2 := hw.moved hmo hap
        have hap2 := hap.moved hmo (hw.lt)
        have hfo2 := hfo.trans hmo
        have hfw2 := hfw.keepF hfo2.ext
        have hFw2 := hfw2.farF hF
        clear hblk
        go_wp2_with (first
          | (refine wpList_load_agg _ rfl 31 (.tmp 8) rfl _ rfl cs _ Try.underlying31 rfl (sizeItem H36.out) hblk2 ?_)
          | fail)
        refine (laid_any _ _ cs l[k] _ F hw2 hx2 hFw2 (by omega) hp).mono ?_
        rintro e w3 ⟨v3, rfl, ho3, hm3⟩
        have ho4 := ho2.moved hm3 hap2.symm
        have hap4 := (hap2.symm.moved hm3 ho2.lt).symm
        have hfw4 := hfw2.trans hm3
        have hfo4 := hfo2.keepF hfw4.ext
        go_wp2
        go_roundw
        case rel => exact ⟨k + 1, by omega, by go_num, by rw [flat_step _ _ _ hlt]; exact ho4, by rw [flat_step _ _ _ hlt]; exact ho3, hfo4, hfw4, hap4, by rw [flat_step _ _ _ hlt, List.length_append]; omega⟩
        case measure => simp [intOf]; omega
      · obtain rfl : k = l.length := by omega
        rw [List.take_length] at ho hw hlen
        have hl40 := HFL.out.1
        go_wp2
        obtain ⟨wo, rfl⟩ : ∃ wo : World, wo = wr := ⟨_, rfl⟩
        go_loopw [9, 31] (fun vp i wr => ∃ k : Nat, k ≤ ns.length ∧ i = .int .i64 k ∧ OwnB wr vp ((ns.take k).flatMap (be 8)) ∧ Fresh wo wr vp) (fun _ i _ => ns.length - (intOf i).toNat)
        case atStart => exact ⟨0, by omega, rfl, Own.nil _ _ _, Moved.refl _ _⟩
        case round =>
          obtain ⟨k, hk, rfl, hp, hfp⟩ := hrel
          by_cases hlt : k < ns.length
          · obtain ⟨ad, rfl, hf, hcells⟩ := hcelln (by rintro rfl; simp at hlt)
            obtain ⟨hx, hwf⟩ := AllH.nat_at halln hlt
            have hcx := (hcells.keep (Ext.same (hfo.ext.trans hfp.ext) hF _ hf)) k _ hx
            have hbd := bounds_u64 hwf
            have hll : ((ns.take k).flatMap (be 8)).length = 8 * k := by rw [be_flat]; simp; omega
            clear hx
            go_wp2_with fail
            refine (Out_Eight _ _ _ [ns[k]] _ (fun b => b = wr.heap.size) (hp.ext ((Ext.refl _).alloc _)) (sl_made rfl rfl rfl (by simp [maxLen]) (one_nat hwf)) (hp.new _) (by simp only [List.length_cons, List.length_nil]; omega)).mono ?_
            rintro e w2 ⟨v2, rfl, ho2, hm2⟩
            have hm3 := hfp.trans (Moved.pre ((Ext.refl _).alloc _) hm2)
            go_wp2
            go_roundw
            case rel => exact ⟨k + 1, by omega, by go_num, by rw [flat_step _ _ _ hlt]; simpa using ho2, hm3⟩
            case measure => simp [intOf]; omega
          · obtain rfl : k = ns.length := by omega
            rw [List.take_length] at hp
            have ho := ho.ext hfp.ext
            have hw := hw.ext hfp.ext
            have hnl : (ns.flatMap (be 8)).length = 8 * ns.length := be_flat 8 ns
            generalize hX : l.flatMap layB = X at ho hw hlen
            generalize hY : ns.flatMap (be 8) = Y at hp hnl
            have HY := Lib.hid hY
            have HNL := Lib.hid hnl
            clear hX hY hnl
            obtain ⟨A5, c5, rfl⟩ := ho.form
            obtain ⟨A6, c6, rfl⟩ := hw.form
            obtain ⟨A9, c9, rfl⟩ := hp.form
            go_wp2
            have hS1 : ∀ w', Ext wr w' → (convert 27 9 (.slice A5 X.length c5)).run Try.prog w' = .ok (.string (strOf X)) w' := fun w' hx => run_str w' _ _ _ Try.underlying27 Try.underlying5 Try.underlying9 _ _ _ (ho.ext hx).src
            have hS2 : ∀ w', Ext wr w' → (convert 26 9 (.slice A6 X.length c6)).run Try.prog w' = .ok (.string (strOf X)) w' := fun w' hx => run_str w' _ _ _ Try.underlying26 Try.underlying5 Try.underlying9 _ _ _ (hw.ext hx).src
            have hS3 : ∀ w', Ext wr w' → (convert 27 9 (.slice A9 Y.length c9)).run Try.prog w' = .ok (.string (strOf Y)) w' := fun w' hx => run_str w' _ _ _ Try.underlying27 Try.underlying5 Try.underlying9 _ _ _ (hp.ext hx).src
            have hal : ∀ w' o, Ext wr w' → Ext wr (w'.alloc o) := fun w' o h => Ext.alloc h o
            have hc11 : ∀ w2, Ext wr w2 → Calls Try.prog 11 #[.slice (some ⟨w2.heap.size, 0, none⟩) 0 0, .slice An ns.length cn] (w2.alloc (.cells #[] 5)) (fun e w4 => ∃ A4 c4, e = .returned (.slice A4 Y.length c4) ∧ Ext wr w4 ∧
                (convert 27 9 (.slice A4 Y.length c4)).run Try.prog w4 = .ok (.string (strOf Y)) w4) := by
              intro w2 hx3
              have hs1 := hfo.ext.size
              have hs2 := hfp.ext.size
              have hs3 := hx3.size
              refine (Out_Eight _ _ [] ns _ F (own_empty rfl) (Ext.holds (Ext.alloc ((hfo.ext.trans hfp.ext).trans hx3) _) hF hn0) (fun b hb => ⟨by have := hF b hb; simp; omega, fun e => ?_⟩) (by simp only [List.length_nil]; omega)).mono ?_
              · simp [Value.ownBlock] at e; subst e; have := hF _ hb; omega
              · rintro e w4 ⟨v4, rfl, ho4, hm4⟩
                rw [List.nil_append, HY.out] at ho4
                obtain ⟨A4, c4, rfl⟩ := ho4.form
                exact ⟨A4, c4, rfl, hx3.trans (Fresh.ext ((fresh_empty _ _).trans hm4)), run_str w4 _ _ _ Try.underlying27 Try.underlying5 Try.underlying9 _ _ _ ho4.src⟩
            go_region_with
              (first | (go_at_call 8; refine (awake_true _).mono ?_; rintro e w2 ⟨rfl, hx2⟩; have hx3 : Ext wr w2 := (Ext.refl wr).drew.trans hx2) | (go_at_call 11; refine (hc11 _ (by assumption)).mono ?_; rintro e w4 ⟨A4, c4, rfl, hx4, hs4⟩))
            all_goals
              go_wp2
              go_ret
              exact ⟨rfl, Ext.trans (Ext.trans hfo.ext hfp.ext) hx4⟩
  · have hfit' : fitsB l = false := by simpa using hfit
    go_enter Try.func3, Try.ntmps3
    go_wp2_with fail
    refine (fits_any _ l w F hl0 hF).mono ?_
    rintro e w1 ⟨rfl, hx1⟩
    rw [hfit']
    clear hfit hfit'
    go_wp2_with fail
    refine (awake_true _).mono ?_
    rintro e w2 ⟨rfl, hx2⟩
    go_wp2
    go_ret
    exact ⟨rfl, Ext.trans hx1 hx2⟩
end Go.Proofs.Ytihbalobgalpmaa

/- Walks and plain laws, put together in build order. Conditions: what each of them names. -/
import Derived.Maps.OwnSet
import Derived.DeepKeys4
import Derived.Test.YtfoomnibfibfnaaW9c8c70e5d3
set_option linter.unusedVariables false
set_option linter.unusedSimpArgs false
set_option linter.unnecessarySimpa false
namespace Go.Proofs.Ytfoomnibfibfnaa
section
open Go.RowKit

def opS (S : List UInt8) (k : Nat) : List UInt8 := (S.drop (k * 16)).take 16
def otS (S : List UInt8) (k : Nat) : List UInt8 := (S.drop (512 + k * 16)).take 16
/-- What is summed for a signature: the pieces, the last text. -/
def piecesT (S : List UInt8) (n : Nat) : List (List UInt8) := (List.range n).map fun k => textM 5 [opS S k]
def textsM (S d : List UInt8) : List (List UInt8) := piecesT S 32 ++ [textM 2 [piecesM (rowS S d) 32]]
theorem piecesT_succ (S : List UInt8) (n : Nat) : piecesT S (n + 1) = piecesT S n ++ [textM 5 [opS S n]] := by simp [piecesT, List.range_succ]
theorem piecesT_length (S : List UInt8) (n : Nat) : (piecesT S n).length = n := by simp [piecesT]
theorem sl_info : (Try.prog.info? 55).map (fun i => (i.zero, i.size, i.bytes)) = some (some (.slice none 0 0), 1, 24) := by kernel_rfl
set_option maxRecDepth 100000 in
set_option maxHeartbeats 8000000 in
theorem Texts (S : List UInt8) (hS : S.length = 1024) (d : List UInt8) (hd : d.length = 32) (w : World) :
    Calls Try.prog 37 #[.agg tabsC.toArray, .agg (bv S).toArray, .agg (bv d).toArray] w fun e w' => ∃ v, e = .returned v ∧ Ext w w' ∧ LAt w' w.heap.size v (textsM S d) (.slice none 0 0) := by
  obtain ⟨Z, hz, hzl⟩ : ∃ Z : List Value, (Try.prog.info? 35).bind (fun i => i.zero.map (·.cells)) = some Z.toArray ∧ Z.length = 16 := ⟨_, rpiece_zero, by simp⟩
  have HZL := Lib.hid hzl
  obtain ⟨i0, hi, hz0, hz1, hz2⟩ := info_parts u8_info
  obtain ⟨iL, hiL, hy0, hy1, hy2⟩ := info_parts sl_info
  have HS := Lib.hid hS
  have HD := Lib.hid hd
  go_enter Try.func37, Try.ntmps37
  go_wp2_with fail
  have h3 : Blk (((w.alloc (.cells tabsC.toArray 25)).alloc (.cells (bv S).toArray 38)).alloc (.cells (bv d).toArray 22)) w.heap.size 25 tabsC := ((Blk.new _ _ _).keep ((Ext.refl _).alloc _) (by simp)).keep ((Ext.refl _).alloc _) (by simp)
  have h4 : Blk (((w.alloc (.cells tabsC.toArray 25)).alloc (.cells (bv S).toArray 38)).alloc (.cells (bv d).toArray 22)) (w.heap.size + 1) 38 (bv S) := (Blk.fresh (by simp) _ _).keep ((Ext.refl _).alloc _) (by simp)
  have h5 : Blk (((w.alloc (.cells tabsC.toArray 25)).alloc (.cells (bv S).toArray 38)).alloc (.cells (bv d).toArray 22)) (w.heap.size + 1 + 1) 22 (bv d) := Blk.fresh (by simp) _ _
  have hx0 : Ext w (((w.alloc (.cells tabsC.toArray 25)).alloc (.cells (bv S).toArray 38)).alloc (.cells (bv d).toArray 22)) := (((Ext.refl w).alloc _).alloc _).alloc _
  have HI := Lib.hid (And.intro h3 (And.intro h4 (And.intro h5 hx0)))
  have hpla : ∀ k, k ≤ 32 → (piecesM (rowS S d) k).length = k * 32 := by
    intro k
    induction k with
    | zero => intro _; rfl
    | succ k ih =>
      intro hk
      rw [piecesM_succ, List.length_append, ih (by omega)]
      unfold rowS
      rw [rowFrom_length (by rw [List.length_take, List.length_drop, hS]; omega)]
      omega
  have HPLA := Lib.hid hpla
  clear h3 h4 h5 hx0 hS hd hzl hpla
  generalize (((w.alloc (.cells tabsC.toArray 25)).alloc (.cells (bv S).toArray 38)).alloc (.cells (bv d).toArray 22)) = w1 at HI ⊢
  go_loopw [7, 8, 12] (fun ov av i wr => ∃ k : Nat, k ≤ 32 ∧ i = .int .i64 k ∧ Ext w wr ∧ Blk wr w.heap.size 25 tabsC ∧ Blk wr (w.heap.size + 1) 38 (bv S) ∧ Blk wr (w.heap.size + 1 + 1) 22 (bv d) ∧
    LAt wr (w.heap.size + 3) ov (piecesT S k) av ∧ OwnB wr av (piecesM (rowS S d) k) ∧ (∀ b, av.ownBlock = some b → w.heap.size + 3 ≤ b)) (fun _ _ i _ => 32 - (intOf i).toNat)
  case atStart => exact ⟨0, by omega, rfl, HI.out.2.2.2, HI.out.1, HI.out.2.1, HI.out.2.2.1, LAt.nil _ _ _, Own.nil _ _ _, by simp [Value.ownBlock]⟩
  case round =>
    clear HI
    obtain ⟨k, hk, rfl, hx, hb3, hb4, hb5, hla, hoa, hab⟩ := hrel
    have hpk := piecesT_length S k
    have hpl : (piecesM (rowS S d) k).length = k * 32 := HPLA.out k hk
    obtain ⟨AL, cL, hvl⟩ := hla.form
    obtain ⟨AA, cA, hva⟩ := hoa.form
    rw [hpk] at hvl
    rw [hpl] at hva
    subst hvl
    subst hva
    by_cases hlt : k < 32
    · have hcp : (opS S k).length = 16 := by unfold opS; have := HS.out; rw [List.length_take, List.length_drop]; omega
      have hct : (otS S k).length = 16 := by unfold otS; have := HS.out; rw [List.length_take, List.length_drop]; omega
      have hco : Cells wr ⟨w.heap.size + 1, k * 16, none⟩ (bv (opS S k)) := by
        have := (hb4.cells.drop (k * 16)).take 16
        unfold bv at this ⊢
        rw [← List.map_drop, ← List.map_take] at this
        by_cases h0 : k * 16 = 0 <;> simpa [Addr.add, opS, h0] using this
      have hcc : Cells wr ⟨w.heap.size + 1, 512 + k * 16, none⟩ (bv (otS S k)) := by
        have := (hb4.cells.drop (512 + k * 16)).take 16
        unfold bv at this ⊢
        rw [← List.map_drop, ← List.map_take] at this
        simpa [Addr.add, otS] using this
      have hrow : piecesM (rowS S d) (k + 1) = piecesM (rowS S d) k ++ rowFrom (bitM d k) (opS S k) (otS S k) := piecesM_succ _ _
      have hpt : piecesT S (k + 1) = piecesT S k ++ [textM 5 [opS S k]] := piecesT_succ S k
      have HROW := Lib.hid hrow
      have HPT := Lib.hid hpt
      clear hrow hpt
      generalize opS S k = op at hcp hco HROW HPT ⊢
      generalize otS S k = ot at hct hcc HROW ⊢
      have hxd : Ext wr wr.drew := (Ext.refl wr).drew
      have HSZ := Lib.hid (show w.heap.size + 3 ≤ wr.drew.heap.size from hb5.lt)
      have HAL := Lib.hid (show ∀ b, (Value.slice AA (k * 32) cA).ownBlock = some b → b < wr.drew.heap.size from fun b e => hoa.lt b e)
      have HLL0 := Lib.hid (show ∀ b, (Value.slice AL k cL).ownBlock = some b → b < wr.drew.heap.size by obtain ⟨xs, G, l1, _⟩ := hla; exact fun b e => (World.ownsRow.lt l1 b e).2)
      have HX := Lib.hid (hx.trans hxd)
      have HB3 := Lib.hid (hb3.keep hxd (by simp))
      have HB4 := Lib.hid (hb4.keep hxd (by simp))
      have HB5 := Lib.hid (hb5.keep hxd (by simp))
      have HLA := Lib.hid (hla.ext hxd)
      have HOA := Lib.hid (hoa.ext hxd)
      have HCO := Lib.hid (hco.keep (hxd.block (w.heap.size + 1) hb4.lt (by simp)))
      have HCT := Lib.hid (hcc.keep (hxd.block (w.heap.size + 1) hb4.lt (by simp)))
      have HAB := Lib.hid hab
      have HOP := Lib.hid hcp
      have HOT := Lib.hid hct
      clear hx hb3 hb4 hb5 hla hoa hco hcc hab hxd hcp hct
      go_wp2_with fail
      refine startM (KeepB fun g => g < wr.drew.heap.size) (by kernel_rfl) ?_
      (try simp only [Act.put, List.setIfInBounds_toArray, List.set_cons_succ, List.set_cons_zero])
      generalize wr.drew = w0 at *
      have HJ := Lib.hid (TN.start w0 35 Z)
      refine takeK 0 rfl (by kernel_rfl) (by kernel_rfl) (by kernel_rfl) rfl (fun _ _ _ _ h => h) rfl (fun K hK => ?_)
      refine quiet_agg 25 _ rfl _ rfl tabsC _ Try.underlying25 rfl (tabs_size rfl) (fun W' h => h.cells HB3.out.cells HB3.out.lt) ?_
      refine hK _ ?_
      simp only [Act.put, List.setIfInBounds_toArray, List.set_cons_succ, List.set_cons_zero]
      clear hK K
      refine takeK 1 rfl (by kernel_rfl) (by kernel_rfl) (by kernel_rfl) rfl (fun _ _ _ _ h => h) rfl (fun K hK => ?_)
      go_big_quiet_op
      first | refine hK _ ?_ | refine ⟨_, fun _ _ => rfl, hK _ ?_⟩
      clear hK K
      refine takeK 2 rfl (by kernel_rfl) (by kernel_rfl) (by kernel_rfl) rfl (fun _ _ _ _ h => h) rfl (fun K hK => ?_)
      go_big_quiet_op
      first | refine hK _ ?_ | refine ⟨_, fun _ _ => rfl, hK _ ?_⟩
      clear hK K
      refine takeK 3 rfl (by kernel_rfl) (by kernel_rfl) (by kernel_rfl) rfl (fun _ _ _ _ h => h) rfl (fun K hK => ?_)
      go_big_quiet_op
      first | refine hK _ ?_ | refine ⟨_, fun _ _ => rfl, hK _ ?_⟩
      clear hK K
      refine takeK 4 rfl (by kernel_rfl) (by kernel_rfl) (by kernel_rfl) rfl (fun _ _ _ _ h => h) rfl (fun K hK => ?_)
      refine quiet_agg 35 _ rfl _ rfl (bv op) _ Try.underlying35 rfl (rpiece_size (by rw [bv_length, HOP.out])) (fun W' h => h.cells HCO.out HB4.out.lt) ?_
      refine hK _ ?_
      simp only [Act.put, List.setIfInBounds_toArray, List.set_cons_succ, List.set_cons_zero]
      clear hK K
      refine takeK 6 rfl (by kernel_rfl) (by kernel_rfl) (by kernel_rfl) rfl (fun _ _ _ _ h => h) rfl (fun K hK => ?_)
      go_big_quiet_op
      first | refine hK _ ?_ | refine ⟨_, fun _ _ => rfl, hK _ ?_⟩
      clear hK K
      refine takeK 7 rfl (by kernel_rfl) (by kernel_rfl) (by kernel_rfl) rfl (fun _ _ _ _ h => h) rfl (fun K hK => ?_)
      go_big_quiet_op
      first | refine hK _ ?_ | refine ⟨_, fun _ _ => rfl, hK _ ?_⟩
      clear hK K
      refine takeK 8 rfl (by kernel_rfl) (by kernel_rfl) (by kernel_rfl) rfl (fun _ _ _ _ h => h) rfl (fun K hK => ?_)
      go_big_quiet_op
      first | refine hK _ ?_ | refine ⟨_, fun _ _ => rfl, hK _ ?_⟩
      clear hK K
      refine takeK 9 rfl (by kernel_rfl) (by kernel_rfl) (by kernel_rfl) rfl (fun _ _ _ _ h => h) rfl (fun K hK => ?_)
      refine quiet_agg 35 _ rfl _ rfl (bv ot) _ Try.underlying35 rfl (rpiece_size (by rw [bv_length, HOT.out])) (fun W' h => h.cells HCT.out HB4.out.lt) ?_
      refine hK _ ?_
      simp only [Act.put, List.setIfInBounds_toArray, List.set_cons_succ, List.set_cons_zero]
      clear hK K
      apply sharedN (fun v10 v11 W => TN w0 35 Z (some v10) (some v11) W)
      · intro hM
        refine triM 5 10 11 rfl rfl rfl (by kernel_rfl) rfl rfl rfl (fun K hK => ?_) (fun K hK => ?_) (fun K hK => ?_)
        · go_simp
          refine (RCover op HOP.out _).mono ?_
          rintro e W20 ⟨rfl, hx20⟩
          have hkb : KeepB (fun g => g < w0.heap.size) _ W20 := KeepB.of_ext (fun g hg => hg) HJ.out.ext hx20
          have hJ := HJ.out.step hx20
          have HJ := Lib.hid hJ
          clear hJ
          refine hK _ _ (hkb) ?_
          clear hK K
          refine bothM 10 11 rfl rfl (by kernel_rfl) rfl rfl (fun K hK => ?_) (fun K hK => ?_)
          · refine wp_tn_a HJ.out (fun g hg => hg) rfl hz ?_
            intro v10 W10 hJ hkb
            have HJ := Lib.hid hJ
            clear hJ
            refine hK _ _ (hkb) ?_
            clear hK K
            (try simp only [Act.put, List.setIfInBounds_toArray, List.set_cons_succ, List.set_cons_zero])
            refine stepM 11 rfl (by kernel_rfl) rfl (fun K hK => ?_)
            refine wp_tn_b HJ.out (fun g hg => hg) rfl hz ?_
            intro v11 W11 hJ hkb
            have HJ := Lib.hid hJ
            clear hJ
            refine hK _ _ (hkb) ?_
            clear hK K
            (try simp only [Act.put, List.setIfInBounds_toArray, List.set_cons_succ, List.set_cons_zero])
            exact hM v10 v11 _ HJ.out
          · refine wp_tn_b HJ.out (fun g hg => hg) rfl hz ?_
            intro v11 W11 hJ hkb
            have HJ := Lib.hid hJ
            clear hJ
            refine hK _ _ (hkb) ?_
            clear hK K
            (try simp only [Act.put, List.setIfInBounds_toArray, List.set_cons_succ, List.set_cons_zero])
            refine stepM 10 rfl (by kernel_rfl) rfl (fun K hK => ?_)
            refine wp_tn_a HJ.out (fun g hg => hg) rfl hz ?_
            intro v10 W10 hJ hkb
            have HJ := Lib.hid hJ
            clear hJ
            refine hK _ _ (hkb) ?_
            clear hK K
            (try simp only [Act.put, List.setIfInBounds_toArray, List.set_cons_succ, List.set_cons_zero])
            refine relist (by kernel_rfl) (hM v10 v11 _ HJ.out)
        · refine wp_tn_a HJ.out (fun g hg => hg) rfl hz ?_
          intro v10 W10 hJ hkb
          have HJ := Lib.hid hJ
          clear hJ
          refine hK _ _ (hkb) ?_
          clear hK K
          (try simp only [Act.put, List.setIfInBounds_toArray, List.set_cons_succ, List.set_cons_zero])
          refine bothM 5 11 rfl rfl (by kernel_rfl) rfl rfl (fun K hK => ?_) (fun K hK => ?_)
          · go_simp
            refine (RCover op HOP.out _).mono ?_
            rintro e W20 ⟨rfl, hx20⟩
            have hkb : KeepB (fun g => g < w0.heap.size) _ W20 := KeepB.of_ext (fun g hg => hg) HJ.out.ext hx20
            have hJ := HJ.out.step hx20
            have HJ := Lib.hid hJ
            clear hJ
            refine hK _ _ (hkb) ?_
            clear hK K
            refine stepM 11 rfl (by kernel_rfl) rfl (fun K hK => ?_)
            refine wp_tn_b HJ.out (fun g hg => hg) rfl hz ?_
            intro v11 W11 hJ hkb
            have HJ := Lib.hid hJ
            clear hJ
            refine hK _ _ (hkb) ?_
            clear hK K
            (try simp only [Act.put, List.setIfInBounds_toArray, List.set_cons_succ, List.set_cons_zero])
            refine relist (by kernel_rfl) (hM v10 v11 _ HJ.out)
          · refine wp_tn_b HJ.out (fun g hg => hg) rfl hz ?_
            intro v11 W11 hJ hkb
            have HJ := Lib.hid hJ
            clear hJ
            refine hK _ _ (hkb) ?_
            clear hK K
            (try simp only [Act.put, List.setIfInBounds_toArray, List.set_cons_succ, List.set_cons_zero])
            refine stepM 5 rfl (by kernel_rfl) rfl (fun K hK => ?_)
            go_simp
            refine (RCover op HOP.out _).mono ?_
            rintro e W20 ⟨rfl, hx20⟩
            have hkb : KeepB (fun g => g < w0.heap.size) _ W20 := KeepB.of_ext (fun g hg => hg) HJ.out.ext hx20
            have hJ := HJ.out.step hx20
            have HJ := Lib.hid hJ
            clear hJ
            refine hK _ _ (hkb) ?_
            clear hK K
            refine relist (by kernel_rfl) (hM v10 v11 _ HJ.out)
        · refine wp_tn_b HJ.out (fun g hg => hg) rfl hz ?_
          intro v11 W11 hJ hkb
          have HJ := Lib.hid hJ
          clear hJ
          refine hK _ _ (hkb) ?_
          clear hK K
          (try simp only [Act.put, List.setIfInBounds_toArray, List.set_cons_succ, List.set_cons_zero])
          refine bothM 5 10 rfl rfl (by kernel_rfl) rfl rfl (fun K hK => ?_) (fun K hK => ?_)
          · go_simp
            refine (RCover op HOP.out _).mono ?_
            rintro e W20 ⟨rfl, hx20⟩
            have hkb : KeepB (fun g => g < w0.heap.size) _ W20 := KeepB.of_ext (fun g hg => hg) HJ.out.ext hx20
            have hJ := HJ.out.step hx20
            have HJ := Lib.hid hJ
            clear hJ
            refine hK _ _ (hkb) ?_
            clear hK K
            refine stepM 10 rfl (by kernel_rfl) rfl (fun K hK => ?_)
            refine wp_tn_a HJ.out (fun g hg => hg) rfl hz ?_
            intro v10 W10 hJ hkb
            have HJ := Lib.hid hJ
            clear hJ
            refine hK _ _ (hkb) ?_
            clear hK K
            (try simp only [Act.put, List.setIfInBounds_toArray, List.set_cons_succ, List.set_cons_zero])
            refine relist (by kernel_rfl) (hM v10 v11 _ HJ.out)
          · refine wp_tn_a HJ.out (fun g hg => hg) rfl hz ?_
            intro v10 W10 hJ hkb
            have HJ := Lib.hid hJ
            clear hJ
            refine hK _ _ (hkb) ?_
            clear hK K
            (try simp only [Act.put, List.setIfInBounds_toArray, List.set_cons_succ, List.set_cons_zero])
            refine stepM 5 rfl (by kernel_rfl) rfl (fun K hK => ?_)
            go_simp
            refine (RCover op HOP.out _).mono ?_
            rintro e W20 ⟨rfl, hx20⟩
            have hkb : KeepB (fun g => g < w0.heap.size) _ W20 := KeepB.of_ext (fun g hg => hg) HJ.out.ext hx20
            have hJ := HJ.out.step hx20
            have HJ := Lib.hid hJ
            clear hJ
            refine hK _ _ (hkb) ?_
            clear hK K
            refine relist (by kernel_rfl) (hM v10 v11 _ HJ.out)
      intro v10 v11 W hJ
      have HJ := Lib.hid hJ
      clear hJ
      obtain ⟨g10, rfl, hb10, hg10⟩ := HJ.out.pa _ rfl
      obtain ⟨g11, rfl, hb11, hg11⟩ := HJ.out.pb _ rfl
      have hne : g10 ≠ g11 := fun e => HJ.out.ne _ _ rfl rfl (by rw [e])
      refine stepM 12 rfl (by kernel_rfl) rfl (fun K hK => ?_)
      refine wp_store_row 35 (.tmp 10) (.tmp 20) rfl g10 rfl Z (bv (coverM op)) _ rfl hb10 (rpiece_size (by rw [bv_length, coverM_length])) (by rw [bv_length, coverM_length, HZL.out]) (bv_one _) ?_
      refine hK _ _ (fun g hg => (setRow_only _).block g (by first | exact Nat.lt_of_lt_of_le hg HJ.out.ext.size | simpa [World.setRow] using Nat.lt_of_lt_of_le hg HJ.out.ext.size) (by have : g < w0.heap.size := hg; intro e; cases e; omega)) ?_
      clear hK K
      refine stepM 13 rfl (by kernel_rfl) rfl (fun K hK => ?_)
      refine wp_store_row 35 (.tmp 11) (.tmp 24) rfl g11 rfl Z (bv ot) _ rfl (hb11.keep (setRow_only _) (by simpa using Ne.symm hne)) (rpiece_size (by rw [bv_length, HOT.out])) (by rw [bv_length, HOT.out, HZL.out]) (bv_one _) ?_
      refine hK _ _ (fun g hg => (setRow_only _).block g (by first | exact Nat.lt_of_lt_of_le hg HJ.out.ext.size | simpa [World.setRow] using Nat.lt_of_lt_of_le hg HJ.out.ext.size) (by have : g < w0.heap.size := hg; intro e; cases e; omega)) ?_
      clear hK K
      refine doneM (by kernel_rfl) ?_ _
      (try simp only [Act.put, List.setIfInBounds_toArray, List.set_cons_succ, List.set_cons_zero])
      have hx6 : Ext w0 ((W.setRow g10 (bv (coverM op)).toArray).setRow g11 (bv ot).toArray) := setRow_grown (setRow_grown HJ.out.ext _ _ hg10) _ _ hg11
      have hc11 : Blk ((W.setRow g10 (bv (coverM op)).toArray).setRow g11 (bv ot).toArray) g11 35 (bv ot) := setRow_at (show (W.setRow g10 (bv (coverM op)).toArray).heap[g11]? = _ from hb11.keep (setRow_only _) (by simpa using Ne.symm hne))
      have hc10 : Blk ((W.setRow g10 (bv (coverM op)).toArray).setRow g11 (bv ot).toArray) g10 35 (bv (coverM op)) := Blk.keep (show Blk (W.setRow g10 (bv (coverM op)).toArray) g10 35 (bv (coverM op)) from setRow_at hb10) (setRow_only _) (by simpa using hne)
      have HC10 := Lib.hid hc10
      have HC11 := Lib.hid hc11
      have HX6 := Lib.hid hx6
      clear hc10 hc11 hx6 HJ hb10 hb11
      generalize (W.setRow g10 (bv (coverM op)).toArray).setRow g11 (bv ot).toArray = W1 at HC10 HC11 HX6 ⊢
      have hAG : ∀ b, (Value.slice AA (k * 32) cA).ownBlock = some b → b < g10 ∧ b < g11 := fun b e => by have := HAL.out b e; omega
      have HAG := Lib.hid hAG
      clear hAG
      go_wp2_with fail
      have hla1 := HLA.out.ext HX6.out
      have hoa1 := HOA.out.ext HX6.out
      have hpc : (Ty.sl .u8).holds W1 (fun b => b = w.heap.size + 1) [.slice (some ⟨w.heap.size + 1, k * 16, none⟩) 16 16] op := by
        have hcc : Cells W1 ⟨w.heap.size + 1, k * 16, none⟩ (bv op) := HCO.out.keep (HX6.out.block (w.heap.size + 1) HB4.out.lt (by simp))
        have hl := HOP.out
        exact ⟨_, 16, bv op, by rw [hl], by omega, by simp [maxLen], by simp, fun _ => ⟨_, rfl, rfl, hcc⟩, AllH.bytes.2 rfl⟩
      obtain ⟨F1, hp1, hp2⟩ := one_part (T := 55) hpc (by rintro b rfl; exact Nat.lt_of_lt_of_le HB4.out.lt HX6.out.size)
      refine (Ref_Text 5 _ [op] _ F1 hp1 hp2 (by have := HOP.out; simp [blob, be_length, this])).mono ?_
      rintro e w31 ⟨v31, rfl, ho31, hf31⟩
      obtain ⟨A31, c31, rfl⟩ := ho31.form
      have hx31 : Ext W1 w31 := ((Ext.refl W1).alloc _).trans (Fresh.ext hf31)
      have hsz1 := HX6.out.size
      have hnew : ∀ b, (Value.slice A31 (textM 5 [op]).length c31).ownBlock = some b → W1.heap.size ≤ b := fun b e => by have := Fresh.new hf31 b e; simp at this; omega
      have HLA1 := Lib.hid (hla1.ext hx31)
      have HOA1 := Lib.hid (hoa1.ext hx31)
      have HAL1 := Lib.hid hoa1.lt
      have HLL1 := Lib.hid (show ∀ b, (Value.slice AL k cL).ownBlock = some b → b < W1.heap.size by obtain ⟨xs, G, l1, _⟩ := hla1; exact fun b e => (World.ownsRow.lt l1 b e).2)
      have HO31 := Lib.hid ho31
      have HNEW := Lib.hid hnew
      have hx6' := HX6.out.trans hx31
      have HX7 := Lib.hid (HX.out.trans hx6')
      have HB3' := Lib.hid (HB3.out.keep hx6' (by simp))
      have HB4' := Lib.hid (HB4.out.keep hx6' (by simp))
      have HB5' := Lib.hid (HB5.out.keep hx6' (by simp))
      have HC10' := Lib.hid (HC10.out.keep hx31 (by simp))
      have HC11' := Lib.hid (HC11.out.keep hx31 (by simp))
      have HSZ7 := Lib.hid (show w.heap.size + 3 ≤ W1.heap.size ∧ W1.heap.size ≤ w31.heap.size from ⟨by have := HSZ.out; omega, hx31.size⟩)
      clear HLA HOA HX HB3 HB4 HB5 HC10 HC11 HCO HCT hla1 hoa1 hpc hp1 hp2 hx31 hx6' hnew ho31 hf31 hsz1
      obtain ⟨xs, G, l1, l2, l3, l4, l5⟩ := HLA1.out
      go_wp2_with (first
        | (at_builtin
           refine wpList_app1 _ rfl (.tmp 25) (.tmp 32) _ _ rfl 55 55 55 iL _ 1 24 Try.underlying79 Try.underlying79 hiL hy0 hy1 hy2 rfl (by decide) _ _ xs [.slice A31 (textM 5 [op]).length c31] rfl l1 rfl rfl (by simp [Value.oneCell']) (by unfold maxLen; omega) (by omega) ?_
           intro v33 w33 ho33 hm33
           have HLA2 : Hid (LAt w33 (w.heap.size + 3) v33 (piecesT S k ++ [textM 5 [op]]) (.slice AA (k * 32) cA)) := Lib.hid (LAt.snoc l2 l3 l4 l5 (fun b e => (Nat.lt_of_lt_of_le (HAL1.out b e) HSZ7.out.2)) (by have := HSZ7.out; omega) ho33 hm33 HO31.out.holds (fun b e => by
             have h1 := HNEW.out b e
             have h2 := HO31.out.lt b e
             have h3 := HSZ7.out
             exact ⟨by omega, h2, fun e2 => by have := HLL1.out b e2; omega, fun e2 => by have := HAL1.out b e2; omega⟩))
           have HB3n := Lib.hid (HB3'.out.keep hm33.grown (fun e => by have := l4 _ e.symm; omega))
           have HB4n := Lib.hid (HB4'.out.keep hm33.grown (fun e => by have := l4 _ e.symm; omega))
           have HB5n := Lib.hid (HB5'.out.keep hm33.grown (fun e => by have := l4 _ e.symm; omega))
           have HC10n := Lib.hid (HC10'.out.keep hm33.grown (fun e => by have := HLL0.out _ e.symm; omega))
           have HC11n := Lib.hid (HC11'.out.keep hm33.grown (fun e => by have := HLL0.out _ e.symm; omega))
           have hoan : OwnB w33 (.slice AA (k * 32) cA) (piecesM (rowS S d) k) := by
             refine HOA1.out.keep hm33.grown ?_
             cases e : (Value.slice AA (k * 32) cA).ownBlock with
             | none => exact .inl rfl
             | some b => exact .inr (fun e2 => l5 b e2.symm e)
           have HOAn := Lib.hid hoan
           have HXn := Lib.hid (show Ext w w33 from grown_then HX7.out hm33.grown (.inr (fun b e => by have := l4 b e; omega)))
           clear ho33 hm33 hoan HLA1 HOA1 HB3' HB4' HB5' HC10' HC11' HX7)
        | ((with_reducible refine wpDst 34 rfl ?_); refine wpList_load_agg _ rfl 22 _ rfl _ rfl (bv d) _ Try.underlying22 rfl (b32_size (by rw [bv_length, HD.out])) (by exact HB5n.out.cells) ?_)
        | fail)
      refine (RBit d HD.out k hlt _).mono ?_
      rintro e w36 ⟨rfl, hx36⟩
      have hx37 : Ext w33 w36.drew := hx36.trans (Ext.refl _).drew
      have HLA3 := Lib.hid (HLA2.out.ext hx37)
      have HOA3 := Lib.hid (HOAn.out.ext hx37)
      have HB3c := Lib.hid (HB3n.out.keep hx37 (by simp))
      have HB4c := Lib.hid (HB4n.out.keep hx37 (by simp))
      have HB5c := Lib.hid (HB5n.out.keep hx37 (by simp))
      have HC10c := Lib.hid (HC10n.out.keep hx37 (by simp))
      have HC11c := Lib.hid (HC11n.out.keep hx37 (by simp))
      have HXc := Lib.hid (HXn.out.trans hx37)
      clear HLA2 HOAn HB3n HB4n HB5n HC10n HC11n HXn hx36 hx37 l1 l2 l3 l4 l5
      have hbl := bitM_lt d k
      generalize bitM d k = bt at HROW hbl ⊢
      by_cases hb0 : bt = 0
      · subst hb0
        have hr0 : rowFrom 0 op ot = coverM op ++ ot := by simp [rowFrom]
        rw [hr0] at HROW
        have HLK : Hid ((coverM op).length = 16 ∧ ot.length = 16) := Lib.hid ⟨coverM_length _, HOT.out⟩
        go_wp2_with fail
        refine startM Any (by kernel_rfl) ?_
        (try simp only [Act.put, List.setIfInBounds_toArray, List.set_cons_succ, List.set_cons_zero])
        generalize w36.drew = w0 at HLA3 HOA3 HB3c HB4c HB5c HC10c HC11c HXc ⊢
        refine takeA 0 rfl (by kernel_rfl) (by kernel_rfl) (by kernel_rfl) rfl (fun _ _ _ _ h => h) rfl (fun K hK => ?_)
        go_big_quiet_op
        first | refine hK _ ?_ | refine ⟨_, fun _ _ => rfl, hK _ ?_⟩
        clear hK K
        refine takeA 1 rfl (by kernel_rfl) (by kernel_rfl) (by kernel_rfl) rfl (fun _ _ _ _ h => h) rfl (fun K hK => ?_)
        go_big_quiet_op
        first | refine hK _ ?_ | refine ⟨_, fun _ _ => rfl, hK _ ?_⟩
        clear hK K
        refine takeA 3 rfl (by kernel_rfl) (by kernel_rfl) (by kernel_rfl) rfl (fun _ _ _ _ h => h) rfl (fun K hK => ?_)
        go_big_quiet_op
        first | refine hK _ ?_ | refine ⟨_, fun _ _ => rfl, hK _ ?_⟩
        clear hK K
        refine stepM 2 rfl (by kernel_rfl) rfl (fun K hK => ?_)
        refine wp_app _ _ _ 55 55 rfl 5 5 i0 _ 1 1 Try.underlying55 Try.underlying55 hi hz0 hz1 hz2 rfl (by decide) _ ((piecesM (rowS S d) k).length) _ rfl HOA3.out _ 16 16 (bv (coverM op)) rfl (by rw [bv_length, coverM_length]) (fun _ => ⟨_, rfl, HC10c.out.cells⟩) (bv_one _) (by unfold maxLen; omega) (by omega) ?_
        intro v8 w8 ho8 hm8
        have HO8 := Lib.hid ho8
        have HM8 := Lib.hid hm8
        have HC8 := Lib.hid ((HC11c.out).keep hm8.grown (fun e => by have := HAG.out _ e.symm; omega))
        clear ho8 hm8
        refine hK _ _ (trivial) ?_
        clear hK K
        (try simp only [Act.put, List.setIfInBounds_toArray, List.set_cons_succ, List.set_cons_zero])
        refine stepM 4 rfl (by kernel_rfl) rfl (fun K hK => ?_)
        refine wp_app _ _ _ 55 55 rfl 5 5 i0 _ 1 1 Try.underlying55 Try.underlying55 hi hz0 hz1 hz2 rfl (by decide) _ ((piecesM (rowS S d) k).length + 16) _ rfl HO8.out _ 16 16 (bv ot) rfl (by rw [bv_length, HOT.out]) (fun _ => ⟨_, rfl, HC8.out.cells⟩) (bv_one _) (by unfold maxLen; omega) (by omega) ?_
        intro v9 w9 ho9 hm9
        have HO9 := Lib.hid ho9
        have HM9 := Lib.hid hm9
        clear ho9 hm9
        refine hK _ _ (trivial) ?_
        clear hK K
        (try simp only [Act.put, List.setIfInBounds_toArray, List.set_cons_succ, List.set_cons_zero])
        refine takeA 5 rfl (by kernel_rfl) (by kernel_rfl) (by kernel_rfl) rfl (fun _ _ _ _ h => h) rfl (fun K hK => ?_)
        go_big_quiet_op
        first | refine hK _ ?_ | refine ⟨_, fun _ _ => rfl, hK _ ?_⟩
        clear hK K
        refine doneM (by kernel_rfl) ?_ _
        have hm2 := HM8.out.trans HM9.out
        have hab9 : ∀ b, v9.ownBlock = some b → w.heap.size + 3 ≤ b := fun b e => by
          rcases hm2.at_ with e2 | hn
          · exact HAB.out b (e2.symm.trans e)
          · have := hn b e; have := HB5c.out.lt; omega
        have ho9 : OwnB w9 v9 (piecesM (rowS S d) (k + 1)) := by
          have hl1 := coverM_length op
          have hl2 := HOT.out
          rw [HROW.out]; unfold OwnB
          rw [bv_append, bv_append, List.length_append, List.length_append, hl1, hl2, ← List.append_assoc, ← Nat.add_assoc]; exact HO9.out
        have HO := Lib.hid ho9
        have HB9 := Lib.hid hab9
        have HM2 := Lib.hid hm2
        clear ho9 hab9 hm2
        (try simp only [Exit.inBlock, Exit.then])
        go_wp2_with fail
        go_roundw
        case rel => exact ⟨k + 1, by omega, by go_num, grown_then HXc.out HM2.out.grown (.inr (fun b e => by have := HAB.out b e; omega)), HB3c.out.keep HM2.out.grown (fun e => by have := HAB.out _ e.symm; omega), HB4c.out.keep HM2.out.grown (fun e => by have := HAB.out _ e.symm; omega), HB5c.out.keep HM2.out.grown (fun e => by have := HAB.out _ e.symm; omega), by rw [HPT.out]; exact HLA3.out.all HM2.out, HO.out, HB9.out⟩
        case measure => simp [intOf]; omega
      · obtain rfl : bt = 1 := by omega
        have hr0 : rowFrom 1 op ot = ot ++ coverM op := by simp [rowFrom]
        rw [hr0] at HROW
        go_wp2_with fail
        refine startM Any (by kernel_rfl) ?_
        (try simp only [Act.put, List.setIfInBounds_toArray, List.set_cons_succ, List.set_cons_zero])
        generalize w36.drew = w0 at HLA3 HOA3 HB3c HB4c HB5c HC10c HC11c HXc ⊢
        refine takeA 0 rfl (by kernel_rfl) (by kernel_rfl) (by kernel_rfl) rfl (fun _ _ _ _ h => h) rfl (fun K hK => ?_)
        go_big_quiet_op
        first | refine hK _ ?_ | refine ⟨_, fun _ _ => rfl, hK _ ?_⟩
        clear hK K
        refine takeA 1 rfl (by kernel_rfl) (by kernel_rfl) (by kernel_rfl) rfl (fun _ _ _ _ h => h) rfl (fun K hK => ?_)
        go_big_quiet_op
        first | refine hK _ ?_ | refine ⟨_, fun _ _ => rfl, hK _ ?_⟩
        clear hK K
        refine takeA 3 rfl (by kernel_rfl) (by kernel_rfl) (by kernel_rfl) rfl (fun _ _ _ _ h => h) rfl (fun K hK => ?_)
        go_big_quiet_op
        first | refine hK _ ?_ | refine ⟨_, fun _ _ => rfl, hK _ ?_⟩
        clear hK K
        refine stepM 2 rfl (by kernel_rfl) rfl (fun K hK => ?_)
        refine wp_app _ _ _ 55 55 rfl 5 5 i0 _ 1 1 Try.underlying55 Try.underlying55 hi hz0 hz1 hz2 rfl (by decide) _ ((piecesM (rowS S d) k).length) _ rfl HOA3.out _ 16 16 (bv ot) rfl (by rw [bv_length, HOT.out]) (fun _ => ⟨_, rfl, HC11c.out.cells⟩) (bv_one _) (by unfold maxLen; omega) (by omega) ?_
        intro v8 w8 ho8 hm8
        have HO8 := Lib.hid ho8
        have HM8 := Lib.hid hm8
        have HC8 := Lib.hid ((HC10c.out).keep hm8.grown (fun e => by have := HAG.out _ e.symm; omega))
        clear ho8 hm8
        refine hK _ _ (trivial) ?_
        clear hK K
        (try simp only [Act.put, List.setIfInBounds_toArray, List.set_cons_succ, List.set_cons_zero])
        refine stepM 4 rfl (by kernel_rfl) rfl (fun K hK => ?_)
        refine wp_app _ _ _ 55 55 rfl 5 5 i0 _ 1 1 Try.underlying55 Try.underlying55 hi hz0 hz1 hz2 rfl (by decide) _ ((piecesM (rowS S d) k).length + 16) _ rfl HO8.out _ 16 16 (bv (coverM op)) rfl (by rw [bv_length, coverM_length]) (fun _ => ⟨_, rfl, HC8.out.cells⟩) (bv_one _) (by unfold maxLen; omega) (by omega) ?_
        intro v9 w9 ho9 hm9
        have HO9 := Lib.hid ho9
        have HM9 := Lib.hid hm9
        clear ho9 hm9
        refine hK _ _ (trivial) ?_
        clear hK K
        (try simp only [Act.put, List.setIfInBounds_toArray, List.set_cons_succ, List.set_cons_zero])
        refine takeA 5 rfl (by kernel_rfl) (by kernel_rfl) (by kernel_rfl) rfl (fun _ _ _ _ h => h) rfl (fun K hK => ?_)
        go_big_quiet_op
        first | refine hK _ ?_ | refine ⟨_, fun _ _ => rfl, hK _ ?_⟩
        clear hK K
        refine doneM (by kernel_rfl) ?_ _
        have hm2 := HM8.out.trans HM9.out
        have hab9 : ∀ b, v9.ownBlock = some b → w.heap.size + 3 ≤ b := fun b e => by
          rcases hm2.at_ with e2 | hn
          · exact HAB.out b (e2.symm.trans e)
          · have := hn b e; have := HB5c.out.lt; omega
        have ho9 : OwnB w9 v9 (piecesM (rowS S d) (k + 1)) := by
          have hl1 := coverM_length op
          have hl2 := HOT.out
          rw [HROW.out]; unfold OwnB
          rw [bv_append, bv_append, List.length_append, List.length_append, hl1, hl2, ← List.append_assoc, ← Nat.add_assoc]; exact HO9.out
        have HO := Lib.hid ho9
        have HB9 := Lib.hid hab9
        have HM2 := Lib.hid hm2
        clear ho9 hab9 hm2
        (try simp only [Exit.inBlock, Exit.then])
        go_wp2_with fail
        go_roundw
        case rel => exact ⟨k + 1, by omega, by go_num, grown_then HXc.out HM2.out.grown (.inr (fun b e => by have := HAB.out b e; omega)), HB3c.out.keep HM2.out.grown (fun e => by have := HAB.out _ e.symm; omega), HB4c.out.keep HM2.out.grown (fun e => by have := HAB.out _ e.symm; omega), HB5c.out.keep HM2.out.grown (fun e => by have := HAB.out _ e.symm; omega), by rw [HPT.out]; exact HLA3.out.all HM2.out, HO.out, HB9.out⟩
        case measure => simp [intOf]; omega
    · obtain rfl : k = 32 := by omega
      have hl32 : (piecesM (rowS S d) 32).length = 1024 := hpl
      have HAL1 := Lib.hid hoa.lt
      have HLL1 := Lib.hid (show ∀ b, (Value.slice AL 32 cL).ownBlock = some b → b < wr.heap.size by obtain ⟨xs, G, l1, _⟩ := hla; exact fun b e => (World.ownsRow.lt l1 b e).2)
      have HLA := Lib.hid hla
      have HOA := Lib.hid hoa
      have HX := Lib.hid hx
      have HSZ := Lib.hid (show w.heap.size + 3 ≤ wr.heap.size from hb5.lt)
      clear hla hoa hx hb3 hb4 hb5
      go_wp2_with fail
      have hoh := HOA.out.holds
      generalize hP : piecesM (rowS S d) 32 = P at hl32 hoh HOA ⊢
      have HP := Lib.hid hP
      clear hP
      obtain ⟨F1, hp1, hp2⟩ := one_part (T := 55) hoh (HOA.out.lt)
      refine (Ref_Text 2 _ [P] _ F1 hp1 hp2 (by simp [blob, be_length, hl32])).mono ?_
      rintro e w31 ⟨v31, rfl, ho31, hf31⟩
      obtain ⟨A31, c31, rfl⟩ := ho31.form
      have hx31 : Ext wr w31 := ((Ext.refl wr).alloc _).trans (Fresh.ext hf31)
      have hnew : ∀ b, (Value.slice A31 (textM 2 [P]).length c31).ownBlock = some b → wr.heap.size ≤ b := fun b e => by have := Fresh.new hf31 b e; simp at this; omega
      have HLA1 := Lib.hid (HLA.out.ext hx31)
      have HO31 := Lib.hid ho31
      have HNEW := Lib.hid hnew
      have HX7 := Lib.hid (HX.out.trans hx31)
      have HSZ7 := Lib.hid (show wr.heap.size ≤ w31.heap.size from hx31.size)
      clear HLA HOA HX hoh hp1 hp2 hx31 hnew ho31 hf31
      obtain ⟨xs, G, l1, l2, l3, l4, l5⟩ := HLA1.out
      go_wp2_with (first
        | (at_builtin
           refine wpList_app1 _ rfl (.tmp 49) (.tmp 53) _ _ rfl 55 55 55 iL _ 1 24 Try.underlying79 Try.underlying79 hiL hy0 hy1 hy2 rfl (by decide) _ _ xs [.slice A31 (textM 2 [P]).length c31] rfl l1 rfl rfl (by simp [Value.oneCell']) (by unfold maxLen; omega) (by omega) ?_
           intro v33 w33 ho33 hm33
           have HLA2 : Hid (LAt w33 (w.heap.size + 3) v33 (piecesT S 32 ++ [textM 2 [P]]) (.slice AA (32 * 32) cA)) := Lib.hid (LAt.snoc l2 l3 l4 l5 (fun b e => (Nat.lt_of_lt_of_le (HAL1.out b e) HSZ7.out)) (by have := HSZ7.out; have := HSZ.out; omega) ho33 hm33 HO31.out.holds (fun b e => by
             have h1 := HNEW.out b e
             have h2 := HO31.out.lt b e
             have h3 := HSZ7.out
             have h4 := HSZ.out
             exact ⟨by omega, h2, fun e2 => by have := HLL1.out b e2; omega, fun e2 => by have := HAL1.out b e2; omega⟩))
           have HXn := Lib.hid (show Ext w w33 from grown_then HX7.out hm33.grown (.inr (fun b e => by have := l4 b e; omega)))
           clear ho33 hm33)
        | fail)
      go_ret
      refine ⟨_, rfl, HXn.out, ?_⟩
      unfold textsM
      rw [HP.out]
      exact HLA2.out.weak (by omega)
end
section
open Go.RowKit
open Go.Maps (Keyed IsMap Tidy)

abbrev DU := DataW Unit
def slit (t : List UInt8) : DU := .lit (.string t)
theorem slit_inj {s t : List UInt8} (h : slit s = slit t) : s = t := by unfold slit at h; simpa using h
theorem strOf_data (t : List UInt8) : (strOf t).data.toList = t := by simp [strOf]
theorem strOf_size (t : List UInt8) : (strOf t).size = t.length := by simp [strOf, ByteArray.size]
theorem plain_string_inv {P : Program} {e : TypeId} (he : P.underlying e = some .string) {v : Value} {z : DU × List MemPlace} (h : plainElem P e v = some z) : ∃ s : ByteArray, v = .string s ∧ z = (.lit (.string s.data.toList), []) ∧ s.size ≤ maxLen := by
  unfold plainElem at h
  rw [he] at h
  cases v <;> simp at h
  obtain ⟨hw, rfl⟩ := h
  exact ⟨_, rfl, rfl, hw⟩
section
variable {P : Program} (w : World) {ops : Array Oper} {rest : List Oper} {o : Oper} {a : Act} {Q : Exit → Act → World → Prop}
/-- 'v, ok := m[k]', the elements strings. -/
theorem wpList_look_str (hg : o.guard = none) (m x : Operand) (t : TypeId) (hop : o.op = Op.lookup t m x true)
    (k e : TypeId) (K : Keyed P k) (ht : P.underlying t = some (.map k e)) (he : P.underlying e = some .string) (hz : (zeroValue e).run P w = .ok (.string ByteArray.empty) w) (b n : Nat) (D : DU)
    (hm : a.eval m = .map (some b)) (hown : w.ownsMap P k (plainElem P e) b n D) (key : Value) (kl : Lit) (hx : a.eval x = key) (hkey : keyOf P k key = some kl)
    (hK : ∀ s : List UInt8, D.atKey kl (slit []) = slit s → s.length ≤ maxLen → wpList P ops Q rest (a.put o.dst (.tuple #[.string (strOf s), .bool (Maps.has D kl)])) w) :
    wpList P ops Q (o :: rest) a w :=
  wpList_lookup_own_ok w hg m x t hop k e K ht (plainElem P e) hz (slit []) [] (by simp [plainElem, he, slit]) b n D hm hown key kl hx hkey (fun v ps hv => by
    obtain ⟨s, rfl, hc, hwc⟩ := plain_string_inv he hv
    have := hK s.data.toList (congrArg Prod.fst hc) (by rw [Array.length_toList]; exact hwc)
    rwa [show strOf s.data.toList = s by cases s; simp [strOf]] at this)
end
theorem zero_string (w : World) : (zeroValue 9).run Try.prog w = .ok (.string ByteArray.empty) w := by kernel_rfl
theorem plain_str (t : List UInt8) (h : t.length ≤ 2000) : plainElem (H := Unit) Try.prog 9 (.string (strOf t)) = some (slit t, []) := by
  rw [plainElem_string Try.underlying9 (by rw [strOf_size]; unfold maxLen; omega), strOf_data, slit]
/-! ### The keys: sixteen bytes -/
theorem mapM_some {α β : Type} {f : α → Option β} : ∀ l : List α, (∀ x ∈ l, ∃ y, f x = some y) → ∃ r, l.mapM f = some r
  | [], _ => ⟨[], rfl⟩
  | x :: l, h => by
    obtain ⟨y, hy⟩ := h x (by simp)
    obtain ⟨r, hr⟩ := mapM_some l (fun z hz => h z (by simp [hz]))
    exact ⟨y :: r, by simp [List.mapM_cons, hy, hr]⟩
theorem laid16 : laidOutB Try.prog = true := by kernel_rfl
theorem law16 : Keyed Try.prog 34 := Maps.Keyed.of_law (deep_law_laid laid16 (m := 2) (by omega) (of_decide_eq_true (by kernel_rfl)) (by kernel_rfl) (by rw [Try.underlying34]))
theorem key16_some (K : List UInt8) (h : K.length = 16) : ∃ l, keyOf Try.prog 34 (.agg (bv K).toArray) = some l := by
  have hk : Try.prog.keyType 34 = true := by kernel_rfl
  have hc : Try.prog.cellsOf 34 = 16 := by kernel_rfl
  have hc1 : Try.prog.cellsOf 5 = 1 := by kernel_rfl
  obtain ⟨m, hm⟩ : ∃ m, Try.prog.types.size + 1 = m + 1 + 1 := ⟨Try.prog.types.size - 1, by have : 0 < Try.prog.types.size := of_decide_eq_true (by kernel_rfl); omega⟩
  have hl : (bv K).length = 16 := by rw [bv_length, h]
  have hf : (Value.agg (bv K).toArray).formed Try.prog 34 = true := by
    simp [Value.formed, Try.underlying34, hc, hl]
  unfold keyOf
  rw [Try.underlying34, hk, hf, hm]
  simp only [Bool.and_self, if_true, Value.cells]
  unfold Program.keyLits
  rw [Try.underlying34]
  simp only [hl, hc, if_true]
  obtain ⟨r, hr⟩ := mapM_some (f := fun i => Try.prog.keyLits (m + 1) 5 (((bv K).drop (i * Try.prog.cellsOf 5)).take (Try.prog.cellsOf 5))) (List.range 16) (fun i hi => by
    have hi' : i < 16 := by simpa using hi
    have hb : ((bv K).drop (i * 1)).take 1 = [.int .u8 ((K[i]'(by omega)).toNat : Int)] := by
      rw [Nat.mul_one, List.drop_eq_getElem_cons (by omega)]
      simp [bv]
    have hlt := (K[i]'(by omega)).toNat_lt
    rw [hc1, hb]
    unfold Program.keyLits
    rw [Try.underlying5]
    refine ⟨_, if_pos ⟨rfl, ?_⟩⟩
    exact WalkArith.wf_u8 (by omega))
  rw [hr]
  exact ⟨_, rfl⟩
noncomputable def klitT (K : List UInt8) : Lit := (keyOf Try.prog 34 (.agg (bv K).toArray)).getD (.bool false)
theorem key16 (K : List UInt8) (h : K.length = 16) : keyOf Try.prog 34 (.agg (bv K).toArray) = some (klitT K) := by
  obtain ⟨l, hl⟩ := key16_some K h
  unfold klitT
  rw [hl]; rfl
theorem bv_inj {a b : List UInt8} (h : bv a = bv b) : a = b := by
  induction a generalizing b with
  | nil => cases b with
    | nil => rfl
    | cons y b => simp [bv] at h
  | cons x a ih => cases b with
    | nil => simp [bv] at h
    | cons y b =>
      simp only [bv, List.map_cons, List.cons.injEq, Value.int.injEq, true_and] at h
      rw [ih h.2, UInt8.toNat_inj.1 (show x.toNat = y.toNat by omega)]
set_option maxRecDepth 100000 in
theorem klitT_inj {K K' : List UInt8} (h : K.length = 16) (h' : K'.length = 16) (e : klitT K = klitT K') : K = K' := by
  have h1 := key16 K h
  have h2 := key16 K' h'
  rw [← e] at h2
  have := law16.inj h1 h2
  exact bv_inj (by simpa using this)
set_option maxRecDepth 100000 in
theorem klitT_key {K : List UInt8} (h : K.length = 16) : WideAt.IsKeyLit (klitT K) := law16.key (key16 K h)
def OwnT (w : World) (b n : Nat) (D : DU) : Prop := w.ownsMap Try.prog 34 (plainElem Try.prog 9) b n D
/-- What a text is noted by. -/
def keyT (p : List UInt8) : List UInt8 := (sha p).take 16
theorem keyT_length (p : List UInt8) : (keyT p).length = 16 := by unfold keyT; rw [List.length_take, sha_length]; rfl
/-- The map holds the first q texts; none of them has met another. -/
structure MR (D : DU) (L : List (List UInt8)) (q : Nat) : Prop where
  map : IsMap D
  at_ : ∀ j (h : j < L.length), j < q → Maps.has D (klitT (keyT L[j])) = true ∧ D.atKey (klitT (keyT L[j])) (slit []) = slit L[j]
  has : ∀ K, K.length = 16 → Maps.has D (klitT K) = true → ∃ j, ∃ h : j < L.length, j < q ∧ keyT L[j] = K
theorem MR.start (L : List (List UInt8)) : MR (.map []) L 0 := ⟨Maps.isMap_empty, fun _ _ h => by omega, fun K _ h => by simp [Maps.has] at h⟩
set_option maxRecDepth 100000 in
/-- One text more, that met none. -/
theorem MR.step {D : DU} {L : List (List UInt8)} {q : Nat} (h : MR D L q) (hq : q < L.length) (s : List UInt8) (hs : D.atKey (klitT (keyT L[q])) (slit []) = slit s) (hm : Maps.has D (klitT (keyT L[q])) = true → s = L[q]) : MR (D.put (klitT (keyT L[q])) (slit L[q])) L (q + 1) := by
  have hkl := keyT_length L[q]
  refine ⟨h.map.put _ _, fun j hj hjq => ?_, fun K hK hh => ?_⟩
  · by_cases e : klitT (keyT L[j]) = klitT (keyT L[q])
    · rw [e, Maps.has_put_same h.map (klitT_key hkl), Maps.atKey_put_same h.map (klitT_key hkl)]
      refine ⟨rfl, ?_⟩
      rcases Nat.lt_or_ge j q with hlt | hge
      · obtain ⟨h1, h2⟩ := h.at_ j hj hlt
        rw [e] at h1 h2
        rw [hs] at h2
        rw [← hm h1]; exact h2
      · obtain rfl : j = q := by omega
        rfl
    · rw [Maps.has_put_other e, Maps.atKey_put_other e]
      have hne : j ≠ q := by rintro rfl; exact e rfl
      exact h.at_ j hj (by omega)
  · by_cases e : klitT K = klitT (keyT L[q])
    · exact ⟨q, hq, by omega, (klitT_inj hK hkl e).symm⟩
    · rw [Maps.has_put_other e] at hh
      obtain ⟨j, hj, hjq, hk⟩ := h.has K hK hh
      exact ⟨j, hj, by omega, hk⟩
/-- No two texts that were noted met. -/
theorem MR.none {D : DU} {L : List (List UInt8)} {q : Nat} (h : MR D L q) {i j : Nat} (hi : i < L.length) (hj : j < L.length) (hiq : i < q) (hjq : j < q) (e : keyT L[i] = keyT L[j]) : L[i] = L[j] := by
  have h1 := (h.at_ i hi hiq).2
  have h2 := (h.at_ j hj hjq).2
  rw [e, h2] at h1
  exact (slit_inj h1).symm
/-- What met says: a cover is the other piece, or two unlike texts have one beginning. -/
def MetP (A B d e : List UInt8) : Prop := (∃ k, k < 32 ∧ (coverM (opS A k) = otS A k ∨ coverM (opS B k) = otS B k)) ∨
  ∃ p q, p ∈ textsM A d ++ textsM B e ∧ q ∈ textsM A d ++ textsM B e ∧ keyT p = keyT q ∧ p ≠ q
theorem textM_one {d : UInt8} {a b : List UInt8} (hl : a.length = b.length) (h : textM d [a] = textM d [b]) : a = b := by
  simp only [textM, List.length_cons, List.length_nil, List.flatMap_cons, List.flatMap_nil, List.append_nil, blob, hl] at h
  simpa using h
theorem rows_len (S d : List UInt8) (hS : S.length = 1024) : ∀ k, k ≤ 32 → (piecesM (rowS S d) k).length = k * 32 := by
  intro k
  induction k with
  | zero => intro _; rfl
  | succ k ih =>
    intro hk
    rw [piecesM_succ, List.length_append, ih (by omega)]
    unfold rowS
    rw [rowFrom_length (by rw [List.length_take, List.length_drop, hS]; omega)]
    omega
theorem rows_eq {f g : Nat → List UInt8} : ∀ n, (∀ k, k < n → (f k).length = 32 ∧ (g k).length = 32) → piecesM f n = piecesM g n → ∀ k, k < n → f k = g k
  | 0, _, _, k, hk => by omega
  | n + 1, hl, h, k, hk => by
    rw [piecesM_succ, piecesM_succ] at h
    have h1 := hl n (by omega)
    obtain ⟨e1, e2⟩ := List.append_inj' h (by rw [h1.1, h1.2])
    rcases Nat.lt_or_ge k n with hkn | hkn
    · exact rows_eq n (fun j hj => hl j (by omega)) e1 k hkn
    · obtain rfl : k = n := by omega
      exact e2
theorem row_len (S d : List UInt8) (hS : S.length = 1024) {k : Nat} (hk : k < 32) : (rowS S d k).length = 32 := by
  unfold rowS; rw [rowFrom_length (by rw [List.length_take, List.length_drop, hS]; omega)]
theorem ot_len {S : List UInt8} (hS : S.length = 1024) {k : Nat} (hk : k < 32) : (otS S k).length = 16 := by unfold otS; rw [List.length_take, List.length_drop, hS]; omega
theorem op_len {S : List UInt8} (hS : S.length = 1024) {k : Nat} (hk : k < 32) : (opS S k).length = 16 := by unfold opS; rw [List.length_take, List.length_drop, hS]; omega
/-- Two signatures that lead to one leaf: a pair of unlike texts, or all rows are alike. -/
theorem one_leaf {A B d e : List UInt8} (hA : A.length = 1024) (hB : B.length = 1024) (h : fromS A d = fromS B e) (hn : ¬ MetP A B d e) : ∀ k, k < 32 → rowS A d k = rowS B e k := by
  have ht : piecesM (rowS A d) 32 = piecesM (rowS B e) 32 := by
    by_cases hc : textM 2 [piecesM (rowS A d) 32] = textM 2 [piecesM (rowS B e) 32]
    · exact textM_one (by rw [rows_len A d hA 32 (by omega), rows_len B e hB 32 (by omega)]) hc
    · refine absurd (.inr ⟨_, _, ?_, ?_, ?_, hc⟩) hn
      · simp [textsM]
      · simp [textsM]
      · unfold keyT; exact congrArg (List.take 16) h
  exact rows_eq 32 (fun k hk => ⟨row_len A d hA hk, row_len B e hB hk⟩) ht
/-- Held against a digest with another bit. -/
theorem sound_bits {S d e : List UInt8} (hS : S.length = 1024) (h : fromS S d = fromS S e) {k : Nat} (hk : k < 32) (hb : bitM d k ≠ bitM e k) : MetP S S d e := by
  refine Classical.byContradiction fun hn => hn (.inl ⟨k, hk, .inl ?_⟩)
  have hr := one_leaf hS hS h hn k hk
  have h1 := bitM_lt d k
  have h2 := bitM_lt e k
  have hl : (coverM (opS S k)).length = (otS S k).length := by rw [coverM_length, ot_len hS hk]
  unfold rowS rowFrom at hr
  by_cases h0 : bitM d k = 0
  · rw [if_pos h0, if_neg (by omega)] at hr
    exact (List.append_inj hr hl).1
  · rw [if_neg h0, if_pos (by omega)] at hr
    exact (List.append_inj hr hl.symm).1.symm
/-- Turned in one byte. -/
theorem sound_turn {S T d : List UInt8} (hS : S.length = 1024) (hT : T.length = 1024) (h : fromS S d = fromS T d) {k : Nat} (hk : k < 32) (hb : opS S k ≠ opS T k ∨ otS S k ≠ otS T k) : MetP S T d d := by
  refine Classical.byContradiction fun hn => ?_
  have hr := one_leaf hS hT h hn k hk
  have hlo : (otS S k).length = (otS T k).length := by rw [ot_len hS hk, ot_len hT hk]
  have hlc : (coverM (opS S k)).length = (coverM (opS T k)).length := by rw [coverM_length, coverM_length]
  unfold rowS rowFrom at hr
  have he : coverM (opS S k) = coverM (opS T k) ∧ otS S k = otS T k := by
    by_cases h0 : bitM d k = 0
    · rw [if_pos h0, if_pos h0] at hr
      exact List.append_inj hr hlc
    · rw [if_neg h0, if_neg h0] at hr
      exact (List.append_inj hr hlo).symm
  rcases hb with hb | hb
  · refine hn (.inr ⟨textM 5 [opS S k], textM 5 [opS T k], ?_, ?_, ?_, ?_⟩)
    · simp only [textsM, piecesT, List.mem_append, List.mem_map, List.mem_range]
      exact .inl (.inl ⟨k, hk, rfl⟩)
    · simp only [textsM, piecesT, List.mem_append, List.mem_map, List.mem_range]
      exact .inr (.inl ⟨k, hk, rfl⟩)
    · exact he.1
    · exact fun e => hb (textM_one (by rw [op_len hS hk, op_len hT hk]) e)
  · exact hb he.2
theorem texts_small (S d : List UInt8) (hS : S.length = 1024) : ∀ t ∈ textsM S d, t.length ≤ 2000 := by
  intro t ht
  simp only [textsM, piecesT, List.mem_append, List.mem_map, List.mem_range, List.mem_singleton] at ht
  rcases ht with ⟨k, hk, rfl⟩ | rfl
  · simp [textM, blob, be_length, op_len hS hk]
  · simp [textM, blob, be_length, rows_len S d hS 32 (by omega)]
theorem texts_length (S d : List UInt8) : (textsM S d).length = 33 := by simp [textsM, piecesT]
end
section
open Go.RowKit
theorem szPieceFrom04 {n : Nat} (h : n = 16) : (Try.prog.info? 40).map (·.size) = some n := by subst h; kernel_rfl
theorem szPieceBFrom04 {n : Nat} (h : n = 16) : (Try.prog.info? 35).map (·.size) = some n := by subst h; kernel_rfl
theorem szSigFrom04 {n : Nat} (h : n = 1024) : (Try.prog.info? 38).map (·.size) = some n := by subst h; kernel_rfl
theorem zSigFrom04 : (Try.prog.info? 38).bind (fun i => i.zero.map (·.cells)) = some (List.replicate 1024 (Value.int .u8 0)).toArray := by kernel_rfl
set_option maxRecDepth 100000 in
set_option maxHeartbeats 4000000 in
theorem From04 (C : List Value) (w : World) (hC : C.length = 1024) (hone : ∀ u ∈ C, u.oneCell' = true) :
    Calls Try.prog 13 #[.agg C.toArray] w fun e w' => e = .returned (.agg C.toArray) ∧ Ext w w' := by
  obtain ⟨Z, hz, hzl, hzo⟩ : ∃ Z : List Value, (Try.prog.info? 38).bind (fun i => i.zero.map (·.cells)) = some Z.toArray ∧ Z.length = 1024 ∧ ∀ u ∈ Z, u.oneCell' = true := ⟨_, zSigFrom04, List.length_replicate, fun u hu => by rw [List.eq_of_mem_replicate hu]; rfl⟩
  have HCL := Lib.hid hC
  have HZL := Lib.hid hzl
  have HZO := Lib.hid hzo
  have hb1 : Blk (((w.alloc (.cells C.toArray 43)).alloc (.cells Z.toArray 38)).alloc (.cells Z.toArray 38)) w.heap.size 43 C := ((Blk.new _ _ _).keep ((Ext.refl _).alloc _) (by simp)).keep ((Ext.refl _).alloc _) (by simp)
  have hb2 : Blk (((w.alloc (.cells C.toArray 43)).alloc (.cells Z.toArray 38)).alloc (.cells Z.toArray 38)) (w.heap.size + 1) 38 Z := (Blk.fresh (by simp) _ _).keep ((Ext.refl _).alloc _) (by simp)
  have hb3 : Blk (((w.alloc (.cells C.toArray 43)).alloc (.cells Z.toArray 38)).alloc (.cells Z.toArray 38)) (w.heap.size + 2) 38 Z := Blk.fresh (by simp) _ _
  have hx0 : Ext w (((w.alloc (.cells C.toArray 43)).alloc (.cells Z.toArray 38)).alloc (.cells Z.toArray 38)) := (((Ext.refl w).alloc _).alloc _).alloc _
  have HB1 := Lib.hid hb1
  have HB2 := Lib.hid hb2
  have HB3 := Lib.hid hb3
  have HX0 := Lib.hid hx0
  clear hb1 hb2 hb3 hx0 hC hzl hzo
  go_enter Try.func13, Try.ntmps13
  go_wp2_with (first
    | (refine wpList_alloc _ rfl 38 rfl _ hz ?_)
    | fail)
  go_loopw [4, 5] (fun p i wr => ∃ k : Nat, k ≤ 32 ∧ i = .int .i64 k ∧ Ext w wr ∧ Blk wr w.heap.size 43 C ∧ Blk wr (w.heap.size + 1) 38 Z ∧ Blk wr (w.heap.size + 2) 38 (mixAt C Z k) ∧ ∃ q, p = q) (fun _ i _ => 32 - (intOf i).toNat)
  case atStart => exact ⟨0, by omega, rfl, HX0.out, HB1.out, HB2.out, by rw [mixAt_zero C Z HCL.out HZL.out]; exact HB3.out, _, rfl⟩
  case round =>
    clear HX0 HB1 HB2 HB3
    obtain ⟨k, hk, rfl, hx, hb1, hb2, hb3, q, rfl⟩ := hrel
    by_cases hlt : k < 32
    · have HX := Lib.hid hx
      have HB1 := Lib.hid hb1
      have HB2 := Lib.hid hb2
      have HB3 := Lib.hid hb3
      clear hx hb1 hb2 hb3
      go_wp2
      have hx : Ext w wr.drew := HX.out.drew
      have hb1 : Blk wr.drew w.heap.size 43 C := HB1.out
      have hb2 : Blk wr.drew (w.heap.size + 1) 38 Z := HB2.out
      have hb3 : Blk wr.drew (w.heap.size + 2) 38 (mixAt C Z k) := HB3.out
      refine startM (KeepB fun b => b = w.heap.size) (by kernel_rfl) ?_
      (try simp only [Act.put, List.setIfInBounds_toArray, List.set_cons_succ, List.set_cons_zero])
      generalize wr.drew = w0 at *
      have hk1 : Cells w0 ⟨w.heap.size, k * 16, none⟩ ((C.drop (k * 16)).take 16) := by have h := (hb1.cells.drop (k * 16)).take 16; rw [addr_at] at h; exact h
      have hk2 : Cells w0 ⟨w.heap.size, 512 + k * 16, none⟩ ((C.drop (512 + k * 16)).take 16) := by have h := (hb1.cells.drop (512 + k * 16)).take 16; rw [addr_at] at h; exact h
      have hp1 := piece_len HCL.out (o := k * 16) (by omega)
      have hp2 := piece_len HCL.out (o := 512 + k * 16) (by omega)
      have hst := mixAt_step C Z HCL.out HZL.out k hlt
      have ho1 : ∀ u ∈ (C.drop (k * 16)).take 16, u.oneCell' = true := fun u hu => hone u (List.mem_of_mem_drop (List.mem_of_mem_take hu))
      have ho2 : ∀ u ∈ (C.drop (512 + k * 16)).take 16, u.oneCell' = true := fun u hu => hone u (List.mem_of_mem_drop (List.mem_of_mem_take hu))
      generalize (C.drop (k * 16)).take 16 = P1 at *
      generalize (C.drop (512 + k * 16)).take 16 = P2 at *
      have HX := Lib.hid hx
      have HB1 := Lib.hid hb1
      have HB2 := Lib.hid hb2
      have HB3 := Lib.hid hb3
      have HK1 := Lib.hid hk1
      have HK2 := Lib.hid hk2
      have HP1 := Lib.hid hp1
      have HP2 := Lib.hid hp2
      have HST := Lib.hid hst
      have HO1 := Lib.hid ho1
      have HO2 := Lib.hid ho2
      clear hx hb1 hb2 hb3 hk1 hk2 hp1 hp2 hst ho1 ho2
      refine takeK 0 rfl (by kernel_rfl) (by kernel_rfl) (by kernel_rfl) rfl (fun _ _ _ _ h => h) rfl (fun K hK => ?_)
      go_big_quiet_op
      first | refine hK _ ?_ | refine ⟨_, fun _ _ => rfl, hK _ ?_⟩
      clear hK K
      refine takeK 1 rfl (by kernel_rfl) (by kernel_rfl) (by kernel_rfl) rfl (fun _ _ _ _ h => h) rfl (fun K hK => ?_)
      go_big_quiet_op
      first | refine hK _ ?_ | refine ⟨_, fun _ _ => rfl, hK _ ?_⟩
      clear hK K
      refine takeK 2 rfl (by kernel_rfl) (by kernel_rfl) (by kernel_rfl) rfl (fun _ _ _ _ h => h) rfl (fun K hK => ?_)
      go_big_quiet_op
      first | refine hK _ ?_ | refine ⟨_, fun _ _ => rfl, hK _ ?_⟩
      clear hK K
      refine takeK 3 rfl (by kernel_rfl) (by kernel_rfl) (by kernel_rfl) rfl (fun _ _ _ _ h => h) rfl (fun K hK => ?_)
      go_big_quiet_op
      first | refine hK _ ?_ | refine ⟨_, fun _ _ => rfl, hK _ ?_⟩
      clear hK K
      refine takeK 4 rfl (by kernel_rfl) (by kernel_rfl) (by kernel_rfl) rfl (fun _ _ _ _ h => h) rfl (fun K hK => ?_)
      go_big_quiet_op
      first | refine hK _ ?_ | refine ⟨_, fun _ _ => rfl, hK _ ?_⟩
      clear hK K
      refine takeK 5 rfl (by kernel_rfl) (by kernel_rfl) (by kernel_rfl) rfl (fun _ _ _ _ h => h) rfl (fun K hK => ?_)
      refine quiet_agg 40 (.tmp 12) rfl _ rfl P1 _ Try.underlying40 rfl (szPieceFrom04 HP1.out) (fun W' h => KeepB.cells h HK1.out rfl) ?_
      refine hK _ ?_
      simp only [Act.put, List.setIfInBounds_toArray, List.set_cons_succ, List.set_cons_zero]
      clear hK K
      refine takeK 6 rfl (by kernel_rfl) (by kernel_rfl) (by kernel_rfl) rfl (fun _ _ _ _ h => h) rfl (fun K hK => ?_)
      go_big_quiet_op
      first | refine hK _ ?_ | refine ⟨_, fun _ _ => rfl, hK _ ?_⟩
      clear hK K
      refine takeK 7 rfl (by kernel_rfl) (by kernel_rfl) (by kernel_rfl) rfl (fun _ _ _ _ h => h) rfl (fun K hK => ?_)
      go_big_quiet_op
      first | refine hK _ ?_ | refine ⟨_, fun _ _ => rfl, hK _ ?_⟩
      clear hK K
      refine takeK 8 rfl (by kernel_rfl) (by kernel_rfl) (by kernel_rfl) rfl (fun _ _ _ _ h => h) rfl (fun K hK => ?_)
      go_big_quiet_op
      first | refine hK _ ?_ | refine ⟨_, fun _ _ => rfl, hK _ ?_⟩
      clear hK K
      refine takeK 9 rfl (by kernel_rfl) (by kernel_rfl) (by kernel_rfl) rfl (fun _ _ _ _ h => h) rfl (fun K hK => ?_)
      refine quiet_agg 40 (.tmp 16) rfl _ rfl P2 _ Try.underlying40 rfl (szPieceFrom04 HP2.out) (fun W' h => KeepB.cells h HK2.out rfl) ?_
      refine hK _ ?_
      simp only [Act.put, List.setIfInBounds_toArray, List.set_cons_succ, List.set_cons_zero]
      clear hK K
      refine takeK 10 rfl (by kernel_rfl) (by kernel_rfl) (by kernel_rfl) rfl (fun _ _ _ _ h => h) rfl (fun K hK => ?_)
      go_big_quiet_op
      first | refine hK _ ?_ | refine ⟨_, fun _ _ => rfl, hK _ ?_⟩
      clear hK K
      refine takeK 11 rfl (by kernel_rfl) (by kernel_rfl) (by kernel_rfl) rfl (fun _ _ _ _ h => h) rfl (fun K hK => ?_)
      go_big_quiet_op
      first | refine hK _ ?_ | refine ⟨_, fun _ _ => rfl, hK _ ?_⟩
      clear hK K
      refine takeK 13 rfl (by kernel_rfl) (by kernel_rfl) (by kernel_rfl) rfl (fun _ _ _ _ h => h) rfl (fun K hK => ?_)
      go_big_quiet_op
      first | refine hK _ ?_ | refine ⟨_, fun _ _ => rfl, hK _ ?_⟩
      clear hK K
      refine stepM 12 rfl (by kernel_rfl) rfl (fun K hK => ?_)
      refine wp_store_part w0 35 (.tmp 19) (.tmp 13) rfl (w.heap.size + 2) (k * 16) rfl (mixAt C Z k) P1 _ rfl HB3.out (szPieceBFrom04 HP1.out) (by rw [mixAt_len, HP1.out]; omega) HO1.out ?_
      refine hK _ _ (fun b hb => (setRow_only _).block b (by have := HB1.out.lt; rcases hb with rfl; exact this) (by rcases hb with rfl; simp)) ?_
      clear hK K
      (try simp only [Act.put, List.setIfInBounds_toArray, List.set_cons_succ, List.set_cons_zero])
      refine takeK 14 rfl (by kernel_rfl) (by kernel_rfl) (by kernel_rfl) rfl (fun _ _ _ _ h => h) rfl (fun K hK => ?_)
      go_big_quiet_op
      first | refine hK _ ?_ | refine ⟨_, fun _ _ => rfl, hK _ ?_⟩
      clear hK K
      refine stepM 15 rfl (by kernel_rfl) rfl (fun K hK => ?_)
      refine wp_store_part _ 35 (.tmp 21) (.tmp 17) rfl (w.heap.size + 2) (512 + k * 16) rfl (putAt (mixAt C Z k) (k * 16) P1) P2 _ rfl (setRow_at HB3.out) (szPieceBFrom04 HP2.out) (by rw [putAt_len (by rw [mixAt_len, HP1.out]; omega), mixAt_len, HP2.out]; omega) HO2.out ?_
      refine hK _ _ (fun b hb => (setRow_only _).block b (by have := HB1.out.lt; rcases hb with rfl; simpa [World.setRow] using this) (by rcases hb with rfl; simp)) ?_
      clear hK K
      (try simp only [Act.put, List.setIfInBounds_toArray, List.set_cons_succ, List.set_cons_zero])
      refine doneM (by kernel_rfl) ?_ _
      have hx9 : Ext w ((w0.setRow (w.heap.size + 2) (putAt (mixAt C Z k) (k * 16) P1).toArray).setRow (w.heap.size + 2) (putAt (putAt (mixAt C Z k) (k * 16) P1) (512 + k * 16) P2).toArray) := grown_then (grown_then HX.out (setRow_only _) (.inr (by rintro b ⟨⟩; omega))) (setRow_only _) (.inr (by rintro b ⟨⟩; omega))
      have hb1 : Blk ((w0.setRow (w.heap.size + 2) (putAt (mixAt C Z k) (k * 16) P1).toArray).setRow (w.heap.size + 2) (putAt (putAt (mixAt C Z k) (k * 16) P1) (512 + k * 16) P2).toArray) w.heap.size 43 C := (HB1.out.keep (setRow_only _) (by simp)).keep (setRow_only _) (by simp)
      have hb2 : Blk ((w0.setRow (w.heap.size + 2) (putAt (mixAt C Z k) (k * 16) P1).toArray).setRow (w.heap.size + 2) (putAt (putAt (mixAt C Z k) (k * 16) P1) (512 + k * 16) P2).toArray) (w.heap.size + 1) 38 Z := (HB2.out.keep (setRow_only _) (by simp)).keep (setRow_only _) (by simp)
      have hb3 : Blk ((w0.setRow (w.heap.size + 2) (putAt (mixAt C Z k) (k * 16) P1).toArray).setRow (w.heap.size + 2) (putAt (putAt (mixAt C Z k) (k * 16) P1) (512 + k * 16) P2).toArray) (w.heap.size + 2) 38 (mixAt C Z (k + 1)) := by rw [← HST.out]; exact setRow_at (setRow_at HB3.out)
      generalize World.setRow _ _ _ = w9 at *
      have HX9 := Lib.hid hx9
      have HB91 := Lib.hid hb1
      have HB92 := Lib.hid hb2
      have HB93 := Lib.hid hb3
      clear hx9 hb1 hb2 hb3
      go_wp2
      go_roundw
      case rel => exact ⟨k + 1, by omega, by go_num, HX9.out, HB91.out, HB92.out, HB93.out, _, rfl⟩
      case measure => simp [intOf]; omega
    · obtain rfl : k = 32 := by omega
      rw [mixAt_all C Z HCL.out HZL.out] at hb3
      have hcm := hb3.cells
      have hr2 : wr.heap[w.heap.size + 1]? = some (.cells Z.toArray 38 (0, 0)) := hb2
      have HX := Lib.hid hx
      clear hx hb1 hb2 hb3
      go_wp2_with (first
        | (refine wpList_load_agg _ rfl 38 (.tmp 3) rfl _ rfl C _ Try.underlying38 rfl (szSigFrom04 HCL.out) hcm ?_)
        | (refine wpList_store_row _ rfl 38 (.tmp 2) (.tmp 23) rfl (w.heap.size + 1) rfl Z C _ rfl hr2 (szSigFrom04 HCL.out) (by rw [HCL.out, HZL.out]) hone ?_)
        | fail)
      have hc9 := Blk.cells (t := 38) (setRow_at (cs' := C.toArray) hr2)
      (try simp only [Exit.inBlock, Exit.then])
      refine bodyPost_ret (results_agg rfl _ _ _ _ _ rfl Try.underlying38 rfl (szSigFrom04 HCL.out) hc9) rfl ?_
      exact ⟨rfl, grown_then HX.out (setRow_only _) (.inr (by rintro b ⟨⟩; omega))⟩
end
end Go.Proofs.Ytfoomnibfibfnaa

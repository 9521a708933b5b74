/- The walks of memo's Twin, and of the library's Clone of hops and of sums. Conditions: the parts have their sizes. -/
import Derived.Test.YtemladlnpaaefaaRRight
import Derived.Test.YtemladlnpaaefaaFrom18
import Derived.Test.YtemladlnpaaefaaTo18
import Derived.Test.YtemladlnpaaefaaMonoLs
set_option linter.unusedVariables false
set_option linter.unusedSimpArgs false
set_option linter.unnecessarySimpa false
namespace Go.Proofs.Ytemladlnpaaefaa
section
open Go.RowKit
theorem szDigR {n : Nat} (h : n = 32) : (Try.prog.info? 24).map (·.size) = some n := by subst h; kernel_rfl
theorem szHopR {n : Nat} (h : n = 3) : (Try.prog.info? 80).map (·.size) = some n := by subst h; kernel_rfl
theorem szSigR {n : Nat} (h : n = 1026) : (Try.prog.info? 37).map (·.size) = some n := by subst h; kernel_rfl
set_option maxRecDepth 100000 in
set_option maxHeartbeats 8000000 in
theorem RSame05 (C : List Value) (key : Nat) (u v : Value) (ds : List Dg) (sg : SigT.Data) (w : World) (F : Fp) {W1 : World} {F1 : Fp} (hC : C.length = 1024) (hsg : SigT.holds W1 F1 C sg) (hc : Ways w F u ds) (hd : Ways w F v ds) (hF : ∀ b, F b → b < w.heap.size) :
    Calls Try.prog 27 #[.agg (sigC C key u).toArray, .agg (sigC C key v).toArray] w fun e w' => e = .returned (.bool true) ∧ Ext w w' := by
  obtain ⟨A, c, xs, rfl, hlc, hcm, hA, hcell, hall⟩ := ways_open hc
  obtain ⟨B, d', ys, rfl, hld, hdm, hB, hcel2, hal2⟩ := ways_open hd
  clear hc hd
  unfold maxLen at hcm hdm
  have hgt : Try.prog.eqGuardType Try.prog.depth 24 = false := by kernel_rfl
  have t1 := sigC_take hC key (.slice A (List.length (α := Dg) ds) c)
  have t2 := sigC_take hC key (.slice B (List.length (α := Dg) ds) d')
  have y1 := sigC_key hC key (.slice A (List.length (α := Dg) ds) c)
  have y2 := sigC_key hC key (.slice B (List.length (α := Dg) ds) d')
  have z1 := sigC_way hC key (.slice A (List.length (α := Dg) ds) c)
  have z2 := sigC_way hC key (.slice B (List.length (α := Dg) ds) d')
  have HCL := Lib.hid hC
  have HZS := Lib.hid (show (!SigT.eqv sg sg) = false by rw [(Ty.eqv_iff SigT (by decide) sg sg).2 rfl]; rfl)
  generalize sigC C key (.slice A (List.length (α := Dg) ds) c) = I1 at *
  generalize sigC C key (.slice B (List.length (α := Dg) ds) d') = I2 at *
  have hba : Blk ((w.alloc (.cells I1.toArray 37)).alloc (.cells I2.toArray 37)) w.heap.size 37 I1 := (Blk.new _ _ _).keep ((Ext.refl _).alloc _) (by simp)
  have hbb : Blk ((w.alloc (.cells I1.toArray 37)).alloc (.cells I2.toArray 37)) (w.heap.size + 1) 37 I2 := Blk.new_at (by simp) _ _
  have hx0 : Ext w ((w.alloc (.cells I1.toArray 37)).alloc (.cells I2.toArray 37)) := ((Ext.refl w).alloc _).alloc _
  have hcs : Cells ((w.alloc (.cells I1.toArray 37)).alloc (.cells I2.toArray 37)) ⟨w.heap.size, 0, none⟩ C := by have h := hba.cells.take 1024; rw [t1] at h; exact h
  have hct : Cells ((w.alloc (.cells I1.toArray 37)).alloc (.cells I2.toArray 37)) ⟨w.heap.size + 1, 0, none⟩ C := by have h := hbb.cells.take 1024; rw [t2] at h; exact h
  have ck1 := (hba.cell 1024).trans y1
  have ck2 := (hbb.cell 1024).trans y2
  have cw1 := (hba.cell 1025).trans z1
  have cw2 := (hbb.cell 1025).trans z2
  have hx9 : Ext ((w.alloc (.cells I1.toArray 37)).alloc (.cells I2.toArray 37)) ((w.alloc (.cells I1.toArray 37)).alloc (.cells I2.toArray 37)) := Ext.refl _
  have hkk : ((key : Int) != (key : Int)) = false := bne_self_eq_false _
  have hnn : ((List.length (α := Dg) ds : Int) != (List.length (α := Dg) ds : Int)) = false := bne_self_eq_false _
  have HX0 := Lib.hid hx0
  have HX9 := Lib.hid hx9
  have HBA := Lib.hid hba
  have HBB := Lib.hid hbb
  have HW1 := Lib.hid z1
  have HW2 := Lib.hid z2
  clear hx0 hx9 hba hbb z1 z2 y1 y2 t1 t2 hC
  go_enter Try.func27, Try.ntmps27
  go_wp2_with (first
    | (refine wpList_loadG (.inl rfl) 34 (.tmp 6) rfl _ rfl C _ Try.underlying34 rfl (szLampR HCL.out) hcs ?_)
    | (refine wpList_loadG (.inl rfl) 34 (.tmp 8) rfl _ rfl C _ Try.underlying34 rfl (szLampR HCL.out) hct ?_)
    | (refine wpList_neTy (.inl rfl) SigT 34 _ (.tmp 7) (.tmp 9) rfl sigR_fits deep_sig guardR_sig val_sig C C sg sg rfl rfl hsg hsg _ HZS.out ?_)
    | fail)
  go_loopw [5] (fun i wr => ∃ k : Nat, k ≤ List.length (α := Dg) ds ∧ i = .int .i64 k ∧ Ext ((w.alloc (.cells I1.toArray 37)).alloc (.cells I2.toArray 37)) wr) (fun i _ => List.length (α := Dg) ds - (intOf i).toNat)
  case atStart => exact ⟨0, by omega, rfl, HX9.out⟩
  case round =>
    obtain ⟨k, hk, rfl, hx⟩ := hrel
    have ca0 := ((HBA.out.keep hx (by simp)).cell 1025)
    have cb0 := ((HBB.out.keep hx (by simp)).cell 1025)
    have ca : wr.cell? ⟨w.heap.size, 1025, none⟩ = some (.slice A (List.length (α := Dg) ds) c) := ca0.trans HW1.out
    have cb : wr.cell? ⟨w.heap.size + 1, 1025, none⟩ = some (.slice B (List.length (α := Dg) ds) d') := cb0.trans HW2.out
    clear ca0 cb0
    by_cases hlt : k < List.length (α := Dg) ds
    · obtain ⟨ad, rfl, hf, hcells⟩ := hcell (by omega)
      obtain ⟨bd, rfl, hf2, hcells2⟩ := hcel2 (by omega)
      have hxw := HX0.out.trans hx
      obtain ⟨hc1, hok1⟩ := digs_at hall (hcells.keep (hxw.same hF _ hf)) hlt
      obtain ⟨hc2, hok2⟩ := digs_at hal2 (hcells2.keep (hxw.same hF _ hf2)) hlt
      generalize hg1 : ds[k] = d at *
      have HH1 := Lib.hid ((digT_iff (w := w) (F := F)).2 ⟨rfl, hok1⟩)
      have hl1 : (bv d).length = 32 := by simp [hok1]
      have HEQ := Lib.hid (show (!DigT.eqv d d) = false by rw [(Ty.eqv_iff DigT (by decide) d d).2 rfl]; rfl)
      have HL1 := Lib.hid hl1
      clear hl1 hok1 hok2
      generalize bv d = C1 at *
      have hc1 : Cells wr.drew (ad.add (k * 32)) C1 := hc1
      have hc2 : Cells wr.drew (bd.add (k * 32)) C1 := hc2
      have ca : wr.drew.cell? ⟨w.heap.size, 1025, none⟩ = some (.slice (some ad) (List.length (α := Dg) ds) c) := ca
      have cb : wr.drew.cell? ⟨w.heap.size + 1, 1025, none⟩ = some (.slice (some bd) (List.length (α := Dg) ds) d') := cb
      have HCA := Lib.hid hc1
      have HCB := Lib.hid hc2
      have HX := Lib.hid hx.drew
      have k0 : (0 : Int) ≤ (k : Int) := by omega
      have k1 : (k : Int) < (List.length (α := Dg) ds : Int) := by omega
      clear hc1 hc2 hx hg1 hcells hcells2 hxw
      go_wp2
      refine startM Since (by kernel_rfl) ?_
      refine takeE 0 rfl (by kernel_rfl) (by kernel_rfl) (by kernel_rfl) rfl (fun _ _ _ _ h => h) rfl (fun K hK => ?_)
      go_big_quiet_op
      first | refine hK _ ?_ | refine ⟨_, fun _ _ => rfl, hK _ ?_⟩
      clear hK K
      refine takeE 1 rfl (by kernel_rfl) (by kernel_rfl) (by kernel_rfl) rfl (fun _ _ _ _ h => h) rfl (fun K hK => ?_)
      refine quiet_cell _ _ rfl _ rfl _ _ Try.underlying35 rfl (fun W' h => World.grownBy.cell h.ext ca (by simp)) ?_
      refine hK _ ?_
      simp only [Act.put, List.setIfInBounds_toArray, List.set_cons_succ, List.set_cons_zero]
      clear hK K
      refine takeE 2 rfl (by kernel_rfl) (by kernel_rfl) (by kernel_rfl) rfl (fun _ _ _ _ h => h) rfl (fun K hK => ?_)
      go_big_quiet_op
      first | refine hK _ ?_ | refine ⟨_, fun _ _ => rfl, hK _ ?_⟩
      clear hK K
      refine takeE 3 rfl (by kernel_rfl) (by kernel_rfl) (by kernel_rfl) rfl (fun _ _ _ _ h => h) rfl (fun K hK => ?_)
      go_big_quiet_op
      first | refine hK _ ?_ | refine ⟨_, fun _ _ => rfl, hK _ ?_⟩
      clear hK K
      refine takeE 4 rfl (by kernel_rfl) (by kernel_rfl) (by kernel_rfl) rfl (fun _ _ _ _ h => h) rfl (fun K hK => ?_)
      refine quiet_agg 24 (.tmp 37) rfl _ rfl C1 _ Try.underlying24 rfl (szDigR HL1.out) (fun W' h => HCA.out.keep (h.ext.block _ (HCA.out.lt (by intro e; have := HL1.out; rw [e] at this; simp at this)) (by simp))) ?_
      refine hK _ ?_
      simp only [Act.put, List.setIfInBounds_toArray, List.set_cons_succ, List.set_cons_zero]
      clear hK K
      refine takeE 5 rfl (by kernel_rfl) (by kernel_rfl) (by kernel_rfl) rfl (fun _ _ _ _ h => h) rfl (fun K hK => ?_)
      go_big_quiet_op
      first | refine hK _ ?_ | refine ⟨_, fun _ _ => rfl, hK _ ?_⟩
      clear hK K
      refine takeE 6 rfl (by kernel_rfl) (by kernel_rfl) (by kernel_rfl) rfl (fun _ _ _ _ h => h) rfl (fun K hK => ?_)
      refine quiet_cell _ _ rfl _ rfl _ _ Try.underlying35 rfl (fun W' h => World.grownBy.cell h.ext cb (by simp)) ?_
      refine hK _ ?_
      simp only [Act.put, List.setIfInBounds_toArray, List.set_cons_succ, List.set_cons_zero]
      clear hK K
      refine takeE 7 rfl (by kernel_rfl) (by kernel_rfl) (by kernel_rfl) rfl (fun _ _ _ _ h => h) rfl (fun K hK => ?_)
      go_big_quiet_op
      first | refine hK _ ?_ | refine ⟨_, fun _ _ => rfl, hK _ ?_⟩
      clear hK K
      refine takeE 8 rfl (by kernel_rfl) (by kernel_rfl) (by kernel_rfl) rfl (fun _ _ _ _ h => h) rfl (fun K hK => ?_)
      go_big_quiet_op
      first | refine hK _ ?_ | refine ⟨_, fun _ _ => rfl, hK _ ?_⟩
      clear hK K
      refine takeE 9 rfl (by kernel_rfl) (by kernel_rfl) (by kernel_rfl) rfl (fun _ _ _ _ h => h) rfl (fun K hK => ?_)
      refine quiet_agg 24 (.tmp 42) rfl _ rfl C1 _ Try.underlying24 rfl (szDigR HL1.out) (fun W' h => HCB.out.keep (h.ext.block _ (HCB.out.lt (by intro e; have := HL1.out; rw [e] at this; simp at this)) (by simp))) ?_
      refine hK _ ?_
      simp only [Act.put, List.setIfInBounds_toArray, List.set_cons_succ, List.set_cons_zero]
      clear hK K
      refine takeE 10 rfl (by kernel_rfl) (by kernel_rfl) (by kernel_rfl) rfl (fun _ _ _ _ h => h) rfl (fun K hK => ?_)
      refine quiet_neTy DigT 24 _ (.tmp 38) (.tmp 43) rfl (by kernel_rfl) (by decide) hgt (fun _ => rfl) (W1 := w) (W2 := w) (F1 := F) (F2 := F) C1 C1 d d rfl rfl HH1.out HH1.out ?_
      rw [HEQ.out]
      refine hK _ ?_
      simp only [Act.put, List.setIfInBounds_toArray, List.set_cons_succ, List.set_cons_zero]
      clear hK K
      refine doneM (by kernel_rfl) ?_ _
      go_wp2
      go_roundw
      case rel => exact ⟨k + 1, by omega, by go_num, HX.out⟩
      case measure => simp [intOf]; omega
    · obtain rfl : k = List.length (α := Dg) ds := by omega
      go_wp2
      go_ret
      exact ⟨rfl, HX0.out.trans hx⟩
set_option maxRecDepth 100000 in
set_option maxHeartbeats 8000000 in
theorem RSame18 (kind : Int) (ch rd : Nat) (OC : List Value) (tr tr' : Value) (ds : List Hp) (SG SG' : List Value) (od : WishT18.Data) (w : World) (F : Fp) {W1 : World} {F1 : Fp} (hO : OC.length = 39) (hod : WishT18.holds W1 F1 OC od) (hS : SG.length = 1026) (hS' : SG'.length = 1026) (hc : Hops w F tr ds) (hd : Hops w F tr' ds) (hF : ∀ b, F b → b < w.heap.size)
    (hsame : ∀ W, Ext w W → Calls Try.prog 27 #[.agg SG.toArray, .agg SG'.toArray] W fun e w' => e = .returned (.bool true) ∧ Ext W w') :
    Calls Try.prog 12 #[.agg (memoC kind ch rd OC tr SG).toArray, .agg (memoC kind ch rd OC tr' SG').toArray] w fun e w' => e = .returned (.bool true) ∧ Ext w w' := by
  obtain ⟨A, c, xs, rfl, hlc, hcm, hA, hcell, hall⟩ := hops_open hc
  obtain ⟨B, d', ys, rfl, hld, hdm, hB, hcel2, hal2⟩ := hops_open hd
  clear hc hd
  unfold maxLen at hcm hdm
  have hgt : Try.prog.eqGuardType Try.prog.depth 80 = false := by kernel_rfl
  have t1 := memoC_op (kind := kind) (ch := ch) (rd := rd) (tr := .slice A (List.length (α := Hp) ds) c) (SG := SG) hO
  have t2 := memoC_op (kind := kind) (ch := ch) (rd := rd) (tr := .slice B (List.length (α := Hp) ds) d') (SG := SG') hO
  have s1 := memoC_sig (kind := kind) (ch := ch) (rd := rd) (tr := .slice A (List.length (α := Hp) ds) c) (SG := SG) hO
  have s2 := memoC_sig (kind := kind) (ch := ch) (rd := rd) (tr := .slice B (List.length (α := Hp) ds) d') (SG := SG') hO
  have z1 := memoC_tr (kind := kind) (ch := ch) (rd := rd) (tr := .slice A (List.length (α := Hp) ds) c) (SG := SG) hO
  have z2 := memoC_tr (kind := kind) (ch := ch) (rd := rd) (tr := .slice B (List.length (α := Hp) ds) d') (SG := SG') hO
  have f10 : (memoC kind ch rd OC (.slice A (List.length (α := Hp) ds) c) SG)[0]? = some (.int .i64 kind) := rfl
  have f11 : (memoC kind ch rd OC (.slice A (List.length (α := Hp) ds) c) SG)[1]? = some (.int .u32 (ch : Int)) := rfl
  have f12 : (memoC kind ch rd OC (.slice A (List.length (α := Hp) ds) c) SG)[2]? = some (.int .u64 (rd : Int)) := rfl
  have f20 : (memoC kind ch rd OC (.slice B (List.length (α := Hp) ds) d') SG')[0]? = some (.int .i64 kind) := rfl
  have f21 : (memoC kind ch rd OC (.slice B (List.length (α := Hp) ds) d') SG')[1]? = some (.int .u32 (ch : Int)) := rfl
  have f22 : (memoC kind ch rd OC (.slice B (List.length (α := Hp) ds) d') SG')[2]? = some (.int .u64 (rd : Int)) := rfl
  have HOL := Lib.hid hO
  have HSL := Lib.hid hS
  have HSL2 := Lib.hid hS'
  have HZO := Lib.hid (show (!WishT18.eqv od od) = false by rw [(Ty.eqv_iff WishT18 (by decide) od od).2 rfl]; rfl)
  generalize memoC kind ch rd OC (.slice A (List.length (α := Hp) ds) c) SG = I1 at *
  generalize memoC kind ch rd OC (.slice B (List.length (α := Hp) ds) d') SG' = I2 at *
  have hba : Blk ((w.alloc (.cells I1.toArray 39)).alloc (.cells I2.toArray 39)) w.heap.size 39 I1 := (Blk.new _ _ _).keep ((Ext.refl _).alloc _) (by simp)
  have hbb : Blk ((w.alloc (.cells I1.toArray 39)).alloc (.cells I2.toArray 39)) (w.heap.size + 1) 39 I2 := Blk.new_at (by simp) _ _
  have hx0 : Ext w ((w.alloc (.cells I1.toArray 39)).alloc (.cells I2.toArray 39)) := ((Ext.refl w).alloc _).alloc _
  have hco1 : Cells ((w.alloc (.cells I1.toArray 39)).alloc (.cells I2.toArray 39)) ⟨w.heap.size, 3, none⟩ OC := by have h := (hba.cells.drop 3).take 39; rw [t1, addr_at] at h; exact h
  have hco2 : Cells ((w.alloc (.cells I1.toArray 39)).alloc (.cells I2.toArray 39)) ⟨w.heap.size + 1, 3, none⟩ OC := by have h := (hbb.cells.drop 3).take 39; rw [t2, addr_at] at h; exact h
  have hcs1 : Cells ((w.alloc (.cells I1.toArray 39)).alloc (.cells I2.toArray 39)) ⟨w.heap.size, 43, none⟩ SG := by have h := hba.cells.drop 43; rw [s1, addr_at] at h; exact h
  have hcs2 : Cells ((w.alloc (.cells I1.toArray 39)).alloc (.cells I2.toArray 39)) ⟨w.heap.size + 1, 43, none⟩ SG' := by have h := hbb.cells.drop 43; rw [s2, addr_at] at h; exact h
  have c10 := (hba.cell 0).trans f10
  have c11 := (hba.cell 1).trans f11
  have c12 := (hba.cell 2).trans f12
  have c20 := (hbb.cell 0).trans f20
  have c21 := (hbb.cell 1).trans f21
  have c22 := (hbb.cell 2).trans f22
  have hsm := hsame _ hx0
  have hk0 : (kind != kind) = false := bne_self_eq_false _
  have hk1 : ((ch : Int) != (ch : Int)) = false := bne_self_eq_false _
  have hk2 : ((rd : Int) != (rd : Int)) = false := bne_self_eq_false _
  have hnn : ((List.length (α := Hp) ds : Int) != (List.length (α := Hp) ds : Int)) = false := bne_self_eq_false _
  have HSM := Lib.hid hsm
  have HX0 := Lib.hid hx0
  have HBA := Lib.hid hba
  have HBB := Lib.hid hbb
  have HW1 := Lib.hid z1
  have HW2 := Lib.hid z2
  clear hx0 hba hbb z1 z2 f10 f11 f12 f20 f21 f22 t1 t2 s1 s2 hsm hO hS hS'
  go_enter Try.func12, Try.ntmps12
  go_wp2_with (first
    | (refine wpList_loadG (.inr (by kernel_rfl)) 28 (.tmp 26) rfl _ rfl OC _ Try.underlying28 rfl (szOpR HOL.out) hco1 ?_)
    | (refine wpList_loadG (.inr (by kernel_rfl)) 28 (.tmp 28) rfl _ rfl OC _ Try.underlying28 rfl (szOpR HOL.out) hco2 ?_)
    | (refine wpList_neTy (.inr (by kernel_rfl)) WishT18 28 _ (.tmp 27) (.tmp 29) rfl wishR_fits deep_wish guardR_wish val_wish OC OC od od rfl rfl hod hod _ HZO.out ?_)
    | (refine wpList_loadG (.inr (by kernel_rfl)) 37 (.tmp 33) rfl _ rfl SG _ Try.underlying37 rfl (szSigR HSL.out) hcs1 ?_)
    | (refine wpList_loadG (.inr (by kernel_rfl)) 37 (.tmp 35) rfl _ rfl SG' _ Try.underlying37 rfl (szSigR HSL2.out) hcs2 ?_)
    | (go_at_call 27
       refine HSM.out.mono ?_
       rintro e w5 ⟨rfl, hx5⟩
       have HX9 := Lib.hid hx5
       have e1 : w5.cell? ⟨w.heap.size, 42, none⟩ = some (.slice A (List.length (α := Hp) ds) c) := ((HBA.out.keep hx5 (by simp)).cell 42).trans HW1.out
       have e2 : w5.cell? ⟨w.heap.size + 1, 42, none⟩ = some (.slice B (List.length (α := Hp) ds) d') := ((HBB.out.keep hx5 (by simp)).cell 42).trans HW2.out)
    | fail)
  go_loopw [5] (fun i wr => ∃ k : Nat, k ≤ List.length (α := Hp) ds ∧ i = .int .i64 k ∧ Ext ((w.alloc (.cells I1.toArray 39)).alloc (.cells I2.toArray 39)) wr) (fun i _ => List.length (α := Hp) ds - (intOf i).toNat)
  case atStart => exact ⟨0, by omega, rfl, HX9.out⟩
  case round =>
    obtain ⟨k, hk, rfl, hx⟩ := hrel
    have ca0 := ((HBA.out.keep hx (by simp)).cell 42)
    have cb0 := ((HBB.out.keep hx (by simp)).cell 42)
    have ca : wr.cell? ⟨w.heap.size, 42, none⟩ = some (.slice A (List.length (α := Hp) ds) c) := ca0.trans HW1.out
    have cb : wr.cell? ⟨w.heap.size + 1, 42, none⟩ = some (.slice B (List.length (α := Hp) ds) d') := cb0.trans HW2.out
    clear ca0 cb0
    by_cases hlt : k < List.length (α := Hp) ds
    · obtain ⟨ad, rfl, hf, hcells⟩ := hcell (by omega)
      obtain ⟨bd, rfl, hf2, hcells2⟩ := hcel2 (by omega)
      have hxw := HX0.out.trans hx
      obtain ⟨hc1, hok1⟩ := hops_at hall (hcells.keep (hxw.same hF _ hf)) hlt
      obtain ⟨hc2, hok2⟩ := hops_at hal2 (hcells2.keep (hxw.same hF _ hf2)) hlt
      generalize hg1 : ds[k] = d at *
      have HH1 := Lib.hid ((hopT_iff (w := w) (F := F)).2 ⟨rfl, hok1⟩)
      have hl1 : (hopC d).length = 3 := by rfl
      have HEQ := Lib.hid (show (!HopT.eqv d d) = false by rw [(Ty.eqv_iff HopT (by decide) d d).2 rfl]; rfl)
      have HL1 := Lib.hid hl1
      clear hl1 hok1 hok2
      generalize hopC d = C1 at *
      have hc1 : Cells wr.drew (ad.add (k * 3)) C1 := hc1
      have hc2 : Cells wr.drew (bd.add (k * 3)) C1 := hc2
      have ca : wr.drew.cell? ⟨w.heap.size, 42, none⟩ = some (.slice (some ad) (List.length (α := Hp) ds) c) := ca
      have cb : wr.drew.cell? ⟨w.heap.size + 1, 42, none⟩ = some (.slice (some bd) (List.length (α := Hp) ds) d') := cb
      have HCA := Lib.hid hc1
      have HCB := Lib.hid hc2
      have HX := Lib.hid hx.drew
      have k0 : (0 : Int) ≤ (k : Int) := by omega
      have k1 : (k : Int) < (List.length (α := Hp) ds : Int) := by omega
      clear hc1 hc2 hx hg1 hcells hcells2 hxw
      go_wp2
      refine startM Since (by kernel_rfl) ?_
      refine takeE 0 rfl (by kernel_rfl) (by kernel_rfl) (by kernel_rfl) rfl (fun _ _ _ _ h => h) rfl (fun K hK => ?_)
      go_big_quiet_op
      first | refine hK _ ?_ | refine ⟨_, fun _ _ => rfl, hK _ ?_⟩
      clear hK K
      refine takeE 1 rfl (by kernel_rfl) (by kernel_rfl) (by kernel_rfl) rfl (fun _ _ _ _ h => h) rfl (fun K hK => ?_)
      refine quiet_cell _ _ rfl _ rfl _ _ Try.underlying29 rfl (fun W' h => World.grownBy.cell h.ext ca (by simp)) ?_
      refine hK _ ?_
      simp only [Act.put, List.setIfInBounds_toArray, List.set_cons_succ, List.set_cons_zero]
      clear hK K
      refine takeE 2 rfl (by kernel_rfl) (by kernel_rfl) (by kernel_rfl) rfl (fun _ _ _ _ h => h) rfl (fun K hK => ?_)
      go_big_quiet_op
      first | refine hK _ ?_ | refine ⟨_, fun _ _ => rfl, hK _ ?_⟩
      clear hK K
      refine takeE 3 rfl (by kernel_rfl) (by kernel_rfl) (by kernel_rfl) rfl (fun _ _ _ _ h => h) rfl (fun K hK => ?_)
      go_big_quiet_op
      first | refine hK _ ?_ | refine ⟨_, fun _ _ => rfl, hK _ ?_⟩
      clear hK K
      refine takeE 4 rfl (by kernel_rfl) (by kernel_rfl) (by kernel_rfl) rfl (fun _ _ _ _ h => h) rfl (fun K hK => ?_)
      refine quiet_agg 80 (.tmp 59) rfl _ rfl C1 _ Try.underlying80 rfl (szHopR HL1.out) (fun W' h => HCA.out.keep (h.ext.block _ (HCA.out.lt (by intro e; have := HL1.out; rw [e] at this; simp at this)) (by simp))) ?_
      refine hK _ ?_
      simp only [Act.put, List.setIfInBounds_toArray, List.set_cons_succ, List.set_cons_zero]
      clear hK K
      refine takeE 5 rfl (by kernel_rfl) (by kernel_rfl) (by kernel_rfl) rfl (fun _ _ _ _ h => h) rfl (fun K hK => ?_)
      go_big_quiet_op
      first | refine hK _ ?_ | refine ⟨_, fun _ _ => rfl, hK _ ?_⟩
      clear hK K
      refine takeE 6 rfl (by kernel_rfl) (by kernel_rfl) (by kernel_rfl) rfl (fun _ _ _ _ h => h) rfl (fun K hK => ?_)
      refine quiet_cell _ _ rfl _ rfl _ _ Try.underlying29 rfl (fun W' h => World.grownBy.cell h.ext cb (by simp)) ?_
      refine hK _ ?_
      simp only [Act.put, List.setIfInBounds_toArray, List.set_cons_succ, List.set_cons_zero]
      clear hK K
      refine takeE 7 rfl (by kernel_rfl) (by kernel_rfl) (by kernel_rfl) rfl (fun _ _ _ _ h => h) rfl (fun K hK => ?_)
      go_big_quiet_op
      first | refine hK _ ?_ | refine ⟨_, fun _ _ => rfl, hK _ ?_⟩
      clear hK K
      refine takeE 8 rfl (by kernel_rfl) (by kernel_rfl) (by kernel_rfl) rfl (fun _ _ _ _ h => h) rfl (fun K hK => ?_)
      go_big_quiet_op
      first | refine hK _ ?_ | refine ⟨_, fun _ _ => rfl, hK _ ?_⟩
      clear hK K
      refine takeE 9 rfl (by kernel_rfl) (by kernel_rfl) (by kernel_rfl) rfl (fun _ _ _ _ h => h) rfl (fun K hK => ?_)
      refine quiet_agg 80 (.tmp 64) rfl _ rfl C1 _ Try.underlying80 rfl (szHopR HL1.out) (fun W' h => HCB.out.keep (h.ext.block _ (HCB.out.lt (by intro e; have := HL1.out; rw [e] at this; simp at this)) (by simp))) ?_
      refine hK _ ?_
      simp only [Act.put, List.setIfInBounds_toArray, List.set_cons_succ, List.set_cons_zero]
      clear hK K
      refine takeE 10 rfl (by kernel_rfl) (by kernel_rfl) (by kernel_rfl) rfl (fun _ _ _ _ h => h) rfl (fun K hK => ?_)
      refine quiet_neTy HopT 80 _ (.tmp 60) (.tmp 65) rfl (by kernel_rfl) (by decide) hgt (fun _ => rfl) (W1 := w) (W2 := w) (F1 := F) (F2 := F) C1 C1 d d rfl rfl HH1.out HH1.out ?_
      rw [HEQ.out]
      refine hK _ ?_
      simp only [Act.put, List.setIfInBounds_toArray, List.set_cons_succ, List.set_cons_zero]
      clear hK K
      refine doneM (by kernel_rfl) ?_ _
      go_wp2
      go_roundw
      case rel => exact ⟨k + 1, by omega, by go_num, HX.out⟩
      case measure => simp [intOf]; omega
    · obtain rfl : k = List.length (α := Hp) ds := by omega
      go_wp2
      go_ret
      exact ⟨rfl, HX0.out.trans hx⟩
end
section
open Go.RowKit
theorem flatK {α : Type} (f : α → List Value) (k : Nat) : ∀ l : List α, (∀ x ∈ l, (f x).length = k) → (l.flatMap f).length = l.length * k
  | [], _ => by simp
  | x :: l, h => by
    rw [List.flatMap_cons, List.length_append, h x (List.mem_cons_self ..), flatK f k l fun y hy => h y (List.mem_cons_of_mem _ hy), List.length_cons, Nat.add_mul]; omega
theorem srcExtM {w w' : World} {A : Option Addr} {m : Nat} {news : List Value} (h : Src w A m news) (hx : Ext w w') (hn : m ≠ 0 → news ≠ []) : Src w' A m news := fun hm => by
  obtain ⟨ad, e, hc⟩ := h hm
  exact ⟨ad, e, hc.keep (hx.block _ (hc.lt (hn hm)) (by simp))⟩
theorem memoC_way {kind : Int} {ch rd : Nat} {OC C : List Value} {tr u : Value} {key : Nat} (h : OC.length = 39) (hC : C.length = 1024) : (memoC kind ch rd OC tr (sigC C key u))[1068]? = some u := by
  have := sigC_way hC key u
  rw [← memoC_sig (kind := kind) (ch := ch) (rd := rd) (tr := tr) (SG := sigC C key u) h, List.getElem?_drop] at this
  exact this
theorem memoC_two {kind : Int} {ch rd : Nat} {OC C : List Value} {tr u : Value} {key : Nat} (h : OC.length = 39) (hC : C.length = 1024) (t' v' : Value) : ((memoC kind ch rd OC tr (sigC C key u)).set 42 t').set 1068 v' = memoC kind ch rd OC t' (sigC C key v') := by
  rw [memoC_set h]
  show _ :: _ :: _ :: (OC ++ t' :: sigC C key u).set 1065 v' = _
  rw [List.set_append_right _ _ (by omega), h]
  show _ :: _ :: _ :: (OC ++ t' :: (sigC C key u).set 1025 v') = _
  rw [sigC_set hC]; rfl
theorem srcCloneH {w : World} {F : Fp} {A : Option Addr} {c : Nat} {cs : List Hp} (h : Hops w F (.slice A (List.length (α := Hp) cs) c) cs) : Src w A (List.length (α := Hp) cs) (cs.flatMap hopC) ∧ (cs.flatMap hopC).length = List.length (α := Hp) cs * 3 ∧ (∀ u ∈ cs.flatMap hopC, u.oneCell' = true) ∧ ∀ v W, Own W 64 3 v (List.length (α := Hp) cs) (cs.flatMap hopC) → OwnH 64 W v cs := by
  obtain ⟨A', c', xs, hv, _, _, _, hcell, hall⟩ := hops_open h
  cases hv
  obtain ⟨rfl, hok⟩ := hops_iff.1 hall
  refine ⟨fun hn => ?_, ?_, ?_, fun v W h => ⟨hok, h⟩⟩
  · obtain ⟨ad, rfl, _, hc⟩ := hcell (by omega)
    exact ⟨ad, rfl, hc⟩
  · exact flatK _ _ _ fun x hx => rfl
  · intro u hu
    obtain ⟨x, _, hx⟩ := List.mem_flatMap.1 hu
    exact hopC_one x u hx
set_option maxRecDepth 100000 in
set_option maxHeartbeats 400000 in
theorem CloneH (v : Value) (cs : List Hp) (w : World) (F : Fp) (hc : Hops w F v cs) (hF : ∀ b, F b → b < w.heap.size) (hlen : List.length (α := Hp) cs ≤ 1099511627776) :
    Calls Try.prog 30 #[v] w fun e w' => ∃ v', e = .returned v' ∧ OwnH 64 w' v' cs ∧ Fresh w w' v' := by
  obtain ⟨i1, z1, hi1, hz1, hi2, hi3, hi4⟩ := partsHop
  have hc0 := hc
  obtain ⟨A, c, xs, rfl, hlc, hcm, hA, hcell, hall⟩ := hops_open hc
  obtain ⟨hsrc, hlx, hone, hown⟩ := srcCloneH hc0
  cases A with
  | none =>
    have hlz : List.length (α := Hp) cs = 0 := by have := hA rfl; omega
    obtain rfl : cs = [] := List.eq_nil_of_length_eq_zero hlz
    obtain rfl := hA rfl
    have hq := fun W => run_eql_nil_slice (P := Try.prog) W 51 _ none 0 0 0 0 Try.underlying51
    go_enter Try.func30, Try.ntmps30
    go_wp2
    go_ret
    exact ⟨_, rfl, ⟨by simp, Own.nil _ _ _⟩, Moved.refl _ _⟩
  | some ad =>
    have hq : ∀ W : World, (binOp .eql 51 (.slice (some ad) (List.length (α := Hp) cs) c) (.slice none 0 0)).run Try.prog W = .ok (.bool false) W := fun W => by
      simp only [binOp]
      simp [Op.equal, Op.maxDepth, Lib.run_equalIn_slice_nil W 9999 51 _ (some ad) (List.length (α := Hp) cs) c 0 0 Try.underlying51]
    obtain ⟨X, hX⟩ : ∃ X, X = cs.flatMap hopC := ⟨_, rfl⟩
    rw [← hX] at hlx hone hsrc hown
    have HSRC := Lib.hid hsrc
    have HOWN := Lib.hid hown
    clear hsrc hc0 hcell hX hown
    go_enter Try.func30, Try.ntmps30
    go_wp2_with (first
      | (at_builtin; go_must (refine wpList_app _ rfl (.tmp 5) (.tmp 6) _ _ rfl _ _ i1 z1 3 24 Try.underlying51 Try.underlying51 hi1 hz1 hi2 hi3 hi4 (by decide) _ 0 [] rfl (own_empty rfl) _ _ _ X rfl hlx (srcExtM HSRC.out ((Ext.refl _).alloc _) (by intro h1 h2; rw [h2] at hlx; simp at hlx; omega)) hone (by unfold maxLen; omega) (by omega) ?_); intro v2 w2 ho2 hm2)
      | fail)
    go_ret
    exact ⟨_, rfl, HOWN.out _ _ (by simpa using ho2), (fresh_empty _ _).trans hm2⟩
theorem srcCloneD {w : World} {F : Fp} {A : Option Addr} {c : Nat} {cs : List Dg} (h : Ways w F (.slice A (List.length (α := Dg) cs) c) cs) : Src w A (List.length (α := Dg) cs) (cs.flatMap bv) ∧ (cs.flatMap bv).length = List.length (α := Dg) cs * 32 ∧ (∀ u ∈ cs.flatMap bv, u.oneCell' = true) ∧ ∀ v W, Own W 90 32 v (List.length (α := Dg) cs) (cs.flatMap bv) → OwnD 90 W v cs := by
  obtain ⟨A', c', xs, hv, _, _, _, hcell, hall⟩ := ways_open h
  cases hv
  obtain ⟨rfl, hok⟩ := digs_iff.1 hall
  refine ⟨fun hn => ?_, ?_, ?_, fun v W h => ⟨hok, h⟩⟩
  · obtain ⟨ad, rfl, _, hc⟩ := hcell (by omega)
    exact ⟨ad, rfl, hc⟩
  · exact flatK _ _ _ fun x hx => by simp [hok x hx]
  · intro u hu
    obtain ⟨x, _, hx⟩ := List.mem_flatMap.1 hu
    exact bv_one x u hx
set_option maxRecDepth 100000 in
set_option maxHeartbeats 400000 in
theorem CloneD (v : Value) (cs : List Dg) (w : World) (F : Fp) (hc : Ways w F v cs) (hF : ∀ b, F b → b < w.heap.size) (hlen : List.length (α := Dg) cs ≤ 1099511627776) :
    Calls Try.prog 31 #[v] w fun e w' => ∃ v', e = .returned v' ∧ OwnD 90 w' v' cs ∧ Fresh w w' v' := by
  obtain ⟨i1, z1, hi1, hz1, hi2, hi3, hi4⟩ := partsTo05
  have hc0 := hc
  obtain ⟨A, c, xs, rfl, hlc, hcm, hA, hcell, hall⟩ := ways_open hc
  obtain ⟨hsrc, hlx, hone, hown⟩ := srcCloneD hc0
  cases A with
  | none =>
    have hlz : List.length (α := Dg) cs = 0 := by have := hA rfl; omega
    obtain rfl : cs = [] := List.eq_nil_of_length_eq_zero hlz
    obtain rfl := hA rfl
    have hq := fun W => run_eql_nil_slice (P := Try.prog) W 56 _ none 0 0 0 0 Try.underlying56
    go_enter Try.func31, Try.ntmps31
    go_wp2
    go_ret
    exact ⟨_, rfl, ⟨by simp, Own.nil _ _ _⟩, Moved.refl _ _⟩
  | some ad =>
    have hq : ∀ W : World, (binOp .eql 56 (.slice (some ad) (List.length (α := Dg) cs) c) (.slice none 0 0)).run Try.prog W = .ok (.bool false) W := fun W => by
      simp only [binOp]
      simp [Op.equal, Op.maxDepth, Lib.run_equalIn_slice_nil W 9999 56 _ (some ad) (List.length (α := Dg) cs) c 0 0 Try.underlying56]
    obtain ⟨X, hX⟩ : ∃ X, X = cs.flatMap bv := ⟨_, rfl⟩
    rw [← hX] at hlx hone hsrc hown
    have HSRC := Lib.hid hsrc
    have HOWN := Lib.hid hown
    clear hsrc hc0 hcell hX hown
    go_enter Try.func31, Try.ntmps31
    go_wp2_with (first
      | (at_builtin; go_must (refine wpList_app _ rfl (.tmp 5) (.tmp 6) _ _ rfl _ _ i1 z1 32 32 Try.underlying56 Try.underlying56 hi1 hz1 hi2 hi3 hi4 (by decide) _ 0 [] rfl (own_empty rfl) _ _ _ X rfl hlx (srcExtM HSRC.out ((Ext.refl _).alloc _) (by intro h1 h2; rw [h2] at hlx; simp at hlx; omega)) hone (by unfold maxLen; omega) (by omega) ?_); intro v2 w2 ho2 hm2)
      | fail)
    go_ret
    exact ⟨_, rfl, HOWN.out _ _ (by simpa using ho2), (fresh_empty _ _).trans hm2⟩
theorem farM {o : Option Nat} {r : Nat} (h : ∀ b, o = some b → b ≠ r) : o = none ∨ o ≠ some r := by
  cases o with
  | none => exact .inl rfl
  | some b => exact .inr (fun e => h b rfl (by simpa using e))
theorem KB_refl (S : Nat → Prop) : ∀ a, KeepB S a a := fun _ _ _ => rfl
theorem KB_trans (S : Nat → Prop) : ∀ a b c, KeepB S a b → KeepB S b c → KeepB S a c := fun _ _ _ h1 h2 b hb => (h2 b hb).trans (h1 b hb)
set_option maxRecDepth 100000 in
set_option maxHeartbeats 4000000 in
theorem Twin18 (kind : Int) (ch rd : Nat) (OC : List Value) (tr : Value) (hs : List Hp) (C : List Value) (key : Nat) (u : Value) (ds : List Dg) (w : World) (F : Fp) (hO : OC.length = 39) (hoo : ∀ u ∈ OC, u.oneCell' = true) (hC : C.length = 1024) (hone : ∀ u ∈ C, u.oneCell' = true) (hc : Ways w F u ds) (hh : Hops w F tr hs) (hF : ∀ b, F b → b < w.heap.size) (hlen : List.length (α := Dg) ds ≤ 1099511627776) (hlen2 : List.length (α := Hp) hs ≤ 1099511627776) :
    Calls Try.prog 14 #[.agg (memoC kind ch rd OC tr (sigC C key u)).toArray] w fun e w' => ∃ tr' v, e = .returned (.agg (memoC kind ch rd OC tr' (sigC C key v)).toArray) ∧ OwnH 64 w' tr' hs ∧ OwnD 90 w' v ds ∧ Ext w w' := by
  obtain ⟨ZR, hzr, hzl⟩ : ∃ ZR : List Value, (Try.prog.info? 60).bind (fun i => i.zero.map (·.cells)) = some ZR.toArray ∧ ZR.length = 1069 := ⟨_, zMemo, memoC_len rfl (sigC_len List.length_replicate _ _)⟩
  obtain ⟨A, c, xs, htr, -⟩ := hops_open hh
  obtain ⟨A', c', xs', hu, -⟩ := ways_open hc
  have HTR := Lib.hid htr
  have HU := Lib.hid hu
  clear htr hu
  have i42 := memoC_tr (kind := kind) (ch := ch) (rd := rd) (tr := tr) (SG := sigC C key u) hO
  have i1068 : (memoC kind ch rd OC tr (sigC C key u))[1068]? = some u := memoC_way hO hC
  have hset : ∀ t' v', ((memoC kind ch rd OC tr (sigC C key u)).set 42 t').set 1068 v' = memoC kind ch rd OC t' (sigC C key v') := fun t' v' => memoC_two hO hC t' v'
  have hmo : ∀ t' v' A1 c1 A2 c2, t' = .slice A1 (List.length (α := Hp) hs) c1 → v' = .slice A2 (List.length (α := Dg) ds) c2 → ∀ x ∈ memoC kind ch rd OC t' (sigC C key v'), x.oneCell' = true := by
    rintro _ _ A1 c1 A2 c2 rfl rfl
    exact memoC_one hoo (sigC_one hone _ _ _ _) rfl
  have hml : ∀ t' v', (memoC kind ch rd OC t' (sigC C key v')).length = 1069 := fun t' v' => memoC_len hO (sigC_len hC _ _)
  have HSET := Lib.hid hset
  have HMO := Lib.hid hmo
  have HML := Lib.hid hml
  have HZL := Lib.hid hzl
  obtain ⟨IN, hIN⟩ : ∃ IN, IN = memoC kind ch rd OC tr (sigC C key u) := ⟨_, rfl⟩
  rw [← hIN] at i42 i1068 HSET ⊢
  have HIN := Lib.hid hIN
  have hb1 : Blk ((w.alloc (.cells IN.toArray 60)).alloc (.cells ZR.toArray 60)) w.heap.size 60 IN := (Blk.new _ _ _).keep ((Ext.refl _).alloc _) (by simp)
  have hb2 : Blk ((w.alloc (.cells IN.toArray 60)).alloc (.cells ZR.toArray 60)) (w.heap.size + 1) 60 ZR := Blk.fresh (by simp) _ _
  have hx0 : Ext w ((w.alloc (.cells IN.toArray 60)).alloc (.cells ZR.toArray 60)) := ((Ext.refl w).alloc _).alloc _
  have HI42 := Lib.hid i42
  have HI68 := Lib.hid i1068
  have HB1 := Lib.hid hb1
  have HB2 := Lib.hid hb2
  have HX0 := Lib.hid hx0
  clear i42 i1068 hb1 hb2 hx0 hset hmo hml hzl hIN
  go_enter Try.func14, Try.ntmps14
  go_wp2_with (first
    | (refine wpList_alloc _ rfl 60 rfl _ hzr ?_)
    | fail)
  have hx : Ext w ((w.alloc (.cells IN.toArray 60)).alloc (.cells ZR.toArray 60)).drew := HX0.out.drew
  have hb1 : Blk ((w.alloc (.cells IN.toArray 60)).alloc (.cells ZR.toArray 60)).drew w.heap.size 60 IN := HB1.out
  have hb2 : Blk ((w.alloc (.cells IN.toArray 60)).alloc (.cells ZR.toArray 60)).drew (w.heap.size + 1) 60 ZR := HB2.out
  refine startLs [8, 11] (KeepB fun b => b < w.heap.size + 2) (by kernel_rfl) ?_
  (try simp only [Act.put, List.setIfInBounds_toArray, List.set_cons_succ, List.set_cons_zero])
  generalize ((w.alloc (.cells IN.toArray 60)).alloc (.cells ZR.toArray 60)).drew = w0 at *
  have HK1 := Lib.hid ((hb1.cell 42).trans HI42.out)
  have HK2 := Lib.hid ((hb1.cell 1068).trans HI68.out)
  have hbl : w.heap.size < w.heap.size + 2 := by omega
  have hsz : w.heap.size + 2 ≤ w0.heap.size := by have := hb2.lt; omega
  have HB1 := Lib.hid hb1
  have HB2 := Lib.hid hb2
  have HX := Lib.hid hx
  clear hx hb1 hb2
  refine takeNs (KB_refl _) 0 rfl (by kernel_rfl) (by kernel_rfl) (by kernel_rfl) rfl (fun _ _ _ _ h => h) rfl (fun K hK => ?_)
  go_big_quiet_op
  first | refine hK _ ?_ | refine ⟨_, fun _ _ => rfl, hK _ ?_⟩
  clear hK K
  refine takeLs (KB_refl _) (KB_trans _) 1 [2, 6, 8, 11] rfl (by kernel_rfl) (by kernel_rfl) (by kernel_rfl) (by kernel_rfl) rfl (fun _ _ _ _ h => h) rfl (fun K hK => ?_)
  refine quiet_cell _ _ rfl _ rfl _ _ Try.underlying51 rfl (fun W' h => KeepB.cell h HK1.out hbl) ?_
  refine hK _ ?_
  simp only [Act.put, List.setIfInBounds_toArray, List.set_cons_succ, List.set_cons_zero]
  clear hK K
  refine takeNs (KB_refl _) 3 rfl (by kernel_rfl) (by kernel_rfl) (by kernel_rfl) rfl (fun _ _ _ _ h => h) rfl (fun K hK => ?_)
  go_big_quiet_op
  first | refine hK _ ?_ | refine ⟨_, fun _ _ => rfl, hK _ ?_⟩
  clear hK K
  refine takeNs (KB_refl _) 4 rfl (by kernel_rfl) (by kernel_rfl) (by kernel_rfl) rfl (fun _ _ _ _ h => h) rfl (fun K hK => ?_)
  go_big_quiet_op
  first | refine hK _ ?_ | refine ⟨_, fun _ _ => rfl, hK _ ?_⟩
  clear hK K
  refine takeLs (KB_refl _) (KB_trans _) 5 [6, 8, 11] rfl (by kernel_rfl) (by kernel_rfl) (by kernel_rfl) (by kernel_rfl) rfl (fun _ _ _ _ h => h) rfl (fun K hK => ?_)
  refine quiet_cell _ _ rfl _ rfl _ _ Try.underlying56 rfl (fun W' h => KeepB.cell h HK2.out hbl) ?_
  refine hK _ ?_
  simp only [Act.put, List.setIfInBounds_toArray, List.set_cons_succ, List.set_cons_zero]
  clear hK K
  refine stepLs 2 rfl (by kernel_rfl) rfl (fun K hK => ?_)
  go_simp
  refine (CloneH tr hs w0 F (HX.out.holds hF hh) (fun b hb => Nat.lt_of_lt_of_le (hF b hb) HX.out.size) hlen2).mono ?_
  rintro e w1 ⟨t1, rfl, ho1, hf1⟩
  have hx1 := hf1.ext
  have hn1 : ∀ b, t1.ownBlock = some b → w.heap.size + 2 ≤ b := fun b hb => Nat.le_trans hsz (Fresh.new hf1 b hb)
  have hb1 := HB1.out.keep hx1 (by simp)
  have hb2 := HB2.out.keep hx1 (by simp)
  refine hK _ _ (fun _ b hb => hx1.block b (Nat.lt_of_lt_of_le hb hsz) (by simp)) ?_
  clear hK K
  refine takeNs (KB_refl _) 7 rfl (by kernel_rfl) (by kernel_rfl) (by kernel_rfl) rfl (fun _ _ _ _ h => h) rfl (fun K hK => ?_)
  go_big_quiet_op
  first | refine hK _ ?_ | refine ⟨_, fun _ _ => rfl, hK _ ?_⟩
  clear hK K
  refine stepLs 6 rfl (by kernel_rfl) rfl (fun K hK => ?_)
  go_simp
  refine (CloneD u ds w1 F ((HX.out.trans hx1).holds hF hc) (fun b hb => Nat.lt_of_lt_of_le (hF b hb) (HX.out.trans hx1).size) hlen).mono ?_
  rintro e w2 ⟨v2, rfl, ho2, hf2⟩
  have hx2 := hf2.ext
  have hn2 : ∀ b, v2.ownBlock = some b → w.heap.size + 2 ≤ b := fun b hb => Nat.le_trans (Nat.le_trans hsz hx1.size) (Fresh.new hf2 b hb)
  have hb1 := hb1.keep hx2 (by simp)
  have hb2 := hb2.keep hx2 (by simp)
  have ho1 := ho1.ext hx2
  have hxx := (HX.out.trans hx1).trans hx2
  obtain ⟨A1, c1, hv1⟩ := Own.form ho1.2
  obtain ⟨A2, c2, hv2⟩ := Own.form ho2.2
  refine hK _ _ (fun _ b hb => hx2.block b (Nat.lt_of_lt_of_le hb (Nat.le_trans hsz hx1.size)) (by simp)) ?_
  clear hK K
  have HO1 := Lib.hid ho1
  have HO2 := Lib.hid ho2
  have HXX := Lib.hid hxx
  have HBA := Lib.hid hb1
  have HBB := Lib.hid hb2
  have s9 : w2.cell? ⟨w.heap.size, 42, none⟩ = some tr := (hb1.cell 42).trans HI42.out
  have f9 : w2.frozen? ⟨w.heap.size, 42, none⟩ = false := hb1.free 42
  clear ho1 ho2 hxx hb1 hb2
  subst hv1 hv2
  obtain rfl := HTR.out
  refine stepLs 8 rfl (by kernel_rfl) rfl (fun K hK => ?_)
  go_simp
  refine hK _ _ (fun h => absurd (by decide) h) ?_
  clear hK K
  refine takeNs (KB_refl _) 9 rfl (by kernel_rfl) (by kernel_rfl) (by kernel_rfl) rfl (fun _ _ _ _ h => h) rfl (fun K hK => ?_)
  go_big_quiet_op
  first | refine hK _ ?_ | refine ⟨_, fun _ _ => rfl, hK _ ?_⟩
  clear hK K
  refine takeNs (KB_refl _) 10 rfl (by kernel_rfl) (by kernel_rfl) (by kernel_rfl) rfl (fun _ _ _ _ h => h) rfl (fun K hK => ?_)
  go_big_quiet_op
  first | refine hK _ ?_ | refine ⟨_, fun _ _ => rfl, hK _ ?_⟩
  clear hK K
  have hb5 := HBA.out.set 42 (.slice A1 (List.length (α := Hp) hs) c1)
  have s8 := (hb5.cell 1068).trans (show (IN.set 42 (.slice A1 (List.length (α := Hp) hs) c1))[1068]? = some u by rw [List.getElem?_set_ne (by decide)]; exact HI68.out)
  have f8 := hb5.free 1068
  obtain rfl := HU.out
  refine stepLs 11 rfl (by kernel_rfl) rfl (fun K hK => ?_)
  go_simp
  refine hK _ _ (fun h => absurd (by decide) h) ?_
  clear hK K
  refine doneLs (by kernel_rfl) ?_ _
  have hb6 := hb5.set 1068 (.slice A2 (List.length (α := Dg) ds) c2)
  rw [HSET.out] at hb6
  have hz6 : Blk ((w2.setCell ⟨w.heap.size, 42, none⟩ (.slice A1 (List.length (α := Hp) hs) c1)).setCell ⟨w.heap.size, 1068, none⟩ (.slice A2 (List.length (α := Dg) ds) c2)) (w.heap.size + 1) 60 ZR := (HBB.out.keep (only_set 42 _) (by simp)).keep (only_set 1068 _) (by simp)
  have hms := HMO.out _ _ A1 c1 A2 c2 rfl rfl
  have hml := HML.out (.slice A1 (List.length (α := Hp) hs) c1) (.slice A2 (List.length (α := Dg) ds) c2)
  have hx6 : Ext w ((w2.setCell ⟨w.heap.size, 42, none⟩ (.slice A1 (List.length (α := Hp) hs) c1)).setCell ⟨w.heap.size, 1068, none⟩ (.slice A2 (List.length (α := Dg) ds) c2)) := (HXX.out.setCell (Nat.le_refl _) _).setCell (Nat.le_refl _) _
  have ho6 : OwnH 64 ((w2.setCell ⟨w.heap.size, 42, none⟩ (.slice A1 (List.length (α := Hp) hs) c1)).setCell ⟨w.heap.size, 1068, none⟩ (.slice A2 (List.length (α := Dg) ds) c2)) (.slice A1 (List.length (α := Hp) hs) c1) hs := ⟨HO1.out.1, (HO1.out.2.keep (row := some w.heap.size) (only_set 42 _) (farM (fun b hb => by have := hn1 b hb; omega))).keep (row := some w.heap.size) (only_set 1068 _) (farM (fun b hb => by have := hn1 b hb; omega))⟩
  have hp6 : OwnD 90 ((w2.setCell ⟨w.heap.size, 42, none⟩ (.slice A1 (List.length (α := Hp) hs) c1)).setCell ⟨w.heap.size, 1068, none⟩ (.slice A2 (List.length (α := Dg) ds) c2)) (.slice A2 (List.length (α := Dg) ds) c2) ds := ⟨HO2.out.1, (HO2.out.2.keep (row := some w.heap.size) (only_set 42 _) (farM (fun b hb => by have := hn2 b hb; omega))).keep (row := some w.heap.size) (only_set 1068 _) (farM (fun b hb => by have := hn2 b hb; omega))⟩
  generalize ((w2.setCell ⟨w.heap.size, 42, none⟩ (.slice A1 (List.length (α := Hp) hs) c1)).setCell ⟨w.heap.size, 1068, none⟩ (.slice A2 (List.length (α := Dg) ds) c2)) = W6 at *
  obtain ⟨M, hM⟩ : ∃ M, M = memoC kind ch rd OC (.slice A1 (List.length (α := Hp) hs) c1) (sigC C key (.slice A2 (List.length (α := Dg) ds) c2)) := ⟨_, rfl⟩
  rw [← hM] at hb6 hms hml
  have hcm := hb6.cells
  have HM := Lib.hid hM
  have HMLN := Lib.hid hml
  have HX6 := Lib.hid hx6
  have HO6 := Lib.hid ho6
  have HP6 := Lib.hid hp6
  have HZ6 := Lib.hid hz6
  clear hM hml hx6 ho6 hp6 hz6 hb6 hb5 s8 f8 s9 f9
  go_wp2_with (first
    | (refine wpList_load_agg _ rfl 60 (.tmp 1) rfl _ rfl M _ Try.underlying60 rfl (szMemo HMLN.out) hcm ?_)
    | (refine wpList_store_row _ rfl 60 (.tmp 2) (.tmp 13) rfl (w.heap.size + 1) rfl ZR M _ rfl HZ6.out (szMemo HMLN.out) (by rw [HMLN.out, HZL.out]) hms ?_)
    | fail)
  have hc9 := Blk.cells (t := 60) (setRow_at (cs' := M.toArray) HZ6.out)
  (try simp only [Exit.inBlock, Exit.then])
  refine bodyPost_ret (results_agg rfl _ _ _ _ _ rfl Try.underlying60 rfl (szMemo HMLN.out) hc9) rfl ?_
  exact ⟨_, _, by rw [HM.out], ⟨HO6.out.1, HO6.out.2.keep (row := some (w.heap.size + 1)) (setRow_only _) (farM (fun b hb => by have := hn1 b hb; omega))⟩, ⟨HP6.out.1, HP6.out.2.keep (row := some (w.heap.size + 1)) (setRow_only _) (farM (fun b hb => by have := hn2 b hb; omega))⟩, grown_then HX6.out (setRow_only _) (.inr (by rintro b ⟨⟩; omega))⟩
end
end Go.Proofs.Ytemladlnpaaefaa

/- Walk of the law PactTurns. Conditions: the numbers are in their bounds. -/
import Derived.Test.YtnpolfihbfdggaaPTo12
import Derived.Test.YtnpolfihbfdggaaPLocks
set_option linter.unusedVariables false
set_option linter.unusedSimpArgs false
set_option linter.unnecessarySimpa false
namespace Go.Proofs.Ytnpolfihbfdggaa
open Go.RowKit

theorem shared1 {Q : Prop} {A : World → Prop} (J : World → Prop) (h1 : (∀ w, J w → A w) → Q) (h2 : ∀ w, J w → A w) : Q := h1 h2
/-- A call of Next, whose state lies in a row of its own. -/
abbrev NextJ (Z XC PC DC : List Value) (v : Value) (cs : List Cd) (b : Int) (n : St) (z : Int) : Prop := ∀ (w0 : World) (al : Option Nat) (W : World), OwnC w0 v cs → NJ w0 Z al W (.slice none 0 0) [] → Calls Try.prog 11 #[.agg XC.toArray, .agg PC.toArray, .int .i64 b, .agg DC.toArray] W fun e w' => ∃ (R : List Value) (v2 : Value), e = .returned (.tuple #[.agg R.toArray, .int .i64 z]) ∧ R = stc n v2 ∧
      NJ w0 Z al w' v2 n.cs ∧ KeepB (fun b => b < w0.heap.size) W w'
set_option maxRecDepth 100000 in
set_option maxHeartbeats 2000000 in
theorem TurnsLong (w : World) (SC PC OC : List Value) (A : Option Addr) (n c : Nat) (h40 : 40 < n) (s4 : SC[6]? = some (.slice A n c)) :
    Calls Try.prog 5 #[.agg SC.toArray, .agg PC.toArray, .agg OC.toArray] w fun e w' => e = .returned (.bool true) ∧ Ext w w' := by
  have hb0 : Blk (((w.alloc (.cells SC.toArray 27)).alloc (.cells PC.toArray 24)).alloc (.cells OC.toArray 32)) w.heap.size 27 SC := (Blk.new _ _ _).keep (((Ext.refl _).alloc _).alloc _) (by simp)
  have c6 := (hb0.cell 6).trans s4
  clear hb0
  go_enter Try.func5, Try.ntmps5
  go_wp2_with (first
    | (go_at_call 9; refine (Awake _).mono ?_; rintro e w9 ⟨rfl, hx9⟩)
    | fail)
  go_ret
  exact ⟨rfl, (((((Ext.refl w).alloc _).alloc _).alloc _)).trans hx9⟩
structure TurnsIn (PC OC DC Z : List Value) (b : Int) (rd r1 r2 : Nat) : Prop where
  z : (Try.prog.info? 36).bind (fun i => i.zero.map (·.cells)) = some Z.toArray
  pl : PC.length = 2
  dl : DC.length = 39
  zl : Z.length = 7
  op : ∀ W, Calls Try.prog 12 #[.agg DC.toArray] W fun e w' => e = .returned (.agg DC.toArray) ∧ Ext W w'
  set : OC.set 3 (.int .i64 b) = DC
  o3 : ∃ v, OC[3]? = some v
  t1 : ∀ W, Calls Try.prog 17 #[.int .u64 (r1 : Int)] W fun e w' => e = .returned (.int .i64 b) ∧ W = w'
  t2 : ∀ W, Calls Try.prog 17 #[.int .u64 (r2 : Int)] W fun e w' => e = .returned (.int .i64 (1 - b)) ∧ W = w'
  t0 : ∀ W, Calls Try.prog 17 #[.int .u64 (rd : Int)] W fun e w' => e = .returned (.int .i64 (1 - b)) ∧ W = w'
  w1 : IntKind.u64.wrap ((rd : Int) + 1) = (r1 : Int)
  w2 : IntKind.u64.wrap ((rd : Int) + 2) = (r2 : Int)
set_option maxRecDepth 100000 in
set_option maxHeartbeats 4000000 in
theorem Turns1 (b : Int) (hb : b = 0 ∨ b = 1) (w : World) (SC PC OC DC Z : List Value) (A : Option Addr) (len c ch rd r1 r2 : Nat) (s : St) (n n2 : St) (z z2 : Int) (h40 : len ≤ 40) (s4 : SC[6]? = some (.slice A len c)) (hin : TurnsIn PC OC DC Z b rd r1 r2)
    (hto : ∀ W, Ext w W → Calls Try.prog 10 #[.agg SC.toArray] W fun e w' => ∃ v', e = .returned (.agg (stc s v').toArray) ∧ OwnC w' v' s.cs ∧ Ext W w' ∧ ∀ b, v'.ownBlock = some b → W.heap.size ≤ b)
    (hch : s.chan = ch) (hrd : s.round = rd) (hsl : SC.length = 7)
    (hnx : ∀ v, NextJ Z (stc s v) PC DC v s.cs b n z) (hnx2 : ∀ v, NextJ Z (stc s v) PC DC v s.cs (1 - b) n2 z2)
    (hok : z = 0 → n.round = r1 ∧ n.chan = ch ∧ z2 = 26) (hz2 : z2 ≠ 0) :
    Calls Try.prog 5 #[.agg SC.toArray, .agg PC.toArray, .agg OC.toArray] w fun e w' => e = .returned (.bool true) ∧ Ext w w' := by
  have hz := hin.z
  have HPL := Lib.hid hin.pl
  have HDL := Lib.hid hin.dl
  have HZL := Lib.hid hin.zl
  have HSL := Lib.hid hsl
  have HOP := Lib.hid hin.op
  have HSET := Lib.hid hin.set
  have HT1 := Lib.hid hin.t1
  have HT2 := Lib.hid hin.t2
  have HT0 := Lib.hid hin.t0
  have hw1 := hin.w1
  have hw2 := hin.w2
  obtain ⟨v3, ho3⟩ := hin.o3
  have HO3 := Lib.hid ho3
  have ho1 := fun W => Other b W (by omega) (by omega)
  have ho2 := fun W => Other (1 - b) W (by omega) (by omega)
  have e2 : 1 - (1 - b) = b := by omega
  rw [e2] at ho2
  have HO1 := Lib.hid ho1
  have HO2 := Lib.hid ho2
  have HNX := Lib.hid hnx
  have HNX2 := Lib.hid hnx2
  have HOK := Lib.hid hok
  have HTO := Lib.hid hto
  have HZ2 := Lib.hid hz2
  have HCH := Lib.hid hch
  have HRD := Lib.hid hrd
  have hb0 : Blk (((w.alloc (.cells SC.toArray 27)).alloc (.cells PC.toArray 24)).alloc (.cells OC.toArray 32)) w.heap.size 27 SC := (Blk.new _ _ _).keep (((Ext.refl _).alloc _).alloc _) (by simp)
  have hb1 : Blk (((w.alloc (.cells SC.toArray 27)).alloc (.cells PC.toArray 24)).alloc (.cells OC.toArray 32)) (w.heap.size + 1) 24 PC := (Blk.new_at (by simp) _ _).keep ((Ext.refl _).alloc _) (by simp)
  have hb2 : Blk (((w.alloc (.cells SC.toArray 27)).alloc (.cells PC.toArray 24)).alloc (.cells OC.toArray 32)) (w.heap.size + 2) 32 OC := Blk.new_at (by simp) _ _
  have hx0 : Ext w (((w.alloc (.cells SC.toArray 27)).alloc (.cells PC.toArray 24)).alloc (.cells OC.toArray 32)) := (((Ext.refl w).alloc _).alloc _).alloc _
  have c6 := (hb0.cell 6).trans s4
  have hcs := hb0.cells
  have HB1 := Lib.hid hb1
  have HB2 := Lib.hid hb2
  have HX0 := Lib.hid hx0
  clear hin ho1 ho2 e2 hnx hnx2 hok hto hz2 hch hrd hb0 hb1 hb2 hx0 ho3 hsl
  rcases hb with rfl | rfl
  · go_enter Try.func5, Try.ntmps5
    go_wp2_with (first
      | (refine wpList_load_agg _ rfl 27 (.tmp 3) rfl _ rfl SC _ Try.underlying27 rfl (szSFrom HSL.out) hcs ?_)
      | fail)
    refine (HTO.out _ HX0.out).mono ?_
    rintro e w1 ⟨v, rfl, hov, hx1, hvo⟩
    have hxl : (stc s v).length = 7 := rfl
    have hxo : ∀ u ∈ stc s v, u.oneCell' = true := by obtain ⟨A2, c2, h⟩ := hov.form; rw [h]; exact stc_one _ _ _ _
    have x1 : (stc s v)[1]? = some (.int .u64 (rd : Int)) := by rw [← HRD.out]; rfl
    have x0 : (stc s v)[0]? = some (.int .u32 (ch : Int)) := by rw [← HCH.out]; rfl
    have hnx := HNX.out v
    have hnx2 := HNX2.out v
    generalize stc s v = XC at *
    have HXL := Lib.hid hxl
    have hbx : Blk (w1.alloc (.cells XC.toArray 36)) w1.heap.size 36 XC := Blk.new _ _ _
    have hb1 : Blk (w1.alloc (.cells XC.toArray 36)) (w.heap.size + 1) 24 PC := (HB1.out.keep hx1 (by simp)).keep ((Ext.refl _).alloc _) (by simp)
    have hb2 : Blk (w1.alloc (.cells XC.toArray 36)) (w.heap.size + 2) 32 OC := (HB2.out.keep hx1 (by simp)).keep ((Ext.refl _).alloc _) (by simp)
    have hx2 : Ext w (w1.alloc (.cells XC.toArray 36)) := (HX0.out.trans hx1).alloc _
    have hov2 : OwnC (w1.alloc (.cells XC.toArray 36)) v s.cs := hov.ext ((Ext.refl _).alloc _)
    have hg7 : w.heap.size + 3 ≤ w1.heap.size := by have h1 := HB2.out.lt; have h2 := hx1.size; omega
    have hvo : ∀ b, v.ownBlock = some b → w.heap.size + 3 ≤ b := fun b hb => by have h1 := hvo b hb; simp at h1; omega
    have HVO := Lib.hid hvo
    have hvn : ∀ b, v.ownBlock = some b → b < w1.heap.size := hov.lt
    have d1 := (hbx.cell 1).trans x1
    have HBX := Lib.hid hbx
    have HB1 := Lib.hid hb1
    have HB2 := Lib.hid hb2
    have HX2 := Lib.hid hx2
    have HOV := Lib.hid hov2
    have HVN := Lib.hid hvn
    have HN1 := Lib.hid hnx
    have HN2 := Lib.hid hnx2
    clear hxl hbx hb1 hb2 hx2 hov2 hov hx1 hvn hvo hnx hnx2 hcs c6
    go_wp2_with (first
      | (go_at_call 17; refine (HT1.out _).mono ?_; rintro e _ ⟨rfl, rfl⟩)
      | (refine wpList_alloc _ rfl 36 rfl _ hz ?_)
      | (refine wpList_store_new _ rfl 36 (.tmp 7) (.tmp 19) rfl rfl Z XC _ rfl (state_size HXL.out) (by rw [HXL.out, HZL.out]) hxo ?_)
      | fail)
    refine startM Since (by kernel_rfl) ?_
    have d1 : (w1.alloc (.cells XC.toArray 36)).drew.cell? ⟨w1.heap.size, 1, none⟩ = some (.int .u64 (rd : Int)) := d1
    have hbx : Blk (w1.alloc (.cells XC.toArray 36)).drew w1.heap.size 36 XC := HBX.out
    have hb1 : Blk (w1.alloc (.cells XC.toArray 36)).drew (w.heap.size + 1) 24 PC := HB1.out
    have hb2 : Blk (w1.alloc (.cells XC.toArray 36)).drew (w.heap.size + 2) 32 OC := HB2.out
    have hx2 : Ext w (w1.alloc (.cells XC.toArray 36)).drew := HX2.out.drew
    have hov2 : OwnC (w1.alloc (.cells XC.toArray 36)).drew v s.cs := HOV.out.ext (Ext.refl _).drew
    generalize (w1.alloc (.cells XC.toArray 36)).drew = w0 at *
    generalize w1.heap.size = g7 at *
    have c3 := (hb2.cell 3).trans HO3.out
    have f3 := hb2.free 3
    have HBX := Lib.hid hbx
    have HB1 := Lib.hid hb1
    have HB2 := Lib.hid hb2
    have HX2 := Lib.hid hx2
    have HOV := Lib.hid hov2
    clear hbx hb1 hb2 hx2 hov2
    apply shared1 (fun W => w0 = W)
    · intro hM
      refine takeE 0 rfl (by kernel_rfl) (by kernel_rfl) (by kernel_rfl) rfl (fun _ _ _ _ h => h) rfl (fun K hK => ?_)
      go_big_quiet_op
      first | refine hK _ ?_ | refine ⟨_, fun _ _ => rfl, hK _ ?_⟩
      clear hK K
      refine takeE 1 rfl (by kernel_rfl) (by kernel_rfl) (by kernel_rfl) rfl (fun _ _ _ _ h => h) rfl (fun K hK => ?_)
      go_big_quiet_op
      first | refine hK _ ?_ | refine ⟨_, fun _ _ => rfl, hK _ ?_⟩
      clear hK K
      refine takeE 2 rfl (by kernel_rfl) (by kernel_rfl) (by kernel_rfl) rfl (fun _ _ _ _ h => h) rfl (fun K hK => ?_)
      refine quiet_cell _ _ rfl _ rfl _ _ Try.underlying23 rfl (fun W' h => World.grownBy.cell h.ext d1 (by simp)) ?_
      refine hK _ ?_
      simp only [Act.put, List.setIfInBounds_toArray, List.set_cons_succ, List.set_cons_zero]
      clear hK K
      refine takeE 3 rfl (by kernel_rfl) (by kernel_rfl) (by kernel_rfl) rfl (fun _ _ _ _ h => h) rfl (fun K hK => ?_)
      go_big_quiet_op
      first | refine hK _ ?_ | refine ⟨_, fun _ _ => rfl, hK _ ?_⟩
      clear hK K
      refine stepM 4 rfl (by kernel_rfl) rfl (fun K hK => ?_)
      go_simp
      refine (HT2.out _).mono ?_
      rintro e _ ⟨rfl, rfl⟩
      refine hK _ _ (Ext.refl _) ?_
      clear hK K
      refine takeE 5 rfl (by kernel_rfl) (by kernel_rfl) (by kernel_rfl) rfl (fun _ _ _ _ h => h) rfl (fun K hK => ?_)
      go_big_quiet_op
      first | refine hK _ ?_ | refine ⟨_, fun _ _ => rfl, hK _ ?_⟩
      clear hK K
      refine takeE 6 rfl (by kernel_rfl) (by kernel_rfl) (by kernel_rfl) rfl (fun _ _ _ _ h => h) rfl (fun K hK => ?_)
      go_big_quiet_op
      first | refine hK _ ?_ | refine ⟨_, fun _ _ => rfl, hK _ ?_⟩
      clear hK K
      refine takeE 7 rfl (by kernel_rfl) (by kernel_rfl) (by kernel_rfl) rfl (fun _ _ _ _ h => h) rfl (fun K hK => ?_)
      go_big_quiet_op
      first | refine hK _ ?_ | refine ⟨_, fun _ _ => rfl, hK _ ?_⟩
      clear hK K
      refine takeE 9 rfl (by kernel_rfl) (by kernel_rfl) (by kernel_rfl) rfl (fun _ _ _ _ h => h) rfl (fun K hK => ?_)
      go_big_quiet_op
      first | refine hK _ ?_ | refine ⟨_, fun _ _ => rfl, hK _ ?_⟩
      clear hK K
      refine takeE 10 rfl (by kernel_rfl) (by kernel_rfl) (by kernel_rfl) rfl (fun _ _ _ _ h => h) rfl (fun K hK => ?_)
      refine quiet_cell _ _ rfl _ rfl _ _ Try.underlying23 rfl (fun W' h => World.grownBy.cell h.ext d1 (by simp)) ?_
      refine hK _ ?_
      simp only [Act.put, List.setIfInBounds_toArray, List.set_cons_succ, List.set_cons_zero]
      clear hK K
      refine stepM 8 rfl (by kernel_rfl) rfl (fun K hK => ?_)
      go_simp
      refine (HO1.out _).mono ?_
      rintro e _ ⟨rfl, rfl⟩
      refine hK _ _ (Ext.refl _) ?_
      clear hK K
      refine stepM 11 rfl (by kernel_rfl) rfl (fun K hK => ?_)
      go_simp
      refine (HT0.out _).mono ?_
      rintro e _ ⟨rfl, rfl⟩
      refine hK _ _ (Ext.refl _) ?_
      clear hK K
      refine takeE 12 rfl (by kernel_rfl) (by kernel_rfl) (by kernel_rfl) rfl (fun _ _ _ _ h => h) rfl (fun K hK => ?_)
      go_big_quiet_op
      first | refine hK _ ?_ | refine ⟨_, fun _ _ => rfl, hK _ ?_⟩
      clear hK K
      refine takeE 13 rfl (by kernel_rfl) (by kernel_rfl) (by kernel_rfl) rfl (fun _ _ _ _ h => h) rfl (fun K hK => ?_)
      go_big_quiet_op
      first | refine hK _ ?_ | refine ⟨_, fun _ _ => rfl, hK _ ?_⟩
      clear hK K
      refine takeE 14 rfl (by kernel_rfl) (by kernel_rfl) (by kernel_rfl) rfl (fun _ _ _ _ h => h) rfl (fun K hK => ?_)
      go_big_quiet_op
      first | refine hK _ ?_ | refine ⟨_, fun _ _ => rfl, hK _ ?_⟩
      clear hK K
      refine takeE 15 rfl (by kernel_rfl) (by kernel_rfl) (by kernel_rfl) rfl (fun _ _ _ _ h => h) rfl (fun K hK => ?_)
      go_big_quiet_op
      first | refine hK _ ?_ | refine ⟨_, fun _ _ => rfl, hK _ ?_⟩
      clear hK K
      refine takeE 18 rfl (by kernel_rfl) (by kernel_rfl) (by kernel_rfl) rfl (fun _ _ _ _ h => h) rfl (fun K hK => ?_)
      go_big_quiet_op
      first | refine hK _ ?_ | refine ⟨_, fun _ _ => rfl, hK _ ?_⟩
      clear hK K
      refine stepM 16 rfl (by kernel_rfl) rfl (fun K hK => ?_)
      go_simp
      refine (HO1.out _).mono ?_
      rintro e _ ⟨rfl, rfl⟩
      refine hK _ _ (Ext.refl _) ?_
      clear hK K
      refine stepM 17 rfl (by kernel_rfl) rfl (fun K hK => ?_)
      go_simp
      refine (HO2.out _).mono ?_
      rintro e _ ⟨rfl, rfl⟩
      refine hK _ _ (Ext.refl _) ?_
      clear hK K
      refine takeE 19 rfl (by kernel_rfl) (by kernel_rfl) (by kernel_rfl) rfl (fun _ _ _ _ h => h) rfl (fun K hK => ?_)
      go_big_quiet_op
      first | refine hK _ ?_ | refine ⟨_, fun _ _ => rfl, hK _ ?_⟩
      clear hK K
      refine takeE 20 rfl (by kernel_rfl) (by kernel_rfl) (by kernel_rfl) rfl (fun _ _ _ _ h => h) rfl (fun K hK => ?_)
      go_big_quiet_op
      first | refine hK _ ?_ | refine ⟨_, fun _ _ => rfl, hK _ ?_⟩
      clear hK K
      exact hM w0 rfl
    intro W hW
    subst hW
    refine doneM (by kernel_rfl) ?_ _
    go_wp2
    have hx3 : Ext w (w0.setCell ⟨w.heap.size + 1 + 1, 3, none⟩ (.int .i64 0)).drew := (HX2.out.setCell (by simp; omega) _).drew
    have hbx : Blk (w0.setCell ⟨w.heap.size + 1 + 1, 3, none⟩ (.int .i64 0)) g7 36 XC := HBX.out.keep (only_set 3 _) (by simp; omega)
    have hb1 : Blk (w0.setCell ⟨w.heap.size + 1 + 1, 3, none⟩ (.int .i64 0)) (w.heap.size + 1) 24 PC := HB1.out.keep (only_set 3 _) (by simp)
    have hb2 : Blk (w0.setCell ⟨w.heap.size + 1 + 1, 3, none⟩ (.int .i64 0)) (w.heap.size + 2) 32 DC := by have h := HB2.out.set 3 (.int .i64 0); rw [HSET.out] at h; exact h
    have hov2 : OwnC (w0.setCell ⟨w.heap.size + 1 + 1, 3, none⟩ (.int .i64 0)) v s.cs := HOV.out.keep (only_set 3 _) (fun b hb e => by have h1 := HVO.out b hb; cases e; omega)
    have hbx : Blk (w0.setCell ⟨w.heap.size + 1 + 1, 3, none⟩ (.int .i64 0)).drew g7 36 XC := hbx
    have hb1 : Blk (w0.setCell ⟨w.heap.size + 1 + 1, 3, none⟩ (.int .i64 0)).drew (w.heap.size + 1) 24 PC := hb1
    have hb2 : Blk (w0.setCell ⟨w.heap.size + 1 + 1, 3, none⟩ (.int .i64 0)).drew (w.heap.size + 2) 32 DC := hb2
    have hov2 : OwnC (w0.setCell ⟨w.heap.size + 1 + 1, 3, none⟩ (.int .i64 0)).drew v s.cs := hov2.ext (Ext.refl _).drew
    refine startM (KeepB fun b => b < (w0.setCell ⟨w.heap.size + 1 + 1, 3, none⟩ (.int .i64 0)).drew.heap.size) (by kernel_rfl) ?_
    generalize (w0.setCell ⟨w.heap.size + 1 + 1, 3, none⟩ (.int .i64 0)).drew = w0 at *
    have hcx := hbx.cells
    have hcp := hb1.cells
    have hco := hb2.cells
    have HBX := Lib.hid hbx
    have HBP := Lib.hid hb1
    have HBO := Lib.hid hb2
    have HCX := Lib.hid hcx
    have HCP := Lib.hid hcp
    have HCO := Lib.hid hco
    have HOX := Lib.hid hov2
    have HX3 := Lib.hid hx3
    have hJ := NJ.start w0 Z
    have HJ := Lib.hid hJ
    clear hbx hb1 hb2 hcx hcp hco hov2 hx3 hJ HB1 HB2 HX2 HOV d1 c3 f3
    apply sharedL (fun g R W => ∃ v2, R = stc n v2 ∧ NJ w0 Z (some g) W v2 n.cs)
    · intro hM
      refine takeK 0 rfl (by kernel_rfl) (by kernel_rfl) (by kernel_rfl) rfl (fun _ _ _ _ h => h) rfl (fun K hK => ?_)
      refine quiet_agg 36 (.tmp 7) rfl _ rfl XC _ Try.underlying36 rfl (state_size HXL.out) (fun W' h => KeepB.cells h HCX.out (HBX.out.lt)) ?_
      refine hK _ ?_
      simp only [Act.put, List.setIfInBounds_toArray, List.set_cons_succ, List.set_cons_zero]
      clear hK K
      refine takeK 1 rfl (by kernel_rfl) (by kernel_rfl) (by kernel_rfl) rfl (fun _ _ _ _ h => h) rfl (fun K hK => ?_)
      refine quiet_agg 24 (.tmp 4) rfl _ rfl PC _ Try.underlying24 rfl (by rw [HPL.out]; kernel_rfl) (fun W' h => KeepB.cells h HCP.out (HBP.out.lt)) ?_
      refine hK _ ?_
      simp only [Act.put, List.setIfInBounds_toArray, List.set_cons_succ, List.set_cons_zero]
      clear hK K
      refine takeK 2 rfl (by kernel_rfl) (by kernel_rfl) (by kernel_rfl) rfl (fun _ _ _ _ h => h) rfl (fun K hK => ?_)
      go_big_quiet_op
      first | refine hK _ ?_ | refine ⟨_, fun _ _ => rfl, hK _ ?_⟩
      clear hK K
      refine takeK 3 rfl (by kernel_rfl) (by kernel_rfl) (by kernel_rfl) rfl (fun _ _ _ _ h => h) rfl (fun K hK => ?_)
      refine quiet_agg 32 (.tmp 5) rfl _ rfl DC _ Try.underlying32 rfl (rop_size HDL.out) (fun W' h => KeepB.cells h HCO.out (HBO.out.lt)) ?_
      refine hK _ ?_
      simp only [Act.put, List.setIfInBounds_toArray, List.set_cons_succ, List.set_cons_zero]
      clear hK K
      refine bothM 4 9 rfl rfl (by kernel_rfl) rfl rfl (fun K hK => ?_) (fun K hK => ?_)
      · go_simp
        refine (HOP.out _).mono ?_
        rintro e w6 ⟨rfl, hx6⟩
        have HJ := Lib.hid (HJ.out.step hx6)
        have hkb := HJ.out.2
        have HJ := Lib.hid HJ.out.1
        refine hK _ _ (hkb) ?_
        clear hK K
        refine bothM 5 9 rfl rfl (by kernel_rfl) rfl rfl (fun K hK => ?_) (fun K hK => ?_)
        · go_simp
          refine (HN1.out w0 _ _ HOX.out HJ.out).mono ?_
          rintro e w7 ⟨R, v2, rfl, hR, hJ, hkb2⟩
          have HJ := Lib.hid hJ
          clear hJ
          have HRR := Lib.hid hR
          clear hR
          refine hK _ _ (hkb2) ?_
          clear hK K
          refine takeK 6 rfl (by kernel_rfl) (by kernel_rfl) (by kernel_rfl) rfl (fun _ _ _ _ h => h) rfl (fun K hK => ?_)
          go_big_quiet_op
          first | refine hK _ ?_ | refine ⟨_, fun _ _ => rfl, hK _ ?_⟩
          clear hK K
          refine takeK 7 rfl (by kernel_rfl) (by kernel_rfl) (by kernel_rfl) rfl (fun _ _ _ _ h => h) rfl (fun K hK => ?_)
          go_big_quiet_op
          first | refine hK _ ?_ | refine ⟨_, fun _ _ => rfl, hK _ ?_⟩
          clear hK K
          refine takeK 8 rfl (by kernel_rfl) (by kernel_rfl) (by kernel_rfl) rfl (fun _ _ _ _ h => h) rfl (fun K hK => ?_)
          go_big_quiet_op
          first | refine hK _ ?_ | refine ⟨_, fun _ _ => rfl, hK _ ?_⟩
          clear hK K
          refine stepM 9 rfl (by kernel_rfl) rfl (fun K hK => ?_)
          refine wp_alloc_agg 36 rfl Z hz ?_
          refine hK _ _ (HJ.out.keepAlloc _) ?_
          clear hK K
          (try simp only [Act.put, List.setIfInBounds_toArray, List.set_cons_succ, List.set_cons_zero])
          have HJ := Lib.hid HJ.out.alloc
          have hJf := HJ.out
          revert hJf
          generalize w7.alloc (.cells Z.toArray 36) = W9
          generalize w7.heap.size = g9
          intro hJf
          exact hM g9 R W9 ⟨v2, HRR.out, hJf⟩
        · refine wp_alloc_agg 36 rfl Z hz ?_
          refine hK _ _ (HJ.out.keepAlloc _) ?_
          clear hK K
          (try simp only [Act.put, List.setIfInBounds_toArray, List.set_cons_succ, List.set_cons_zero])
          have HJ := Lib.hid HJ.out.alloc
          refine stepM 5 rfl (by kernel_rfl) rfl (fun K hK => ?_)
          go_simp
          refine (HN1.out w0 _ _ HOX.out HJ.out).mono ?_
          rintro e w7 ⟨R, v2, rfl, hR, hJ, hkb2⟩
          have HJ := Lib.hid hJ
          clear hJ
          have HRR := Lib.hid hR
          clear hR
          refine hK _ _ (hkb2) ?_
          clear hK K
          refine takeK 6 rfl (by kernel_rfl) (by kernel_rfl) (by kernel_rfl) rfl (fun _ _ _ _ h => h) rfl (fun K hK => ?_)
          go_big_quiet_op
          first | refine hK _ ?_ | refine ⟨_, fun _ _ => rfl, hK _ ?_⟩
          clear hK K
          refine takeK 7 rfl (by kernel_rfl) (by kernel_rfl) (by kernel_rfl) rfl (fun _ _ _ _ h => h) rfl (fun K hK => ?_)
          go_big_quiet_op
          first | refine hK _ ?_ | refine ⟨_, fun _ _ => rfl, hK _ ?_⟩
          clear hK K
          refine takeK 8 rfl (by kernel_rfl) (by kernel_rfl) (by kernel_rfl) rfl (fun _ _ _ _ h => h) rfl (fun K hK => ?_)
          go_big_quiet_op
          first | refine hK _ ?_ | refine ⟨_, fun _ _ => rfl, hK _ ?_⟩
          clear hK K
          refine relist (by kernel_rfl) (hM _ R _ ⟨v2, HRR.out, HJ.out⟩)
      · refine wp_alloc_agg 36 rfl Z hz ?_
        refine hK _ _ (HJ.out.keepAlloc _) ?_
        clear hK K
        (try simp only [Act.put, List.setIfInBounds_toArray, List.set_cons_succ, List.set_cons_zero])
        have HJ := Lib.hid HJ.out.alloc
        refine stepM 4 rfl (by kernel_rfl) rfl (fun K hK => ?_)
        go_simp
        refine (HOP.out _).mono ?_
        rintro e w6 ⟨rfl, hx6⟩
        have HJ := Lib.hid (HJ.out.step hx6)
        have hkb := HJ.out.2
        have HJ := Lib.hid HJ.out.1
        refine hK _ _ (hkb) ?_
        clear hK K
        refine stepM 5 rfl (by kernel_rfl) rfl (fun K hK => ?_)
        go_simp
        refine (HN1.out w0 _ _ HOX.out HJ.out).mono ?_
        rintro e w7 ⟨R, v2, rfl, hR, hJ, hkb2⟩
        have HJ := Lib.hid hJ
        clear hJ
        have HRR := Lib.hid hR
        clear hR
        refine hK _ _ (hkb2) ?_
        clear hK K
        refine takeK 6 rfl (by kernel_rfl) (by kernel_rfl) (by kernel_rfl) rfl (fun _ _ _ _ h => h) rfl (fun K hK => ?_)
        go_big_quiet_op
        first | refine hK _ ?_ | refine ⟨_, fun _ _ => rfl, hK _ ?_⟩
        clear hK K
        refine takeK 7 rfl (by kernel_rfl) (by kernel_rfl) (by kernel_rfl) rfl (fun _ _ _ _ h => h) rfl (fun K hK => ?_)
        go_big_quiet_op
        first | refine hK _ ?_ | refine ⟨_, fun _ _ => rfl, hK _ ?_⟩
        clear hK K
        refine takeK 8 rfl (by kernel_rfl) (by kernel_rfl) (by kernel_rfl) rfl (fun _ _ _ _ h => h) rfl (fun K hK => ?_)
        go_big_quiet_op
        first | refine hK _ ?_ | refine ⟨_, fun _ _ => rfl, hK _ ?_⟩
        clear hK K
        refine relist (by kernel_rfl) (hM _ R _ ⟨v2, HRR.out, HJ.out⟩)
    rintro g R W ⟨v2, hR, hJ⟩
    have hgb := hJ.blk g rfl
    have hrl : R.length = 7 := by rw [hR]; rfl
    have hro : ∀ u ∈ R, u.oneCell' = true := by obtain ⟨A2, c2, h⟩ := hJ.own.form; rw [hR, h]; exact stc_one _ _ _ _
    have HRL := Lib.hid hrl
    have HGB := Lib.hid hgb
    have HJ := Lib.hid hJ
    have HRE := Lib.hid hR
    clear hrl hgb hJ hR
    refine stepM 10 rfl (by kernel_rfl) rfl (fun K hK => ?_)
    refine wp_store_row 36 (.tmp 9) (.tmp 55) rfl g rfl Z R _ rfl HGB.out.2 (state_size HRL.out) (by rw [HRL.out, HZL.out]) hro ?_
    refine hK _ _ (fun b hb => (setRow_only _).block _ (Nat.lt_of_lt_of_le hb HJ.out.ext.size) (by have := HGB.out.1; simp; omega)) ?_
    clear hK K
    (try simp only [Act.put, List.setIfInBounds_toArray, List.set_cons_succ, List.set_cons_zero])
    refine takeK 11 rfl (by kernel_rfl) (by kernel_rfl) (by kernel_rfl) rfl (fun _ _ _ _ h => h) rfl (fun K hK => ?_)
    go_big_quiet_op
    first | refine hK _ ?_ | refine ⟨_, fun _ _ => rfl, hK _ ?_⟩
    clear hK K
    refine doneM (by kernel_rfl) ?_ _
    have hgg : g ≠ g7 := by have := HGB.out.1; have := HBX.out.lt; omega
    have hX8 : Ext w (W.setRow g R.toArray) := grown_then (HX3.out.trans HJ.out.ext) (setRow_only _) (.inr (by rintro b ⟨⟩; have := HGB.out.1; have := HX3.out.size; omega))
    have hR8 : Blk (W.setRow g R.toArray) g 36 R := setRow_at HGB.out.2
    have hbx : Blk (W.setRow g R.toArray) g7 36 XC := (HBX.out.keep HJ.out.ext (by simp)).keep (setRow_only _) (by have := HGB.out.1; have := HBX.out.lt; simp; omega)
    have hb1 : Blk (W.setRow g R.toArray) (w.heap.size + 1) 24 PC := (HBP.out.keep HJ.out.ext (by simp)).keep (setRow_only _) (by have := HGB.out.1; have := HBP.out.lt; simp; omega)
    have hb2 : Blk (W.setRow g R.toArray) (w.heap.size + 2) 32 DC := (HBO.out.keep HJ.out.ext (by simp)).keep (setRow_only _) (by have := HGB.out.1; have := HBO.out.lt; simp; omega)
    have hov2 : OwnC (W.setRow g R.toArray) v s.cs := (HOX.out.ext HJ.out.ext).keep (setRow_only _) (fun b hb e => by have h1 := HOX.out.lt b hb; have := HGB.out.1; cases e; omega)
    have HX8 := Lib.hid hX8
    have HR8 := Lib.hid hR8
    have HBX := Lib.hid hbx
    have HBP := Lib.hid hb1
    have HBO := Lib.hid hb2
    have HOX := Lib.hid hov2
    clear hX8 hR8 hbx hb1 hb2 hov2 HX3 HJ HGB HCX HCP HCO
    generalize W.setRow g R.toArray = V at *
    have x1c : V.cell? ⟨g7, 1, none⟩ = some (.int .u64 (rd : Int)) := (HBX.out.cell 1).trans x1
    have x0c : V.cell? ⟨g7, 0, none⟩ = some (.int .u32 (ch : Int)) := (HBX.out.cell 0).trans x0
    by_cases hz0 : z = 0
    · subst hz0
      obtain ⟨hnr, hnc, hz26⟩ := HOK.out rfl
      have r1c : V.cell? ⟨g, 1, none⟩ = some (.int .u64 (r1 : Int)) := (HR8.out.cell 1).trans (by rw [HRE.out, ← hnr]; rfl)
      have r0c : V.cell? ⟨g, 0, none⟩ = some (.int .u32 (ch : Int)) := (HR8.out.cell 0).trans (by rw [HRE.out, ← hnc]; rfl)
      subst hz26
      clear hnr hnc HOK
      go_wp2
      have hx3 : Ext w V.drew := HX8.out.drew
      have hbx : Blk V.drew g7 36 XC := HBX.out
      have hb1 : Blk V.drew (w.heap.size + 1) 24 PC := HBP.out
      have hb2 : Blk V.drew (w.heap.size + 2) 32 DC := HBO.out
      have hov2 : OwnC V.drew v s.cs := HOX.out.ext (Ext.refl _).drew
      refine startM (KeepB fun b => b < V.drew.heap.size) (by kernel_rfl) ?_
      generalize V.drew = w0 at *
      have hcx := hbx.cells
      have hcp := hb1.cells
      have hco := hb2.cells
      have HBX := Lib.hid hbx
      have HBP := Lib.hid hb1
      have HBO := Lib.hid hb2
      have HCX := Lib.hid hcx
      have HCP := Lib.hid hcp
      have HCO := Lib.hid hco
      have HOX := Lib.hid hov2
      have HX3 := Lib.hid hx3
      have hJ := NJ.start w0 Z
      have HJ := Lib.hid hJ
      clear hbx hb1 hb2 hcx hcp hco hov2 hx3 hJ HR8 HRE HRL hro HX8
      apply sharedL (fun g R W => ∃ v2, R = stc n2 v2 ∧ NJ w0 Z (some g) W v2 n2.cs)
      · intro hM
        refine takeK 0 rfl (by kernel_rfl) (by kernel_rfl) (by kernel_rfl) rfl (fun _ _ _ _ h => h) rfl (fun K hK => ?_)
        refine quiet_agg 36 (.tmp 7) rfl _ rfl XC _ Try.underlying36 rfl (state_size HXL.out) (fun W' h => KeepB.cells h HCX.out (HBX.out.lt)) ?_
        refine hK _ ?_
        simp only [Act.put, List.setIfInBounds_toArray, List.set_cons_succ, List.set_cons_zero]
        clear hK K
        refine takeK 1 rfl (by kernel_rfl) (by kernel_rfl) (by kernel_rfl) rfl (fun _ _ _ _ h => h) rfl (fun K hK => ?_)
        refine quiet_agg 24 (.tmp 4) rfl _ rfl PC _ Try.underlying24 rfl (by rw [HPL.out]; kernel_rfl) (fun W' h => KeepB.cells h HCP.out (HBP.out.lt)) ?_
        refine hK _ ?_
        simp only [Act.put, List.setIfInBounds_toArray, List.set_cons_succ, List.set_cons_zero]
        clear hK K
        refine takeK 2 rfl (by kernel_rfl) (by kernel_rfl) (by kernel_rfl) rfl (fun _ _ _ _ h => h) rfl (fun K hK => ?_)
        go_big_quiet_op
        first | refine hK _ ?_ | refine ⟨_, fun _ _ => rfl, hK _ ?_⟩
        clear hK K
        refine takeK 4 rfl (by kernel_rfl) (by kernel_rfl) (by kernel_rfl) rfl (fun _ _ _ _ h => h) rfl (fun K hK => ?_)
        refine quiet_agg 32 (.tmp 5) rfl _ rfl DC _ Try.underlying32 rfl (rop_size HDL.out) (fun W' h => KeepB.cells h HCO.out (HBO.out.lt)) ?_
        refine hK _ ?_
        simp only [Act.put, List.setIfInBounds_toArray, List.set_cons_succ, List.set_cons_zero]
        clear hK K
        refine bothM 3 10 rfl rfl (by kernel_rfl) rfl rfl (fun K hK => ?_) (fun K hK => ?_)
        · go_simp
          refine (HO1.out _).mono ?_
          rintro e w5 ⟨rfl, hx5⟩
          obtain rfl := hx5
          refine hK _ _ (fun _ _ => rfl) ?_
          clear hK K
          refine bothM 5 10 rfl rfl (by kernel_rfl) rfl rfl (fun K hK => ?_) (fun K hK => ?_)
          · go_simp
            refine (HOP.out _).mono ?_
            rintro e w6 ⟨rfl, hx6⟩
            have HJ := Lib.hid (HJ.out.step hx6)
            have hkb := HJ.out.2
            have HJ := Lib.hid HJ.out.1
            refine hK _ _ (hkb) ?_
            clear hK K
            refine bothM 6 10 rfl rfl (by kernel_rfl) rfl rfl (fun K hK => ?_) (fun K hK => ?_)
            · go_simp
              refine (HN2.out w0 _ _ HOX.out HJ.out).mono ?_
              rintro e w7 ⟨R, v2, rfl, hR, hJ, hkb2⟩
              have HJ := Lib.hid hJ
              clear hJ
              have HRR := Lib.hid hR
              clear hR
              refine hK _ _ (hkb2) ?_
              clear hK K
              refine takeK 7 rfl (by kernel_rfl) (by kernel_rfl) (by kernel_rfl) rfl (fun _ _ _ _ h => h) rfl (fun K hK => ?_)
              go_big_quiet_op
              first | refine hK _ ?_ | refine ⟨_, fun _ _ => rfl, hK _ ?_⟩
              clear hK K
              refine takeK 8 rfl (by kernel_rfl) (by kernel_rfl) (by kernel_rfl) rfl (fun _ _ _ _ h => h) rfl (fun K hK => ?_)
              go_big_quiet_op
              first | refine hK _ ?_ | refine ⟨_, fun _ _ => rfl, hK _ ?_⟩
              clear hK K
              refine takeK 9 rfl (by kernel_rfl) (by kernel_rfl) (by kernel_rfl) rfl (fun _ _ _ _ h => h) rfl (fun K hK => ?_)
              go_big_quiet_op
              first | refine hK _ ?_ | refine ⟨_, fun _ _ => rfl, hK _ ?_⟩
              clear hK K
              refine stepM 10 rfl (by kernel_rfl) rfl (fun K hK => ?_)
              refine wp_alloc_agg 36 rfl Z hz ?_
              refine hK _ _ (HJ.out.keepAlloc _) ?_
              clear hK K
              (try simp only [Act.put, List.setIfInBounds_toArray, List.set_cons_succ, List.set_cons_zero])
              have HJ := Lib.hid HJ.out.alloc
              have hJf := HJ.out
              revert hJf
              generalize w7.alloc (.cells Z.toArray 36) = W9
              generalize w7.heap.size = g9
              intro hJf
              exact hM g9 R W9 ⟨v2, HRR.out, hJf⟩
            · refine wp_alloc_agg 36 rfl Z hz ?_
              refine hK _ _ (HJ.out.keepAlloc _) ?_
              clear hK K
              (try simp only [Act.put, List.setIfInBounds_toArray, List.set_cons_succ, List.set_cons_zero])
              have HJ := Lib.hid HJ.out.alloc
              refine stepM 6 rfl (by kernel_rfl) rfl (fun K hK => ?_)
              go_simp
              refine (HN2.out w0 _ _ HOX.out HJ.out).mono ?_
              rintro e w7 ⟨R, v2, rfl, hR, hJ, hkb2⟩
              have HJ := Lib.hid hJ
              clear hJ
              have HRR := Lib.hid hR
              clear hR
              refine hK _ _ (hkb2) ?_
              clear hK K
              refine takeK 7 rfl (by kernel_rfl) (by kernel_rfl) (by kernel_rfl) rfl (fun _ _ _ _ h => h) rfl (fun K hK => ?_)
              go_big_quiet_op
              first | refine hK _ ?_ | refine ⟨_, fun _ _ => rfl, hK _ ?_⟩
              clear hK K
              refine takeK 8 rfl (by kernel_rfl) (by kernel_rfl) (by kernel_rfl) rfl (fun _ _ _ _ h => h) rfl (fun K hK => ?_)
              go_big_quiet_op
              first | refine hK _ ?_ | refine ⟨_, fun _ _ => rfl, hK _ ?_⟩
              clear hK K
              refine takeK 9 rfl (by kernel_rfl) (by kernel_rfl) (by kernel_rfl) rfl (fun _ _ _ _ h => h) rfl (fun K hK => ?_)
              go_big_quiet_op
              first | refine hK _ ?_ | refine ⟨_, fun _ _ => rfl, hK _ ?_⟩
              clear hK K
              refine relist (by kernel_rfl) (hM _ R _ ⟨v2, HRR.out, HJ.out⟩)
          · refine wp_alloc_agg 36 rfl Z hz ?_
            refine hK _ _ (HJ.out.keepAlloc _) ?_
            clear hK K
            (try simp only [Act.put, List.setIfInBounds_toArray, List.set_cons_succ, List.set_cons_zero])
            have HJ := Lib.hid HJ.out.alloc
            refine stepM 5 rfl (by kernel_rfl) rfl (fun K hK => ?_)
            go_simp
            refine (HOP.out _).mono ?_
            rintro e w6 ⟨rfl, hx6⟩
            have HJ := Lib.hid (HJ.out.step hx6)
            have hkb := HJ.out.2
            have HJ := Lib.hid HJ.out.1
            refine hK _ _ (hkb) ?_
            clear hK K
            refine stepM 6 rfl (by kernel_rfl) rfl (fun K hK => ?_)
            go_simp
            refine (HN2.out w0 _ _ HOX.out HJ.out).mono ?_
            rintro e w7 ⟨R, v2, rfl, hR, hJ, hkb2⟩
            have HJ := Lib.hid hJ
            clear hJ
            have HRR := Lib.hid hR
            clear hR
            refine hK _ _ (hkb2) ?_
            clear hK K
            refine takeK 7 rfl (by kernel_rfl) (by kernel_rfl) (by kernel_rfl) rfl (fun _ _ _ _ h => h) rfl (fun K hK => ?_)
            go_big_quiet_op
            first | refine hK _ ?_ | refine ⟨_, fun _ _ => rfl, hK _ ?_⟩
            clear hK K
            refine takeK 8 rfl (by kernel_rfl) (by kernel_rfl) (by kernel_rfl) rfl (fun _ _ _ _ h => h) rfl (fun K hK => ?_)
            go_big_quiet_op
            first | refine hK _ ?_ | refine ⟨_, fun _ _ => rfl, hK _ ?_⟩
            clear hK K
            refine takeK 9 rfl (by kernel_rfl) (by kernel_rfl) (by kernel_rfl) rfl (fun _ _ _ _ h => h) rfl (fun K hK => ?_)
            go_big_quiet_op
            first | refine hK _ ?_ | refine ⟨_, fun _ _ => rfl, hK _ ?_⟩
            clear hK K
            refine relist (by kernel_rfl) (hM _ R _ ⟨v2, HRR.out, HJ.out⟩)
        · refine wp_alloc_agg 36 rfl Z hz ?_
          refine hK _ _ (HJ.out.keepAlloc _) ?_
          clear hK K
          (try simp only [Act.put, List.setIfInBounds_toArray, List.set_cons_succ, List.set_cons_zero])
          have HJ := Lib.hid HJ.out.alloc
          refine stepM 3 rfl (by kernel_rfl) rfl (fun K hK => ?_)
          go_simp
          refine (HO1.out _).mono ?_
          rintro e w5 ⟨rfl, hx5⟩
          obtain rfl := hx5
          refine hK _ _ (fun _ _ => rfl) ?_
          clear hK K
          refine stepM 5 rfl (by kernel_rfl) rfl (fun K hK => ?_)
          go_simp
          refine (HOP.out _).mono ?_
          rintro e w6 ⟨rfl, hx6⟩
          have HJ := Lib.hid (HJ.out.step hx6)
          have hkb := HJ.out.2
          have HJ := Lib.hid HJ.out.1
          refine hK _ _ (hkb) ?_
          clear hK K
          refine stepM 6 rfl (by kernel_rfl) rfl (fun K hK => ?_)
          go_simp
          refine (HN2.out w0 _ _ HOX.out HJ.out).mono ?_
          rintro e w7 ⟨R, v2, rfl, hR, hJ, hkb2⟩
          have HJ := Lib.hid hJ
          clear hJ
          have HRR := Lib.hid hR
          clear hR
          refine hK _ _ (hkb2) ?_
          clear hK K
          refine takeK 7 rfl (by kernel_rfl) (by kernel_rfl) (by kernel_rfl) rfl (fun _ _ _ _ h => h) rfl (fun K hK => ?_)
          go_big_quiet_op
          first | refine hK _ ?_ | refine ⟨_, fun _ _ => rfl, hK _ ?_⟩
          clear hK K
          refine takeK 8 rfl (by kernel_rfl) (by kernel_rfl) (by kernel_rfl) rfl (fun _ _ _ _ h => h) rfl (fun K hK => ?_)
          go_big_quiet_op
          first | refine hK _ ?_ | refine ⟨_, fun _ _ => rfl, hK _ ?_⟩
          clear hK K
          refine takeK 9 rfl (by kernel_rfl) (by kernel_rfl) (by kernel_rfl) rfl (fun _ _ _ _ h => h) rfl (fun K hK => ?_)
          go_big_quiet_op
          first | refine hK _ ?_ | refine ⟨_, fun _ _ => rfl, hK _ ?_⟩
          clear hK K
          refine relist (by kernel_rfl) (hM _ R _ ⟨v2, HRR.out, HJ.out⟩)
      rintro g R W ⟨v2, hR, hJ⟩
      have hgb := hJ.blk g rfl
      have hrl : R.length = 7 := by rw [hR]; rfl
      have hro : ∀ u ∈ R, u.oneCell' = true := by obtain ⟨A2, c2, h⟩ := hJ.own.form; rw [hR, h]; exact stc_one _ _ _ _
      have HRL := Lib.hid hrl
      have HGB := Lib.hid hgb
      have HJ := Lib.hid hJ
      have HRE := Lib.hid hR
      clear hrl hgb hJ hR
      refine stepM 11 rfl (by kernel_rfl) rfl (fun K hK => ?_)
      refine wp_store_row 36 (.tmp 11) (.tmp 82) rfl g rfl Z R _ rfl HGB.out.2 (state_size HRL.out) (by rw [HRL.out, HZL.out]) hro ?_
      refine hK _ _ (fun b hb => (setRow_only _).block _ (Nat.lt_of_lt_of_le hb HJ.out.ext.size) (by have := HGB.out.1; simp; omega)) ?_
      clear hK K
      (try simp only [Act.put, List.setIfInBounds_toArray, List.set_cons_succ, List.set_cons_zero])
      refine takeK 12 rfl (by kernel_rfl) (by kernel_rfl) (by kernel_rfl) rfl (fun _ _ _ _ h => h) rfl (fun K hK => ?_)
      go_big_quiet_op
      first | refine hK _ ?_ | refine ⟨_, fun _ _ => rfl, hK _ ?_⟩
      clear hK K
      refine doneM (by kernel_rfl) ?_ _
      have hX8 : Ext w (W.setRow g R.toArray) := grown_then (HX3.out.trans HJ.out.ext) (setRow_only _) (.inr (by rintro b ⟨⟩; have := HGB.out.1; have := HX3.out.size; omega))
      have HX8 := Lib.hid hX8
      clear hX8
      go_wp2_with (first
        | (go_at_call 9; refine (Awake _).mono ?_; rintro e w9 ⟨rfl, hx9⟩)
        | fail)
      go_ret
      exact ⟨rfl, HX8.out.trans hx9⟩
    · have hzb : (z != 0) = true := by simpa using hz0
      have hze : (z == 0) = false := by simpa using hz0
      clear HOK hz0
      go_wp2
      have hx3 : Ext w V.drew := HX8.out.drew
      have hbx : Blk V.drew g7 36 XC := HBX.out
      have hb1 : Blk V.drew (w.heap.size + 1) 24 PC := HBP.out
      have hb2 : Blk V.drew (w.heap.size + 2) 32 DC := HBO.out
      have hov2 : OwnC V.drew v s.cs := HOX.out.ext (Ext.refl _).drew
      refine startM (KeepB fun b => b < V.drew.heap.size) (by kernel_rfl) ?_
      generalize V.drew = w0 at *
      have hcx := hbx.cells
      have hcp := hb1.cells
      have hco := hb2.cells
      have HBX := Lib.hid hbx
      have HBP := Lib.hid hb1
      have HBO := Lib.hid hb2
      have HCX := Lib.hid hcx
      have HCP := Lib.hid hcp
      have HCO := Lib.hid hco
      have HOX := Lib.hid hov2
      have HX3 := Lib.hid hx3
      have hJ := NJ.start w0 Z
      have HJ := Lib.hid hJ
      clear hbx hb1 hb2 hcx hcp hco hov2 hx3 hJ HR8 HRE HRL hro HX8
      apply sharedL (fun g R W => ∃ v2, R = stc n2 v2 ∧ NJ w0 Z (some g) W v2 n2.cs)
      · intro hM
        refine takeK 0 rfl (by kernel_rfl) (by kernel_rfl) (by kernel_rfl) rfl (fun _ _ _ _ h => h) rfl (fun K hK => ?_)
        refine quiet_agg 36 (.tmp 7) rfl _ rfl XC _ Try.underlying36 rfl (state_size HXL.out) (fun W' h => KeepB.cells h HCX.out (HBX.out.lt)) ?_
        refine hK _ ?_
        simp only [Act.put, List.setIfInBounds_toArray, List.set_cons_succ, List.set_cons_zero]
        clear hK K
        refine takeK 1 rfl (by kernel_rfl) (by kernel_rfl) (by kernel_rfl) rfl (fun _ _ _ _ h => h) rfl (fun K hK => ?_)
        refine quiet_agg 24 (.tmp 4) rfl _ rfl PC _ Try.underlying24 rfl (by rw [HPL.out]; kernel_rfl) (fun W' h => KeepB.cells h HCP.out (HBP.out.lt)) ?_
        refine hK _ ?_
        simp only [Act.put, List.setIfInBounds_toArray, List.set_cons_succ, List.set_cons_zero]
        clear hK K
        refine takeK 2 rfl (by kernel_rfl) (by kernel_rfl) (by kernel_rfl) rfl (fun _ _ _ _ h => h) rfl (fun K hK => ?_)
        go_big_quiet_op
        first | refine hK _ ?_ | refine ⟨_, fun _ _ => rfl, hK _ ?_⟩
        clear hK K
        refine takeK 4 rfl (by kernel_rfl) (by kernel_rfl) (by kernel_rfl) rfl (fun _ _ _ _ h => h) rfl (fun K hK => ?_)
        refine quiet_agg 32 (.tmp 5) rfl _ rfl DC _ Try.underlying32 rfl (rop_size HDL.out) (fun W' h => KeepB.cells h HCO.out (HBO.out.lt)) ?_
        refine hK _ ?_
        simp only [Act.put, List.setIfInBounds_toArray, List.set_cons_succ, List.set_cons_zero]
        clear hK K
        refine bothM 3 10 rfl rfl (by kernel_rfl) rfl rfl (fun K hK => ?_) (fun K hK => ?_)
        · go_simp
          refine (HO1.out _).mono ?_
          rintro e w5 ⟨rfl, hx5⟩
          obtain rfl := hx5
          refine hK _ _ (fun _ _ => rfl) ?_
          clear hK K
          refine bothM 5 10 rfl rfl (by kernel_rfl) rfl rfl (fun K hK => ?_) (fun K hK => ?_)
          · go_simp
            refine (HOP.out _).mono ?_
            rintro e w6 ⟨rfl, hx6⟩
            have HJ := Lib.hid (HJ.out.step hx6)
            have hkb := HJ.out.2
            have HJ := Lib.hid HJ.out.1
            refine hK _ _ (hkb) ?_
            clear hK K
            refine bothM 6 10 rfl rfl (by kernel_rfl) rfl rfl (fun K hK => ?_) (fun K hK => ?_)
            · go_simp
              refine (HN2.out w0 _ _ HOX.out HJ.out).mono ?_
              rintro e w7 ⟨R, v2, rfl, hR, hJ, hkb2⟩
              have HJ := Lib.hid hJ
              clear hJ
              have HRR := Lib.hid hR
              clear hR
              refine hK _ _ (hkb2) ?_
              clear hK K
              refine takeK 7 rfl (by kernel_rfl) (by kernel_rfl) (by kernel_rfl) rfl (fun _ _ _ _ h => h) rfl (fun K hK => ?_)
              go_big_quiet_op
              first | refine hK _ ?_ | refine ⟨_, fun _ _ => rfl, hK _ ?_⟩
              clear hK K
              refine takeK 8 rfl (by kernel_rfl) (by kernel_rfl) (by kernel_rfl) rfl (fun _ _ _ _ h => h) rfl (fun K hK => ?_)
              go_big_quiet_op
              first | refine hK _ ?_ | refine ⟨_, fun _ _ => rfl, hK _ ?_⟩
              clear hK K
              refine takeK 9 rfl (by kernel_rfl) (by kernel_rfl) (by kernel_rfl) rfl (fun _ _ _ _ h => h) rfl (fun K hK => ?_)
              go_big_quiet_op
              first | refine hK _ ?_ | refine ⟨_, fun _ _ => rfl, hK _ ?_⟩
              clear hK K
              refine stepM 10 rfl (by kernel_rfl) rfl (fun K hK => ?_)
              refine wp_alloc_agg 36 rfl Z hz ?_
              refine hK _ _ (HJ.out.keepAlloc _) ?_
              clear hK K
              (try simp only [Act.put, List.setIfInBounds_toArray, List.set_cons_succ, List.set_cons_zero])
              have HJ := Lib.hid HJ.out.alloc
              have hJf := HJ.out
              revert hJf
              generalize w7.alloc (.cells Z.toArray 36) = W9
              generalize w7.heap.size = g9
              intro hJf
              exact hM g9 R W9 ⟨v2, HRR.out, hJf⟩
            · refine wp_alloc_agg 36 rfl Z hz ?_
              refine hK _ _ (HJ.out.keepAlloc _) ?_
              clear hK K
              (try simp only [Act.put, List.setIfInBounds_toArray, List.set_cons_succ, List.set_cons_zero])
              have HJ := Lib.hid HJ.out.alloc
              refine stepM 6 rfl (by kernel_rfl) rfl (fun K hK => ?_)
              go_simp
              refine (HN2.out w0 _ _ HOX.out HJ.out).mono ?_
              rintro e w7 ⟨R, v2, rfl, hR, hJ, hkb2⟩
              have HJ := Lib.hid hJ
              clear hJ
              have HRR := Lib.hid hR
              clear hR
              refine hK _ _ (hkb2) ?_
              clear hK K
              refine takeK 7 rfl (by kernel_rfl) (by kernel_rfl) (by kernel_rfl) rfl (fun _ _ _ _ h => h) rfl (fun K hK => ?_)
              go_big_quiet_op
              first | refine hK _ ?_ | refine ⟨_, fun _ _ => rfl, hK _ ?_⟩
              clear hK K
              refine takeK 8 rfl (by kernel_rfl) (by kernel_rfl) (by kernel_rfl) rfl (fun _ _ _ _ h => h) rfl (fun K hK => ?_)
              go_big_quiet_op
              first | refine hK _ ?_ | refine ⟨_, fun _ _ => rfl, hK _ ?_⟩
              clear hK K
              refine takeK 9 rfl (by kernel_rfl) (by kernel_rfl) (by kernel_rfl) rfl (fun _ _ _ _ h => h) rfl (fun K hK => ?_)
              go_big_quiet_op
              first | refine hK _ ?_ | refine ⟨_, fun _ _ => rfl, hK _ ?_⟩
              clear hK K
              refine relist (by kernel_rfl) (hM _ R _ ⟨v2, HRR.out, HJ.out⟩)
          · refine wp_alloc_agg 36 rfl Z hz ?_
            refine hK _ _ (HJ.out.keepAlloc _) ?_
            clear hK K
            (try simp only [Act.put, List.setIfInBounds_toArray, List.set_cons_succ, List.set_cons_zero])
            have HJ := Lib.hid HJ.out.alloc
            refine stepM 5 rfl (by kernel_rfl) rfl (fun K hK => ?_)
            go_simp
            refine (HOP.out _).mono ?_
            rintro e w6 ⟨rfl, hx6⟩
            have HJ := Lib.hid (HJ.out.step hx6)
            have hkb := HJ.out.2
            have HJ := Lib.hid HJ.out.1
            refine hK _ _ (hkb) ?_
            clear hK K
            refine stepM 6 rfl (by kernel_rfl) rfl (fun K hK => ?_)
            go_simp
            refine (HN2.out w0 _ _ HOX.out HJ.out).mono ?_
            rintro e w7 ⟨R, v2, rfl, hR, hJ, hkb2⟩
            have HJ := Lib.hid hJ
            clear hJ
            have HRR := Lib.hid hR
            clear hR
            refine hK _ _ (hkb2) ?_
            clear hK K
            refine takeK 7 rfl (by kernel_rfl) (by kernel_rfl) (by kernel_rfl) rfl (fun _ _ _ _ h => h) rfl (fun K hK => ?_)
            go_big_quiet_op
            first | refine hK _ ?_ | refine ⟨_, fun _ _ => rfl, hK _ ?_⟩
            clear hK K
            refine takeK 8 rfl (by kernel_rfl) (by kernel_rfl) (by kernel_rfl) rfl (fun _ _ _ _ h => h) rfl (fun K hK => ?_)
            go_big_quiet_op
            first | refine hK _ ?_ | refine ⟨_, fun _ _ => rfl, hK _ ?_⟩
            clear hK K
            refine takeK 9 rfl (by kernel_rfl) (by kernel_rfl) (by kernel_rfl) rfl (fun _ _ _ _ h => h) rfl (fun K hK => ?_)
            go_big_quiet_op
            first | refine hK _ ?_ | refine ⟨_, fun _ _ => rfl, hK _ ?_⟩
            clear hK K
            refine relist (by kernel_rfl) (hM _ R _ ⟨v2, HRR.out, HJ.out⟩)
        · refine wp_alloc_agg 36 rfl Z hz ?_
          refine hK _ _ (HJ.out.keepAlloc _) ?_
          clear hK K
          (try simp only [Act.put, List.setIfInBounds_toArray, List.set_cons_succ, List.set_cons_zero])
          have HJ := Lib.hid HJ.out.alloc
          refine stepM 3 rfl (by kernel_rfl) rfl (fun K hK => ?_)
          go_simp
          refine (HO1.out _).mono ?_
          rintro e w5 ⟨rfl, hx5⟩
          obtain rfl := hx5
          refine hK _ _ (fun _ _ => rfl) ?_
          clear hK K
          refine stepM 5 rfl (by kernel_rfl) rfl (fun K hK => ?_)
          go_simp
          refine (HOP.out _).mono ?_
          rintro e w6 ⟨rfl, hx6⟩
          have HJ := Lib.hid (HJ.out.step hx6)
          have hkb := HJ.out.2
          have HJ := Lib.hid HJ.out.1
          refine hK _ _ (hkb) ?_
          clear hK K
          refine stepM 6 rfl (by kernel_rfl) rfl (fun K hK => ?_)
          go_simp
          refine (HN2.out w0 _ _ HOX.out HJ.out).mono ?_
          rintro e w7 ⟨R, v2, rfl, hR, hJ, hkb2⟩
          have HJ := Lib.hid hJ
          clear hJ
          have HRR := Lib.hid hR
          clear hR
          refine hK _ _ (hkb2) ?_
          clear hK K
          refine takeK 7 rfl (by kernel_rfl) (by kernel_rfl) (by kernel_rfl) rfl (fun _ _ _ _ h => h) rfl (fun K hK => ?_)
          go_big_quiet_op
          first | refine hK _ ?_ | refine ⟨_, fun _ _ => rfl, hK _ ?_⟩
          clear hK K
          refine takeK 8 rfl (by kernel_rfl) (by kernel_rfl) (by kernel_rfl) rfl (fun _ _ _ _ h => h) rfl (fun K hK => ?_)
          go_big_quiet_op
          first | refine hK _ ?_ | refine ⟨_, fun _ _ => rfl, hK _ ?_⟩
          clear hK K
          refine takeK 9 rfl (by kernel_rfl) (by kernel_rfl) (by kernel_rfl) rfl (fun _ _ _ _ h => h) rfl (fun K hK => ?_)
          go_big_quiet_op
          first | refine hK _ ?_ | refine ⟨_, fun _ _ => rfl, hK _ ?_⟩
          clear hK K
          refine relist (by kernel_rfl) (hM _ R _ ⟨v2, HRR.out, HJ.out⟩)
      rintro g R W ⟨v2, hR, hJ⟩
      have hgb := hJ.blk g rfl
      have hrl : R.length = 7 := by rw [hR]; rfl
      have hro : ∀ u ∈ R, u.oneCell' = true := by obtain ⟨A2, c2, h⟩ := hJ.own.form; rw [hR, h]; exact stc_one _ _ _ _
      have HRL := Lib.hid hrl
      have HGB := Lib.hid hgb
      have HJ := Lib.hid hJ
      have HRE := Lib.hid hR
      clear hrl hgb hJ hR
      refine stepM 11 rfl (by kernel_rfl) rfl (fun K hK => ?_)
      refine wp_store_row 36 (.tmp 11) (.tmp 82) rfl g rfl Z R _ rfl HGB.out.2 (state_size HRL.out) (by rw [HRL.out, HZL.out]) hro ?_
      refine hK _ _ (fun b hb => (setRow_only _).block _ (Nat.lt_of_lt_of_le hb HJ.out.ext.size) (by have := HGB.out.1; simp; omega)) ?_
      clear hK K
      (try simp only [Act.put, List.setIfInBounds_toArray, List.set_cons_succ, List.set_cons_zero])
      refine takeK 12 rfl (by kernel_rfl) (by kernel_rfl) (by kernel_rfl) rfl (fun _ _ _ _ h => h) rfl (fun K hK => ?_)
      go_big_quiet_op
      first | refine hK _ ?_ | refine ⟨_, fun _ _ => rfl, hK _ ?_⟩
      clear hK K
      refine doneM (by kernel_rfl) ?_ _
      have hX8 : Ext w (W.setRow g R.toArray) := grown_then (HX3.out.trans HJ.out.ext) (setRow_only _) (.inr (by rintro b ⟨⟩; have := HGB.out.1; have := HX3.out.size; omega))
      have HX8 := Lib.hid hX8
      have hz2n : (z2 != 0) = true := by simpa using HZ2.out
      clear hX8
      go_wp2_with (first
        | (go_at_call 9; refine (Awake _).mono ?_; rintro e w9 ⟨rfl, hx9⟩)
        | fail)
      go_ret
      exact ⟨rfl, HX8.out.trans hx9⟩
  · go_enter Try.func5, Try.ntmps5
    go_wp2_with (first
      | (refine wpList_load_agg _ rfl 27 (.tmp 3) rfl _ rfl SC _ Try.underlying27 rfl (szSFrom HSL.out) hcs ?_)
      | fail)
    refine (HTO.out _ HX0.out).mono ?_
    rintro e w1 ⟨v, rfl, hov, hx1, hvo⟩
    have hxl : (stc s v).length = 7 := rfl
    have hxo : ∀ u ∈ stc s v, u.oneCell' = true := by obtain ⟨A2, c2, h⟩ := hov.form; rw [h]; exact stc_one _ _ _ _
    have x1 : (stc s v)[1]? = some (.int .u64 (rd : Int)) := by rw [← HRD.out]; rfl
    have x0 : (stc s v)[0]? = some (.int .u32 (ch : Int)) := by rw [← HCH.out]; rfl
    have hnx := HNX.out v
    have hnx2 := HNX2.out v
    generalize stc s v = XC at *
    have HXL := Lib.hid hxl
    have hbx : Blk (w1.alloc (.cells XC.toArray 36)) w1.heap.size 36 XC := Blk.new _ _ _
    have hb1 : Blk (w1.alloc (.cells XC.toArray 36)) (w.heap.size + 1) 24 PC := (HB1.out.keep hx1 (by simp)).keep ((Ext.refl _).alloc _) (by simp)
    have hb2 : Blk (w1.alloc (.cells XC.toArray 36)) (w.heap.size + 2) 32 OC := (HB2.out.keep hx1 (by simp)).keep ((Ext.refl _).alloc _) (by simp)
    have hx2 : Ext w (w1.alloc (.cells XC.toArray 36)) := (HX0.out.trans hx1).alloc _
    have hov2 : OwnC (w1.alloc (.cells XC.toArray 36)) v s.cs := hov.ext ((Ext.refl _).alloc _)
    have hg7 : w.heap.size + 3 ≤ w1.heap.size := by have h1 := HB2.out.lt; have h2 := hx1.size; omega
    have hvo : ∀ b, v.ownBlock = some b → w.heap.size + 3 ≤ b := fun b hb => by have h1 := hvo b hb; simp at h1; omega
    have HVO := Lib.hid hvo
    have hvn : ∀ b, v.ownBlock = some b → b < w1.heap.size := hov.lt
    have d1 := (hbx.cell 1).trans x1
    have HBX := Lib.hid hbx
    have HB1 := Lib.hid hb1
    have HB2 := Lib.hid hb2
    have HX2 := Lib.hid hx2
    have HOV := Lib.hid hov2
    have HVN := Lib.hid hvn
    have HN1 := Lib.hid hnx
    have HN2 := Lib.hid hnx2
    clear hxl hbx hb1 hb2 hx2 hov2 hov hx1 hvn hvo hnx hnx2 hcs c6
    go_wp2_with (first
      | (go_at_call 17; refine (HT1.out _).mono ?_; rintro e _ ⟨rfl, rfl⟩)
      | (refine wpList_alloc _ rfl 36 rfl _ hz ?_)
      | (refine wpList_store_new _ rfl 36 (.tmp 7) (.tmp 19) rfl rfl Z XC _ rfl (state_size HXL.out) (by rw [HXL.out, HZL.out]) hxo ?_)
      | fail)
    refine startM Since (by kernel_rfl) ?_
    have d1 : (w1.alloc (.cells XC.toArray 36)).drew.cell? ⟨w1.heap.size, 1, none⟩ = some (.int .u64 (rd : Int)) := d1
    have hbx : Blk (w1.alloc (.cells XC.toArray 36)).drew w1.heap.size 36 XC := HBX.out
    have hb1 : Blk (w1.alloc (.cells XC.toArray 36)).drew (w.heap.size + 1) 24 PC := HB1.out
    have hb2 : Blk (w1.alloc (.cells XC.toArray 36)).drew (w.heap.size + 2) 32 OC := HB2.out
    have hx2 : Ext w (w1.alloc (.cells XC.toArray 36)).drew := HX2.out.drew
    have hov2 : OwnC (w1.alloc (.cells XC.toArray 36)).drew v s.cs := HOV.out.ext (Ext.refl _).drew
    generalize (w1.alloc (.cells XC.toArray 36)).drew = w0 at *
    generalize w1.heap.size = g7 at *
    have c3 := (hb2.cell 3).trans HO3.out
    have f3 := hb2.free 3
    have HBX := Lib.hid hbx
    have HB1 := Lib.hid hb1
    have HB2 := Lib.hid hb2
    have HX2 := Lib.hid hx2
    have HOV := Lib.hid hov2
    clear hbx hb1 hb2 hx2 hov2
    apply shared1 (fun W => w0 = W)
    · intro hM
      refine takeE 0 rfl (by kernel_rfl) (by kernel_rfl) (by kernel_rfl) rfl (fun _ _ _ _ h => h) rfl (fun K hK => ?_)
      go_big_quiet_op
      first | refine hK _ ?_ | refine ⟨_, fun _ _ => rfl, hK _ ?_⟩
      clear hK K
      refine takeE 1 rfl (by kernel_rfl) (by kernel_rfl) (by kernel_rfl) rfl (fun _ _ _ _ h => h) rfl (fun K hK => ?_)
      go_big_quiet_op
      first | refine hK _ ?_ | refine ⟨_, fun _ _ => rfl, hK _ ?_⟩
      clear hK K
      refine takeE 2 rfl (by kernel_rfl) (by kernel_rfl) (by kernel_rfl) rfl (fun _ _ _ _ h => h) rfl (fun K hK => ?_)
      refine quiet_cell _ _ rfl _ rfl _ _ Try.underlying23 rfl (fun W' h => World.grownBy.cell h.ext d1 (by simp)) ?_
      refine hK _ ?_
      simp only [Act.put, List.setIfInBounds_toArray, List.set_cons_succ, List.set_cons_zero]
      clear hK K
      refine takeE 3 rfl (by kernel_rfl) (by kernel_rfl) (by kernel_rfl) rfl (fun _ _ _ _ h => h) rfl (fun K hK => ?_)
      go_big_quiet_op
      first | refine hK _ ?_ | refine ⟨_, fun _ _ => rfl, hK _ ?_⟩
      clear hK K
      refine stepM 4 rfl (by kernel_rfl) rfl (fun K hK => ?_)
      go_simp
      refine (HT2.out _).mono ?_
      rintro e _ ⟨rfl, rfl⟩
      refine hK _ _ (Ext.refl _) ?_
      clear hK K
      refine takeE 5 rfl (by kernel_rfl) (by kernel_rfl) (by kernel_rfl) rfl (fun _ _ _ _ h => h) rfl (fun K hK => ?_)
      go_big_quiet_op
      first | refine hK _ ?_ | refine ⟨_, fun _ _ => rfl, hK _ ?_⟩
      clear hK K
      refine takeE 6 rfl (by kernel_rfl) (by kernel_rfl) (by kernel_rfl) rfl (fun _ _ _ _ h => h) rfl (fun K hK => ?_)
      go_big_quiet_op
      first | refine hK _ ?_ | refine ⟨_, fun _ _ => rfl, hK _ ?_⟩
      clear hK K
      refine takeE 7 rfl (by kernel_rfl) (by kernel_rfl) (by kernel_rfl) rfl (fun _ _ _ _ h => h) rfl (fun K hK => ?_)
      go_big_quiet_op
      first | refine hK _ ?_ | refine ⟨_, fun _ _ => rfl, hK _ ?_⟩
      clear hK K
      refine takeE 9 rfl (by kernel_rfl) (by kernel_rfl) (by kernel_rfl) rfl (fun _ _ _ _ h => h) rfl (fun K hK => ?_)
      go_big_quiet_op
      first | refine hK _ ?_ | refine ⟨_, fun _ _ => rfl, hK _ ?_⟩
      clear hK K
      refine takeE 10 rfl (by kernel_rfl) (by kernel_rfl) (by kernel_rfl) rfl (fun _ _ _ _ h => h) rfl (fun K hK => ?_)
      refine quiet_cell _ _ rfl _ rfl _ _ Try.underlying23 rfl (fun W' h => World.grownBy.cell h.ext d1 (by simp)) ?_
      refine hK _ ?_
      simp only [Act.put, List.setIfInBounds_toArray, List.set_cons_succ, List.set_cons_zero]
      clear hK K
      refine stepM 8 rfl (by kernel_rfl) rfl (fun K hK => ?_)
      go_simp
      refine (HO1.out _).mono ?_
      rintro e _ ⟨rfl, rfl⟩
      refine hK _ _ (Ext.refl _) ?_
      clear hK K
      refine stepM 11 rfl (by kernel_rfl) rfl (fun K hK => ?_)
      go_simp
      refine (HT0.out _).mono ?_
      rintro e _ ⟨rfl, rfl⟩
      refine hK _ _ (Ext.refl _) ?_
      clear hK K
      refine takeE 12 rfl (by kernel_rfl) (by kernel_rfl) (by kernel_rfl) rfl (fun _ _ _ _ h => h) rfl (fun K hK => ?_)
      go_big_quiet_op
      first | refine hK _ ?_ | refine ⟨_, fun _ _ => rfl, hK _ ?_⟩
      clear hK K
      refine takeE 13 rfl (by kernel_rfl) (by kernel_rfl) (by kernel_rfl) rfl (fun _ _ _ _ h => h) rfl (fun K hK => ?_)
      go_big_quiet_op
      first | refine hK _ ?_ | refine ⟨_, fun _ _ => rfl, hK _ ?_⟩
      clear hK K
      refine takeE 14 rfl (by kernel_rfl) (by kernel_rfl) (by kernel_rfl) rfl (fun _ _ _ _ h => h) rfl (fun K hK => ?_)
      go_big_quiet_op
      first | refine hK _ ?_ | refine ⟨_, fun _ _ => rfl, hK _ ?_⟩
      clear hK K
      refine takeE 15 rfl (by kernel_rfl) (by kernel_rfl) (by kernel_rfl) rfl (fun _ _ _ _ h => h) rfl (fun K hK => ?_)
      go_big_quiet_op
      first | refine hK _ ?_ | refine ⟨_, fun _ _ => rfl, hK _ ?_⟩
      clear hK K
      refine takeE 18 rfl (by kernel_rfl) (by kernel_rfl) (by kernel_rfl) rfl (fun _ _ _ _ h => h) rfl (fun K hK => ?_)
      go_big_quiet_op
      first | refine hK _ ?_ | refine ⟨_, fun _ _ => rfl, hK _ ?_⟩
      clear hK K
      refine stepM 16 rfl (by kernel_rfl) rfl (fun K hK => ?_)
      go_simp
      refine (HO1.out _).mono ?_
      rintro e _ ⟨rfl, rfl⟩
      refine hK _ _ (Ext.refl _) ?_
      clear hK K
      refine stepM 17 rfl (by kernel_rfl) rfl (fun K hK => ?_)
      go_simp
      refine (HO2.out _).mono ?_
      rintro e _ ⟨rfl, rfl⟩
      refine hK _ _ (Ext.refl _) ?_
      clear hK K
      refine takeE 19 rfl (by kernel_rfl) (by kernel_rfl) (by kernel_rfl) rfl (fun _ _ _ _ h => h) rfl (fun K hK => ?_)
      go_big_quiet_op
      first | refine hK _ ?_ | refine ⟨_, fun _ _ => rfl, hK _ ?_⟩
      clear hK K
      refine takeE 20 rfl (by kernel_rfl) (by kernel_rfl) (by kernel_rfl) rfl (fun _ _ _ _ h => h) rfl (fun K hK => ?_)
      go_big_quiet_op
      first | refine hK _ ?_ | refine ⟨_, fun _ _ => rfl, hK _ ?_⟩
      clear hK K
      exact hM w0 rfl
    intro W hW
    subst hW
    refine doneM (by kernel_rfl) ?_ _
    go_wp2
    have hx3 : Ext w (w0.setCell ⟨w.heap.size + 1 + 1, 3, none⟩ (.int .i64 1)).drew := (HX2.out.setCell (by simp; omega) _).drew
    have hbx : Blk (w0.setCell ⟨w.heap.size + 1 + 1, 3, none⟩ (.int .i64 1)) g7 36 XC := HBX.out.keep (only_set 3 _) (by simp; omega)
    have hb1 : Blk (w0.setCell ⟨w.heap.size + 1 + 1, 3, none⟩ (.int .i64 1)) (w.heap.size + 1) 24 PC := HB1.out.keep (only_set 3 _) (by simp)
    have hb2 : Blk (w0.setCell ⟨w.heap.size + 1 + 1, 3, none⟩ (.int .i64 1)) (w.heap.size + 2) 32 DC := by have h := HB2.out.set 3 (.int .i64 1); rw [HSET.out] at h; exact h
    have hov2 : OwnC (w0.setCell ⟨w.heap.size + 1 + 1, 3, none⟩ (.int .i64 1)) v s.cs := HOV.out.keep (only_set 3 _) (fun b hb e => by have h1 := HVO.out b hb; cases e; omega)
    have hbx : Blk (w0.setCell ⟨w.heap.size + 1 + 1, 3, none⟩ (.int .i64 1)).drew g7 36 XC := hbx
    have hb1 : Blk (w0.setCell ⟨w.heap.size + 1 + 1, 3, none⟩ (.int .i64 1)).drew (w.heap.size + 1) 24 PC := hb1
    have hb2 : Blk (w0.setCell ⟨w.heap.size + 1 + 1, 3, none⟩ (.int .i64 1)).drew (w.heap.size + 2) 32 DC := hb2
    have hov2 : OwnC (w0.setCell ⟨w.heap.size + 1 + 1, 3, none⟩ (.int .i64 1)).drew v s.cs := hov2.ext (Ext.refl _).drew
    refine startM (KeepB fun b => b < (w0.setCell ⟨w.heap.size + 1 + 1, 3, none⟩ (.int .i64 1)).drew.heap.size) (by kernel_rfl) ?_
    generalize (w0.setCell ⟨w.heap.size + 1 + 1, 3, none⟩ (.int .i64 1)).drew = w0 at *
    have hcx := hbx.cells
    have hcp := hb1.cells
    have hco := hb2.cells
    have HBX := Lib.hid hbx
    have HBP := Lib.hid hb1
    have HBO := Lib.hid hb2
    have HCX := Lib.hid hcx
    have HCP := Lib.hid hcp
    have HCO := Lib.hid hco
    have HOX := Lib.hid hov2
    have HX3 := Lib.hid hx3
    have hJ := NJ.start w0 Z
    have HJ := Lib.hid hJ
    clear hbx hb1 hb2 hcx hcp hco hov2 hx3 hJ HB1 HB2 HX2 HOV d1 c3 f3
    apply sharedL (fun g R W => ∃ v2, R = stc n v2 ∧ NJ w0 Z (some g) W v2 n.cs)
    · intro hM
      refine takeK 0 rfl (by kernel_rfl) (by kernel_rfl) (by kernel_rfl) rfl (fun _ _ _ _ h => h) rfl (fun K hK => ?_)
      refine quiet_agg 36 (.tmp 7) rfl _ rfl XC _ Try.underlying36 rfl (state_size HXL.out) (fun W' h => KeepB.cells h HCX.out (HBX.out.lt)) ?_
      refine hK _ ?_
      simp only [Act.put, List.setIfInBounds_toArray, List.set_cons_succ, List.set_cons_zero]
      clear hK K
      refine takeK 1 rfl (by kernel_rfl) (by kernel_rfl) (by kernel_rfl) rfl (fun _ _ _ _ h => h) rfl (fun K hK => ?_)
      refine quiet_agg 24 (.tmp 4) rfl _ rfl PC _ Try.underlying24 rfl (by rw [HPL.out]; kernel_rfl) (fun W' h => KeepB.cells h HCP.out (HBP.out.lt)) ?_
      refine hK _ ?_
      simp only [Act.put, List.setIfInBounds_toArray, List.set_cons_succ, List.set_cons_zero]
      clear hK K
      refine takeK 2 rfl (by kernel_rfl) (by kernel_rfl) (by kernel_rfl) rfl (fun _ _ _ _ h => h) rfl (fun K hK => ?_)
      go_big_quiet_op
      first | refine hK _ ?_ | refine ⟨_, fun _ _ => rfl, hK _ ?_⟩
      clear hK K
      refine takeK 3 rfl (by kernel_rfl) (by kernel_rfl) (by kernel_rfl) rfl (fun _ _ _ _ h => h) rfl (fun K hK => ?_)
      refine quiet_agg 32 (.tmp 5) rfl _ rfl DC _ Try.underlying32 rfl (rop_size HDL.out) (fun W' h => KeepB.cells h HCO.out (HBO.out.lt)) ?_
      refine hK _ ?_
      simp only [Act.put, List.setIfInBounds_toArray, List.set_cons_succ, List.set_cons_zero]
      clear hK K
      refine bothM 4 9 rfl rfl (by kernel_rfl) rfl rfl (fun K hK => ?_) (fun K hK => ?_)
      · go_simp
        refine (HOP.out _).mono ?_
        rintro e w6 ⟨rfl, hx6⟩
        have HJ := Lib.hid (HJ.out.step hx6)
        have hkb := HJ.out.2
        have HJ := Lib.hid HJ.out.1
        refine hK _ _ (hkb) ?_
        clear hK K
        refine bothM 5 9 rfl rfl (by kernel_rfl) rfl rfl (fun K hK => ?_) (fun K hK => ?_)
        · go_simp
          refine (HN1.out w0 _ _ HOX.out HJ.out).mono ?_
          rintro e w7 ⟨R, v2, rfl, hR, hJ, hkb2⟩
          have HJ := Lib.hid hJ
          clear hJ
          have HRR := Lib.hid hR
          clear hR
          refine hK _ _ (hkb2) ?_
          clear hK K
          refine takeK 6 rfl (by kernel_rfl) (by kernel_rfl) (by kernel_rfl) rfl (fun _ _ _ _ h => h) rfl (fun K hK => ?_)
          go_big_quiet_op
          first | refine hK _ ?_ | refine ⟨_, fun _ _ => rfl, hK _ ?_⟩
          clear hK K
          refine takeK 7 rfl (by kernel_rfl) (by kernel_rfl) (by kernel_rfl) rfl (fun _ _ _ _ h => h) rfl (fun K hK => ?_)
          go_big_quiet_op
          first | refine hK _ ?_ | refine ⟨_, fun _ _ => rfl, hK _ ?_⟩
          clear hK K
          refine takeK 8 rfl (by kernel_rfl) (by kernel_rfl) (by kernel_rfl) rfl (fun _ _ _ _ h => h) rfl (fun K hK => ?_)
          go_big_quiet_op
          first | refine hK _ ?_ | refine ⟨_, fun _ _ => rfl, hK _ ?_⟩
          clear hK K
          refine stepM 9 rfl (by kernel_rfl) rfl (fun K hK => ?_)
          refine wp_alloc_agg 36 rfl Z hz ?_
          refine hK _ _ (HJ.out.keepAlloc _) ?_
          clear hK K
          (try simp only [Act.put, List.setIfInBounds_toArray, List.set_cons_succ, List.set_cons_zero])
          have HJ := Lib.hid HJ.out.alloc
          have hJf := HJ.out
          revert hJf
          generalize w7.alloc (.cells Z.toArray 36) = W9
          generalize w7.heap.size = g9
          intro hJf
          exact hM g9 R W9 ⟨v2, HRR.out, hJf⟩
        · refine wp_alloc_agg 36 rfl Z hz ?_
          refine hK _ _ (HJ.out.keepAlloc _) ?_
          clear hK K
          (try simp only [Act.put, List.setIfInBounds_toArray, List.set_cons_succ, List.set_cons_zero])
          have HJ := Lib.hid HJ.out.alloc
          refine stepM 5 rfl (by kernel_rfl) rfl (fun K hK => ?_)
          go_simp
          refine (HN1.out w0 _ _ HOX.out HJ.out).mono ?_
          rintro e w7 ⟨R, v2, rfl, hR, hJ, hkb2⟩
          have HJ := Lib.hid hJ
          clear hJ
          have HRR := Lib.hid hR
          clear hR
          refine hK _ _ (hkb2) ?_
          clear hK K
          refine takeK 6 rfl (by kernel_rfl) (by kernel_rfl) (by kernel_rfl) rfl (fun _ _ _ _ h => h) rfl (fun K hK => ?_)
          go_big_quiet_op
          first | refine hK _ ?_ | refine ⟨_, fun _ _ => rfl, hK _ ?_⟩
          clear hK K
          refine takeK 7 rfl (by kernel_rfl) (by kernel_rfl) (by kernel_rfl) rfl (fun _ _ _ _ h => h) rfl (fun K hK => ?_)
          go_big_quiet_op
          first | refine hK _ ?_ | refine ⟨_, fun _ _ => rfl, hK _ ?_⟩
          clear hK K
          refine takeK 8 rfl (by kernel_rfl) (by kernel_rfl) (by kernel_rfl) rfl (fun _ _ _ _ h => h) rfl (fun K hK => ?_)
          go_big_quiet_op
          first | refine hK _ ?_ | refine ⟨_, fun _ _ => rfl, hK _ ?_⟩
          clear hK K
          refine relist (by kernel_rfl) (hM _ R _ ⟨v2, HRR.out, HJ.out⟩)
      · refine wp_alloc_agg 36 rfl Z hz ?_
        refine hK _ _ (HJ.out.keepAlloc _) ?_
        clear hK K
        (try simp only [Act.put, List.setIfInBounds_toArray, List.set_cons_succ, List.set_cons_zero])
        have HJ := Lib.hid HJ.out.alloc
        refine stepM 4 rfl (by kernel_rfl) rfl (fun K hK => ?_)
        go_simp
        refine (HOP.out _).mono ?_
        rintro e w6 ⟨rfl, hx6⟩
        have HJ := Lib.hid (HJ.out.step hx6)
        have hkb := HJ.out.2
        have HJ := Lib.hid HJ.out.1
        refine hK _ _ (hkb) ?_
        clear hK K
        refine stepM 5 rfl (by kernel_rfl) rfl (fun K hK => ?_)
        go_simp
        refine (HN1.out w0 _ _ HOX.out HJ.out).mono ?_
        rintro e w7 ⟨R, v2, rfl, hR, hJ, hkb2⟩
        have HJ := Lib.hid hJ
        clear hJ
        have HRR := Lib.hid hR
        clear hR
        refine hK _ _ (hkb2) ?_
        clear hK K
        refine takeK 6 rfl (by kernel_rfl) (by kernel_rfl) (by kernel_rfl) rfl (fun _ _ _ _ h => h) rfl (fun K hK => ?_)
        go_big_quiet_op
        first | refine hK _ ?_ | refine ⟨_, fun _ _ => rfl, hK _ ?_⟩
        clear hK K
        refine takeK 7 rfl (by kernel_rfl) (by kernel_rfl) (by kernel_rfl) rfl (fun _ _ _ _ h => h) rfl (fun K hK => ?_)
        go_big_quiet_op
        first | refine hK _ ?_ | refine ⟨_, fun _ _ => rfl, hK _ ?_⟩
        clear hK K
        refine takeK 8 rfl (by kernel_rfl) (by kernel_rfl) (by kernel_rfl) rfl (fun _ _ _ _ h => h) rfl (fun K hK => ?_)
        go_big_quiet_op
        first | refine hK _ ?_ | refine ⟨_, fun _ _ => rfl, hK _ ?_⟩
        clear hK K
        refine relist (by kernel_rfl) (hM _ R _ ⟨v2, HRR.out, HJ.out⟩)
    rintro g R W ⟨v2, hR, hJ⟩
    have hgb := hJ.blk g rfl
    have hrl : R.length = 7 := by rw [hR]; rfl
    have hro : ∀ u ∈ R, u.oneCell' = true := by obtain ⟨A2, c2, h⟩ := hJ.own.form; rw [hR, h]; exact stc_one _ _ _ _
    have HRL := Lib.hid hrl
    have HGB := Lib.hid hgb
    have HJ := Lib.hid hJ
    have HRE := Lib.hid hR
    clear hrl hgb hJ hR
    refine stepM 10 rfl (by kernel_rfl) rfl (fun K hK => ?_)
    refine wp_store_row 36 (.tmp 9) (.tmp 55) rfl g rfl Z R _ rfl HGB.out.2 (state_size HRL.out) (by rw [HRL.out, HZL.out]) hro ?_
    refine hK _ _ (fun b hb => (setRow_only _).block _ (Nat.lt_of_lt_of_le hb HJ.out.ext.size) (by have := HGB.out.1; simp; omega)) ?_
    clear hK K
    (try simp only [Act.put, List.setIfInBounds_toArray, List.set_cons_succ, List.set_cons_zero])
    refine takeK 11 rfl (by kernel_rfl) (by kernel_rfl) (by kernel_rfl) rfl (fun _ _ _ _ h => h) rfl (fun K hK => ?_)
    go_big_quiet_op
    first | refine hK _ ?_ | refine ⟨_, fun _ _ => rfl, hK _ ?_⟩
    clear hK K
    refine doneM (by kernel_rfl) ?_ _
    have hgg : g ≠ g7 := by have := HGB.out.1; have := HBX.out.lt; omega
    have hX8 : Ext w (W.setRow g R.toArray) := grown_then (HX3.out.trans HJ.out.ext) (setRow_only _) (.inr (by rintro b ⟨⟩; have := HGB.out.1; have := HX3.out.size; omega))
    have hR8 : Blk (W.setRow g R.toArray) g 36 R := setRow_at HGB.out.2
    have hbx : Blk (W.setRow g R.toArray) g7 36 XC := (HBX.out.keep HJ.out.ext (by simp)).keep (setRow_only _) (by have := HGB.out.1; have := HBX.out.lt; simp; omega)
    have hb1 : Blk (W.setRow g R.toArray) (w.heap.size + 1) 24 PC := (HBP.out.keep HJ.out.ext (by simp)).keep (setRow_only _) (by have := HGB.out.1; have := HBP.out.lt; simp; omega)
    have hb2 : Blk (W.setRow g R.toArray) (w.heap.size + 2) 32 DC := (HBO.out.keep HJ.out.ext (by simp)).keep (setRow_only _) (by have := HGB.out.1; have := HBO.out.lt; simp; omega)
    have hov2 : OwnC (W.setRow g R.toArray) v s.cs := (HOX.out.ext HJ.out.ext).keep (setRow_only _) (fun b hb e => by have h1 := HOX.out.lt b hb; have := HGB.out.1; cases e; omega)
    have HX8 := Lib.hid hX8
    have HR8 := Lib.hid hR8
    have HBX := Lib.hid hbx
    have HBP := Lib.hid hb1
    have HBO := Lib.hid hb2
    have HOX := Lib.hid hov2
    clear hX8 hR8 hbx hb1 hb2 hov2 HX3 HJ HGB HCX HCP HCO
    generalize W.setRow g R.toArray = V at *
    have x1c : V.cell? ⟨g7, 1, none⟩ = some (.int .u64 (rd : Int)) := (HBX.out.cell 1).trans x1
    have x0c : V.cell? ⟨g7, 0, none⟩ = some (.int .u32 (ch : Int)) := (HBX.out.cell 0).trans x0
    by_cases hz0 : z = 0
    · subst hz0
      obtain ⟨hnr, hnc, hz26⟩ := HOK.out rfl
      have r1c : V.cell? ⟨g, 1, none⟩ = some (.int .u64 (r1 : Int)) := (HR8.out.cell 1).trans (by rw [HRE.out, ← hnr]; rfl)
      have r0c : V.cell? ⟨g, 0, none⟩ = some (.int .u32 (ch : Int)) := (HR8.out.cell 0).trans (by rw [HRE.out, ← hnc]; rfl)
      subst hz26
      clear hnr hnc HOK
      go_wp2
      have hx3 : Ext w V.drew := HX8.out.drew
      have hbx : Blk V.drew g7 36 XC := HBX.out
      have hb1 : Blk V.drew (w.heap.size + 1) 24 PC := HBP.out
      have hb2 : Blk V.drew (w.heap.size + 2) 32 DC := HBO.out
      have hov2 : OwnC V.drew v s.cs := HOX.out.ext (Ext.refl _).drew
      refine startM (KeepB fun b => b < V.drew.heap.size) (by kernel_rfl) ?_
      generalize V.drew = w0 at *
      have hcx := hbx.cells
      have hcp := hb1.cells
      have hco := hb2.cells
      have HBX := Lib.hid hbx
      have HBP := Lib.hid hb1
      have HBO := Lib.hid hb2
      have HCX := Lib.hid hcx
      have HCP := Lib.hid hcp
      have HCO := Lib.hid hco
      have HOX := Lib.hid hov2
      have HX3 := Lib.hid hx3
      have hJ := NJ.start w0 Z
      have HJ := Lib.hid hJ
      clear hbx hb1 hb2 hcx hcp hco hov2 hx3 hJ HR8 HRE HRL hro HX8
      apply sharedL (fun g R W => ∃ v2, R = stc n2 v2 ∧ NJ w0 Z (some g) W v2 n2.cs)
      · intro hM
        refine takeK 0 rfl (by kernel_rfl) (by kernel_rfl) (by kernel_rfl) rfl (fun _ _ _ _ h => h) rfl (fun K hK => ?_)
        refine quiet_agg 36 (.tmp 7) rfl _ rfl XC _ Try.underlying36 rfl (state_size HXL.out) (fun W' h => KeepB.cells h HCX.out (HBX.out.lt)) ?_
        refine hK _ ?_
        simp only [Act.put, List.setIfInBounds_toArray, List.set_cons_succ, List.set_cons_zero]
        clear hK K
        refine takeK 1 rfl (by kernel_rfl) (by kernel_rfl) (by kernel_rfl) rfl (fun _ _ _ _ h => h) rfl (fun K hK => ?_)
        refine quiet_agg 24 (.tmp 4) rfl _ rfl PC _ Try.underlying24 rfl (by rw [HPL.out]; kernel_rfl) (fun W' h => KeepB.cells h HCP.out (HBP.out.lt)) ?_
        refine hK _ ?_
        simp only [Act.put, List.setIfInBounds_toArray, List.set_cons_succ, List.set_cons_zero]
        clear hK K
        refine takeK 2 rfl (by kernel_rfl) (by kernel_rfl) (by kernel_rfl) rfl (fun _ _ _ _ h => h) rfl (fun K hK => ?_)
        go_big_quiet_op
        first | refine hK _ ?_ | refine ⟨_, fun _ _ => rfl, hK _ ?_⟩
        clear hK K
        refine takeK 4 rfl (by kernel_rfl) (by kernel_rfl) (by kernel_rfl) rfl (fun _ _ _ _ h => h) rfl (fun K hK => ?_)
        refine quiet_agg 32 (.tmp 5) rfl _ rfl DC _ Try.underlying32 rfl (rop_size HDL.out) (fun W' h => KeepB.cells h HCO.out (HBO.out.lt)) ?_
        refine hK _ ?_
        simp only [Act.put, List.setIfInBounds_toArray, List.set_cons_succ, List.set_cons_zero]
        clear hK K
        refine bothM 3 10 rfl rfl (by kernel_rfl) rfl rfl (fun K hK => ?_) (fun K hK => ?_)
        · go_simp
          refine (HO1.out _).mono ?_
          rintro e w5 ⟨rfl, hx5⟩
          obtain rfl := hx5
          refine hK _ _ (fun _ _ => rfl) ?_
          clear hK K
          refine bothM 5 10 rfl rfl (by kernel_rfl) rfl rfl (fun K hK => ?_) (fun K hK => ?_)
          · go_simp
            refine (HOP.out _).mono ?_
            rintro e w6 ⟨rfl, hx6⟩
            have HJ := Lib.hid (HJ.out.step hx6)
            have hkb := HJ.out.2
            have HJ := Lib.hid HJ.out.1
            refine hK _ _ (hkb) ?_
            clear hK K
            refine bothM 6 10 rfl rfl (by kernel_rfl) rfl rfl (fun K hK => ?_) (fun K hK => ?_)
            · go_simp
              refine (HN2.out w0 _ _ HOX.out HJ.out).mono ?_
              rintro e w7 ⟨R, v2, rfl, hR, hJ, hkb2⟩
              have HJ := Lib.hid hJ
              clear hJ
              have HRR := Lib.hid hR
              clear hR
              refine hK _ _ (hkb2) ?_
              clear hK K
              refine takeK 7 rfl (by kernel_rfl) (by kernel_rfl) (by kernel_rfl) rfl (fun _ _ _ _ h => h) rfl (fun K hK => ?_)
              go_big_quiet_op
              first | refine hK _ ?_ | refine ⟨_, fun _ _ => rfl, hK _ ?_⟩
              clear hK K
              refine takeK 8 rfl (by kernel_rfl) (by kernel_rfl) (by kernel_rfl) rfl (fun _ _ _ _ h => h) rfl (fun K hK => ?_)
              go_big_quiet_op
              first | refine hK _ ?_ | refine ⟨_, fun _ _ => rfl, hK _ ?_⟩
              clear hK K
              refine takeK 9 rfl (by kernel_rfl) (by kernel_rfl) (by kernel_rfl) rfl (fun _ _ _ _ h => h) rfl (fun K hK => ?_)
              go_big_quiet_op
              first | refine hK _ ?_ | refine ⟨_, fun _ _ => rfl, hK _ ?_⟩
              clear hK K
              refine stepM 10 rfl (by kernel_rfl) rfl (fun K hK => ?_)
              refine wp_alloc_agg 36 rfl Z hz ?_
              refine hK _ _ (HJ.out.keepAlloc _) ?_
              clear hK K
              (try simp only [Act.put, List.setIfInBounds_toArray, List.set_cons_succ, List.set_cons_zero])
              have HJ := Lib.hid HJ.out.alloc
              have hJf := HJ.out
              revert hJf
              generalize w7.alloc (.cells Z.toArray 36) = W9
              generalize w7.heap.size = g9
              intro hJf
              exact hM g9 R W9 ⟨v2, HRR.out, hJf⟩
            · refine wp_alloc_agg 36 rfl Z hz ?_
              refine hK _ _ (HJ.out.keepAlloc _) ?_
              clear hK K
              (try simp only [Act.put, List.setIfInBounds_toArray, List.set_cons_succ, List.set_cons_zero])
              have HJ := Lib.hid HJ.out.alloc
              refine stepM 6 rfl (by kernel_rfl) rfl (fun K hK => ?_)
              go_simp
              refine (HN2.out w0 _ _ HOX.out HJ.out).mono ?_
              rintro e w7 ⟨R, v2, rfl, hR, hJ, hkb2⟩
              have HJ := Lib.hid hJ
              clear hJ
              have HRR := Lib.hid hR
              clear hR
              refine hK _ _ (hkb2) ?_
              clear hK K
              refine takeK 7 rfl (by kernel_rfl) (by kernel_rfl) (by kernel_rfl) rfl (fun _ _ _ _ h => h) rfl (fun K hK => ?_)
              go_big_quiet_op
              first | refine hK _ ?_ | refine ⟨_, fun _ _ => rfl, hK _ ?_⟩
              clear hK K
              refine takeK 8 rfl (by kernel_rfl) (by kernel_rfl) (by kernel_rfl) rfl (fun _ _ _ _ h => h) rfl (fun K hK => ?_)
              go_big_quiet_op
              first | refine hK _ ?_ | refine ⟨_, fun _ _ => rfl, hK _ ?_⟩
              clear hK K
              refine takeK 9 rfl (by kernel_rfl) (by kernel_rfl) (by kernel_rfl) rfl (fun _ _ _ _ h => h) rfl (fun K hK => ?_)
              go_big_quiet_op
              first | refine hK _ ?_ | refine ⟨_, fun _ _ => rfl, hK _ ?_⟩
              clear hK K
              refine relist (by kernel_rfl) (hM _ R _ ⟨v2, HRR.out, HJ.out⟩)
          · refine wp_alloc_agg 36 rfl Z hz ?_
            refine hK _ _ (HJ.out.keepAlloc _) ?_
            clear hK K
            (try simp only [Act.put, List.setIfInBounds_toArray, List.set_cons_succ, List.set_cons_zero])
            have HJ := Lib.hid HJ.out.alloc
            refine stepM 5 rfl (by kernel_rfl) rfl (fun K hK => ?_)
            go_simp
            refine (HOP.out _).mono ?_
            rintro e w6 ⟨rfl, hx6⟩
            have HJ := Lib.hid (HJ.out.step hx6)
            have hkb := HJ.out.2
            have HJ := Lib.hid HJ.out.1
            refine hK _ _ (hkb) ?_
            clear hK K
            refine stepM 6 rfl (by kernel_rfl) rfl (fun K hK => ?_)
            go_simp
            refine (HN2.out w0 _ _ HOX.out HJ.out).mono ?_
            rintro e w7 ⟨R, v2, rfl, hR, hJ, hkb2⟩
            have HJ := Lib.hid hJ
            clear hJ
            have HRR := Lib.hid hR
            clear hR
            refine hK _ _ (hkb2) ?_
            clear hK K
            refine takeK 7 rfl (by kernel_rfl) (by kernel_rfl) (by kernel_rfl) rfl (fun _ _ _ _ h => h) rfl (fun K hK => ?_)
            go_big_quiet_op
            first | refine hK _ ?_ | refine ⟨_, fun _ _ => rfl, hK _ ?_⟩
            clear hK K
            refine takeK 8 rfl (by kernel_rfl) (by kernel_rfl) (by kernel_rfl) rfl (fun _ _ _ _ h => h) rfl (fun K hK => ?_)
            go_big_quiet_op
            first | refine hK _ ?_ | refine ⟨_, fun _ _ => rfl, hK _ ?_⟩
            clear hK K
            refine takeK 9 rfl (by kernel_rfl) (by kernel_rfl) (by kernel_rfl) rfl (fun _ _ _ _ h => h) rfl (fun K hK => ?_)
            go_big_quiet_op
            first | refine hK _ ?_ | refine ⟨_, fun _ _ => rfl, hK _ ?_⟩
            clear hK K
            refine relist (by kernel_rfl) (hM _ R _ ⟨v2, HRR.out, HJ.out⟩)
        · refine wp_alloc_agg 36 rfl Z hz ?_
          refine hK _ _ (HJ.out.keepAlloc _) ?_
          clear hK K
          (try simp only [Act.put, List.setIfInBounds_toArray, List.set_cons_succ, List.set_cons_zero])
          have HJ := Lib.hid HJ.out.alloc
          refine stepM 3 rfl (by kernel_rfl) rfl (fun K hK => ?_)
          go_simp
          refine (HO1.out _).mono ?_
          rintro e w5 ⟨rfl, hx5⟩
          obtain rfl := hx5
          refine hK _ _ (fun _ _ => rfl) ?_
          clear hK K
          refine stepM 5 rfl (by kernel_rfl) rfl (fun K hK => ?_)
          go_simp
          refine (HOP.out _).mono ?_
          rintro e w6 ⟨rfl, hx6⟩
          have HJ := Lib.hid (HJ.out.step hx6)
          have hkb := HJ.out.2
          have HJ := Lib.hid HJ.out.1
          refine hK _ _ (hkb) ?_
          clear hK K
          refine stepM 6 rfl (by kernel_rfl) rfl (fun K hK => ?_)
          go_simp
          refine (HN2.out w0 _ _ HOX.out HJ.out).mono ?_
          rintro e w7 ⟨R, v2, rfl, hR, hJ, hkb2⟩
          have HJ := Lib.hid hJ
          clear hJ
          have HRR := Lib.hid hR
          clear hR
          refine hK _ _ (hkb2) ?_
          clear hK K
          refine takeK 7 rfl (by kernel_rfl) (by kernel_rfl) (by kernel_rfl) rfl (fun _ _ _ _ h => h) rfl (fun K hK => ?_)
          go_big_quiet_op
          first | refine hK _ ?_ | refine ⟨_, fun _ _ => rfl, hK _ ?_⟩
          clear hK K
          refine takeK 8 rfl (by kernel_rfl) (by kernel_rfl) (by kernel_rfl) rfl (fun _ _ _ _ h => h) rfl (fun K hK => ?_)
          go_big_quiet_op
          first | refine hK _ ?_ | refine ⟨_, fun _ _ => rfl, hK _ ?_⟩
          clear hK K
          refine takeK 9 rfl (by kernel_rfl) (by kernel_rfl) (by kernel_rfl) rfl (fun _ _ _ _ h => h) rfl (fun K hK => ?_)
          go_big_quiet_op
          first | refine hK _ ?_ | refine ⟨_, fun _ _ => rfl, hK _ ?_⟩
          clear hK K
          refine relist (by kernel_rfl) (hM _ R _ ⟨v2, HRR.out, HJ.out⟩)
      rintro g R W ⟨v2, hR, hJ⟩
      have hgb := hJ.blk g rfl
      have hrl : R.length = 7 := by rw [hR]; rfl
      have hro : ∀ u ∈ R, u.oneCell' = true := by obtain ⟨A2, c2, h⟩ := hJ.own.form; rw [hR, h]; exact stc_one _ _ _ _
      have HRL := Lib.hid hrl
      have HGB := Lib.hid hgb
      have HJ := Lib.hid hJ
      have HRE := Lib.hid hR
      clear hrl hgb hJ hR
      refine stepM 11 rfl (by kernel_rfl) rfl (fun K hK => ?_)
      refine wp_store_row 36 (.tmp 11) (.tmp 82) rfl g rfl Z R _ rfl HGB.out.2 (state_size HRL.out) (by rw [HRL.out, HZL.out]) hro ?_
      refine hK _ _ (fun b hb => (setRow_only _).block _ (Nat.lt_of_lt_of_le hb HJ.out.ext.size) (by have := HGB.out.1; simp; omega)) ?_
      clear hK K
      (try simp only [Act.put, List.setIfInBounds_toArray, List.set_cons_succ, List.set_cons_zero])
      refine takeK 12 rfl (by kernel_rfl) (by kernel_rfl) (by kernel_rfl) rfl (fun _ _ _ _ h => h) rfl (fun K hK => ?_)
      go_big_quiet_op
      first | refine hK _ ?_ | refine ⟨_, fun _ _ => rfl, hK _ ?_⟩
      clear hK K
      refine doneM (by kernel_rfl) ?_ _
      have hX8 : Ext w (W.setRow g R.toArray) := grown_then (HX3.out.trans HJ.out.ext) (setRow_only _) (.inr (by rintro b ⟨⟩; have := HGB.out.1; have := HX3.out.size; omega))
      have HX8 := Lib.hid hX8
      clear hX8
      go_wp2_with (first
        | (go_at_call 9; refine (Awake _).mono ?_; rintro e w9 ⟨rfl, hx9⟩)
        | fail)
      go_ret
      exact ⟨rfl, HX8.out.trans hx9⟩
    · have hzb : (z != 0) = true := by simpa using hz0
      have hze : (z == 0) = false := by simpa using hz0
      clear HOK hz0
      go_wp2
      have hx3 : Ext w V.drew := HX8.out.drew
      have hbx : Blk V.drew g7 36 XC := HBX.out
      have hb1 : Blk V.drew (w.heap.size + 1) 24 PC := HBP.out
      have hb2 : Blk V.drew (w.heap.size + 2) 32 DC := HBO.out
      have hov2 : OwnC V.drew v s.cs := HOX.out.ext (Ext.refl _).drew
      refine startM (KeepB fun b => b < V.drew.heap.size) (by kernel_rfl) ?_
      generalize V.drew = w0 at *
      have hcx := hbx.cells
      have hcp := hb1.cells
      have hco := hb2.cells
      have HBX := Lib.hid hbx
      have HBP := Lib.hid hb1
      have HBO := Lib.hid hb2
      have HCX := Lib.hid hcx
      have HCP := Lib.hid hcp
      have HCO := Lib.hid hco
      have HOX := Lib.hid hov2
      have HX3 := Lib.hid hx3
      have hJ := NJ.start w0 Z
      have HJ := Lib.hid hJ
      clear hbx hb1 hb2 hcx hcp hco hov2 hx3 hJ HR8 HRE HRL hro HX8
      apply sharedL (fun g R W => ∃ v2, R = stc n2 v2 ∧ NJ w0 Z (some g) W v2 n2.cs)
      · intro hM
        refine takeK 0 rfl (by kernel_rfl) (by kernel_rfl) (by kernel_rfl) rfl (fun _ _ _ _ h => h) rfl (fun K hK => ?_)
        refine quiet_agg 36 (.tmp 7) rfl _ rfl XC _ Try.underlying36 rfl (state_size HXL.out) (fun W' h => KeepB.cells h HCX.out (HBX.out.lt)) ?_
        refine hK _ ?_
        simp only [Act.put, List.setIfInBounds_toArray, List.set_cons_succ, List.set_cons_zero]
        clear hK K
        refine takeK 1 rfl (by kernel_rfl) (by kernel_rfl) (by kernel_rfl) rfl (fun _ _ _ _ h => h) rfl (fun K hK => ?_)
        refine quiet_agg 24 (.tmp 4) rfl _ rfl PC _ Try.underlying24 rfl (by rw [HPL.out]; kernel_rfl) (fun W' h => KeepB.cells h HCP.out (HBP.out.lt)) ?_
        refine hK _ ?_
        simp only [Act.put, List.setIfInBounds_toArray, List.set_cons_succ, List.set_cons_zero]
        clear hK K
        refine takeK 2 rfl (by kernel_rfl) (by kernel_rfl) (by kernel_rfl) rfl (fun _ _ _ _ h => h) rfl (fun K hK => ?_)
        go_big_quiet_op
        first | refine hK _ ?_ | refine ⟨_, fun _ _ => rfl, hK _ ?_⟩
        clear hK K
        refine takeK 4 rfl (by kernel_rfl) (by kernel_rfl) (by kernel_rfl) rfl (fun _ _ _ _ h => h) rfl (fun K hK => ?_)
        refine quiet_agg 32 (.tmp 5) rfl _ rfl DC _ Try.underlying32 rfl (rop_size HDL.out) (fun W' h => KeepB.cells h HCO.out (HBO.out.lt)) ?_
        refine hK _ ?_
        simp only [Act.put, List.setIfInBounds_toArray, List.set_cons_succ, List.set_cons_zero]
        clear hK K
        refine bothM 3 10 rfl rfl (by kernel_rfl) rfl rfl (fun K hK => ?_) (fun K hK => ?_)
        · go_simp
          refine (HO1.out _).mono ?_
          rintro e w5 ⟨rfl, hx5⟩
          obtain rfl := hx5
          refine hK _ _ (fun _ _ => rfl) ?_
          clear hK K
          refine bothM 5 10 rfl rfl (by kernel_rfl) rfl rfl (fun K hK => ?_) (fun K hK => ?_)
          · go_simp
            refine (HOP.out _).mono ?_
            rintro e w6 ⟨rfl, hx6⟩
            have HJ := Lib.hid (HJ.out.step hx6)
            have hkb := HJ.out.2
            have HJ := Lib.hid HJ.out.1
            refine hK _ _ (hkb) ?_
            clear hK K
            refine bothM 6 10 rfl rfl (by kernel_rfl) rfl rfl (fun K hK => ?_) (fun K hK => ?_)
            · go_simp
              refine (HN2.out w0 _ _ HOX.out HJ.out).mono ?_
              rintro e w7 ⟨R, v2, rfl, hR, hJ, hkb2⟩
              have HJ := Lib.hid hJ
              clear hJ
              have HRR := Lib.hid hR
              clear hR
              refine hK _ _ (hkb2) ?_
              clear hK K
              refine takeK 7 rfl (by kernel_rfl) (by kernel_rfl) (by kernel_rfl) rfl (fun _ _ _ _ h => h) rfl (fun K hK => ?_)
              go_big_quiet_op
              first | refine hK _ ?_ | refine ⟨_, fun _ _ => rfl, hK _ ?_⟩
              clear hK K
              refine takeK 8 rfl (by kernel_rfl) (by kernel_rfl) (by kernel_rfl) rfl (fun _ _ _ _ h => h) rfl (fun K hK => ?_)
              go_big_quiet_op
              first | refine hK _ ?_ | refine ⟨_, fun _ _ => rfl, hK _ ?_⟩
              clear hK K
              refine takeK 9 rfl (by kernel_rfl) (by kernel_rfl) (by kernel_rfl) rfl (fun _ _ _ _ h => h) rfl (fun K hK => ?_)
              go_big_quiet_op
              first | refine hK _ ?_ | refine ⟨_, fun _ _ => rfl, hK _ ?_⟩
              clear hK K
              refine stepM 10 rfl (by kernel_rfl) rfl (fun K hK => ?_)
              refine wp_alloc_agg 36 rfl Z hz ?_
              refine hK _ _ (HJ.out.keepAlloc _) ?_
              clear hK K
              (try simp only [Act.put, List.setIfInBounds_toArray, List.set_cons_succ, List.set_cons_zero])
              have HJ := Lib.hid HJ.out.alloc
              have hJf := HJ.out
              revert hJf
              generalize w7.alloc (.cells Z.toArray 36) = W9
              generalize w7.heap.size = g9
              intro hJf
              exact hM g9 R W9 ⟨v2, HRR.out, hJf⟩
            · refine wp_alloc_agg 36 rfl Z hz ?_
              refine hK _ _ (HJ.out.keepAlloc _) ?_
              clear hK K
              (try simp only [Act.put, List.setIfInBounds_toArray, List.set_cons_succ, List.set_cons_zero])
              have HJ := Lib.hid HJ.out.alloc
              refine stepM 6 rfl (by kernel_rfl) rfl (fun K hK => ?_)
              go_simp
              refine (HN2.out w0 _ _ HOX.out HJ.out).mono ?_
              rintro e w7 ⟨R, v2, rfl, hR, hJ, hkb2⟩
              have HJ := Lib.hid hJ
              clear hJ
              have HRR := Lib.hid hR
              clear hR
              refine hK _ _ (hkb2) ?_
              clear hK K
              refine takeK 7 rfl (by kernel_rfl) (by kernel_rfl) (by kernel_rfl) rfl (fun _ _ _ _ h => h) rfl (fun K hK => ?_)
              go_big_quiet_op
              first | refine hK _ ?_ | refine ⟨_, fun _ _ => rfl, hK _ ?_⟩
              clear hK K
              refine takeK 8 rfl (by kernel_rfl) (by kernel_rfl) (by kernel_rfl) rfl (fun _ _ _ _ h => h) rfl (fun K hK => ?_)
              go_big_quiet_op
              first | refine hK _ ?_ | refine ⟨_, fun _ _ => rfl, hK _ ?_⟩
              clear hK K
              refine takeK 9 rfl (by kernel_rfl) (by kernel_rfl) (by kernel_rfl) rfl (fun _ _ _ _ h => h) rfl (fun K hK => ?_)
              go_big_quiet_op
              first | refine hK _ ?_ | refine ⟨_, fun _ _ => rfl, hK _ ?_⟩
              clear hK K
              refine relist (by kernel_rfl) (hM _ R _ ⟨v2, HRR.out, HJ.out⟩)
          · refine wp_alloc_agg 36 rfl Z hz ?_
            refine hK _ _ (HJ.out.keepAlloc _) ?_
            clear hK K
            (try simp only [Act.put, List.setIfInBounds_toArray, List.set_cons_succ, List.set_cons_zero])
            have HJ := Lib.hid HJ.out.alloc
            refine stepM 5 rfl (by kernel_rfl) rfl (fun K hK => ?_)
            go_simp
            refine (HOP.out _).mono ?_
            rintro e w6 ⟨rfl, hx6⟩
            have HJ := Lib.hid (HJ.out.step hx6)
            have hkb := HJ.out.2
            have HJ := Lib.hid HJ.out.1
            refine hK _ _ (hkb) ?_
            clear hK K
            refine stepM 6 rfl (by kernel_rfl) rfl (fun K hK => ?_)
            go_simp
            refine (HN2.out w0 _ _ HOX.out HJ.out).mono ?_
            rintro e w7 ⟨R, v2, rfl, hR, hJ, hkb2⟩
            have HJ := Lib.hid hJ
            clear hJ
            have HRR := Lib.hid hR
            clear hR
            refine hK _ _ (hkb2) ?_
            clear hK K
            refine takeK 7 rfl (by kernel_rfl) (by kernel_rfl) (by kernel_rfl) rfl (fun _ _ _ _ h => h) rfl (fun K hK => ?_)
            go_big_quiet_op
            first | refine hK _ ?_ | refine ⟨_, fun _ _ => rfl, hK _ ?_⟩
            clear hK K
            refine takeK 8 rfl (by kernel_rfl) (by kernel_rfl) (by kernel_rfl) rfl (fun _ _ _ _ h => h) rfl (fun K hK => ?_)
            go_big_quiet_op
            first | refine hK _ ?_ | refine ⟨_, fun _ _ => rfl, hK _ ?_⟩
            clear hK K
            refine takeK 9 rfl (by kernel_rfl) (by kernel_rfl) (by kernel_rfl) rfl (fun _ _ _ _ h => h) rfl (fun K hK => ?_)
            go_big_quiet_op
            first | refine hK _ ?_ | refine ⟨_, fun _ _ => rfl, hK _ ?_⟩
            clear hK K
            refine relist (by kernel_rfl) (hM _ R _ ⟨v2, HRR.out, HJ.out⟩)
        · refine wp_alloc_agg 36 rfl Z hz ?_
          refine hK _ _ (HJ.out.keepAlloc _) ?_
          clear hK K
          (try simp only [Act.put, List.setIfInBounds_toArray, List.set_cons_succ, List.set_cons_zero])
          have HJ := Lib.hid HJ.out.alloc
          refine stepM 3 rfl (by kernel_rfl) rfl (fun K hK => ?_)
          go_simp
          refine (HO1.out _).mono ?_
          rintro e w5 ⟨rfl, hx5⟩
          obtain rfl := hx5
          refine hK _ _ (fun _ _ => rfl) ?_
          clear hK K
          refine stepM 5 rfl (by kernel_rfl) rfl (fun K hK => ?_)
          go_simp
          refine (HOP.out _).mono ?_
          rintro e w6 ⟨rfl, hx6⟩
          have HJ := Lib.hid (HJ.out.step hx6)
          have hkb := HJ.out.2
          have HJ := Lib.hid HJ.out.1
          refine hK _ _ (hkb) ?_
          clear hK K
          refine stepM 6 rfl (by kernel_rfl) rfl (fun K hK => ?_)
          go_simp
          refine (HN2.out w0 _ _ HOX.out HJ.out).mono ?_
          rintro e w7 ⟨R, v2, rfl, hR, hJ, hkb2⟩
          have HJ := Lib.hid hJ
          clear hJ
          have HRR := Lib.hid hR
          clear hR
          refine hK _ _ (hkb2) ?_
          clear hK K
          refine takeK 7 rfl (by kernel_rfl) (by kernel_rfl) (by kernel_rfl) rfl (fun _ _ _ _ h => h) rfl (fun K hK => ?_)
          go_big_quiet_op
          first | refine hK _ ?_ | refine ⟨_, fun _ _ => rfl, hK _ ?_⟩
          clear hK K
          refine takeK 8 rfl (by kernel_rfl) (by kernel_rfl) (by kernel_rfl) rfl (fun _ _ _ _ h => h) rfl (fun K hK => ?_)
          go_big_quiet_op
          first | refine hK _ ?_ | refine ⟨_, fun _ _ => rfl, hK _ ?_⟩
          clear hK K
          refine takeK 9 rfl (by kernel_rfl) (by kernel_rfl) (by kernel_rfl) rfl (fun _ _ _ _ h => h) rfl (fun K hK => ?_)
          go_big_quiet_op
          first | refine hK _ ?_ | refine ⟨_, fun _ _ => rfl, hK _ ?_⟩
          clear hK K
          refine relist (by kernel_rfl) (hM _ R _ ⟨v2, HRR.out, HJ.out⟩)
      rintro g R W ⟨v2, hR, hJ⟩
      have hgb := hJ.blk g rfl
      have hrl : R.length = 7 := by rw [hR]; rfl
      have hro : ∀ u ∈ R, u.oneCell' = true := by obtain ⟨A2, c2, h⟩ := hJ.own.form; rw [hR, h]; exact stc_one _ _ _ _
      have HRL := Lib.hid hrl
      have HGB := Lib.hid hgb
      have HJ := Lib.hid hJ
      have HRE := Lib.hid hR
      clear hrl hgb hJ hR
      refine stepM 11 rfl (by kernel_rfl) rfl (fun K hK => ?_)
      refine wp_store_row 36 (.tmp 11) (.tmp 82) rfl g rfl Z R _ rfl HGB.out.2 (state_size HRL.out) (by rw [HRL.out, HZL.out]) hro ?_
      refine hK _ _ (fun b hb => (setRow_only _).block _ (Nat.lt_of_lt_of_le hb HJ.out.ext.size) (by have := HGB.out.1; simp; omega)) ?_
      clear hK K
      (try simp only [Act.put, List.setIfInBounds_toArray, List.set_cons_succ, List.set_cons_zero])
      refine takeK 12 rfl (by kernel_rfl) (by kernel_rfl) (by kernel_rfl) rfl (fun _ _ _ _ h => h) rfl (fun K hK => ?_)
      go_big_quiet_op
      first | refine hK _ ?_ | refine ⟨_, fun _ _ => rfl, hK _ ?_⟩
      clear hK K
      refine doneM (by kernel_rfl) ?_ _
      have hX8 : Ext w (W.setRow g R.toArray) := grown_then (HX3.out.trans HJ.out.ext) (setRow_only _) (.inr (by rintro b ⟨⟩; have := HGB.out.1; have := HX3.out.size; omega))
      have HX8 := Lib.hid hX8
      have hz2n : (z2 != 0) = true := by simpa using HZ2.out
      clear hX8
      go_wp2_with (first
        | (go_at_call 9; refine (Awake _).mono ?_; rintro e w9 ⟨rfl, hx9⟩)
        | fail)
      go_ret
      exact ⟨rfl, HX8.out.trans hx9⟩
end Go.Proofs.Ytnpolfihbfdggaa

/- Walk of the document's Same of layer 12. Conditions: the states' numbers are in their bounds. -/
import Derived.Test.YtnpolfihbfdggaaPRef12
import Derived.Test.YtnpolfihbfdggaaPTo12
import Derived.Test.YtnpolfihbfdggaaPSame
set_option linter.unusedVariables false
set_option linter.unusedSimpArgs false
set_option linter.unnecessarySimpa false
namespace Go.Proofs.Ytnpolfihbfdggaa
open Go.RowKit

theorem two_ne {a b c d : Nat} (ha : a < M64) (hb : b < M64) (hc : c < M64) (hd : d < M64) (W : World) : (binOp .neq 24 (.agg #[.int .u64 (a : Int), .int .u64 (b : Int)]) (.agg #[.int .u64 (c : Int), .int .u64 (d : Int)])).run Try.prog W = .ok (.bool (!(a == c && b == d))) W := by
  have h := run_neTy (P := Try.prog) (.arr 2 (.nat .u64)) 24 (by kernel_rfl) (by decide) W W W (fun _ => True) (fun _ => True) _ _ _ _ (two_holds ha hb) (two_holds hc hd) (fun _ => rfl)
  rw [h]
  show Result.ok (Value.bool (!(a == c && (b == d && true)))) W = _
  rw [Bool.and_true]
set_option maxRecDepth 100000 in
set_option maxHeartbeats 4000000 in
theorem RSame (s t : St) (v u : Value) (w : World) (F : Fp) (hs : StOk s) (ht : StOk t) (hc : Conds w F v s.cs) (hd : Conds w F u t.cs) (hF : ∀ b, F b → b < w.heap.size) :
    Calls Try.prog 14 #[stv s v, stv t u] w fun e w' => e = .returned (.bool (sameM s t)) ∧ Ext w w' := by
  obtain ⟨res, hres⟩ : ∃ res, res = sameM s t := ⟨_, rfl⟩
  rw [← hres]
  have e : sameM s t = (((s.chan : Int) == (t.chan : Int)) && (((s.round : Int) == (t.round : Int)) && ((s.m0 == t.m0 && s.m1 == t.m1) && ((s.t0 == t.t0 && s.t1 == t.t1) && condsEq s.cs t.cs)))) := by rw [nat_beq, nat_beq]; rfl
  rw [e] at hres
  clear e
  obtain ⟨cs, hcs⟩ : ∃ cs, cs = s.cs := ⟨_, rfl⟩
  obtain ⟨ds, hds⟩ : ∃ ds, ds = t.cs := ⟨_, rfl⟩
  rw [← hcs] at hc hres
  rw [← hds] at hd hres
  clear hcs hds
  obtain ⟨A, c, xs, rfl, hlc, hcm, hA, hcell, hall⟩ := conds_open hc
  obtain ⟨B, d, ys, rfl, hld, hdm, hB, hcel2, hal2⟩ := conds_open hd
  clear hc hd
  unfold maxLen at hcm hdm
  have hx0 : Ext w ((w.alloc (.cells (stc s (.slice A (List.length (α := Cd) cs) c)).toArray 27)).alloc (.cells (stc t (.slice B (List.length (α := Cd) ds) d)).toArray 27)) := ((Ext.refl w).alloc _).alloc _
  have HX0 := Lib.hid hx0
  have hgd : Try.prog.eqGuardType Try.prog.depth 24 = false := by kernel_rfl
  have hgq : ∀ (x y : Operand) (a b : Array Value) (W : World), (eqGuard .neq 24 x y (.agg a) (.agg b)).run Try.prog W = .ok () W := fun x y a b W => run_eqGuard W .neq _ x y a b (.inr rfl) hgd
  have hqm := two_ne hs.m0 hs.m1 ht.m0 ht.m1
  have hqt := two_ne hs.t0 hs.t1 ht.t0 ht.t1
  have hgt : Try.prog.eqGuardType Try.prog.depth 30 = false := by kernel_rfl
  clear hx0 hgd
  generalize (s.m0 == t.m0 && s.m1 == t.m1) = bm at *
  generalize (s.t0 == t.t0 && s.t1 == t.t1) = bt at *
  have HRES := Lib.hid hres
  clear hres
  cases h1 : ((s.chan : Int) == (t.chan : Int))
  · have n1 : ((s.chan : Int) != (t.chan : Int)) = true := by rw [bne, h1]; rfl
    rw [h1, Bool.false_and] at HRES
    go_enter Try.func14, Try.ntmps14
    go_wp2
    go_ret
    exact ⟨by rw [HRES.out]; rfl, HX0.out⟩
  have n1 : ((s.chan : Int) != (t.chan : Int)) = false := by rw [bne, h1]; rfl
  rw [h1, Bool.true_and] at HRES
  cases h2 : ((s.round : Int) == (t.round : Int))
  · have n2 : ((s.round : Int) != (t.round : Int)) = true := by rw [bne, h2]; rfl
    rw [h2, Bool.false_and] at HRES
    go_enter Try.func14, Try.ntmps14
    go_wp2
    go_ret
    exact ⟨by rw [HRES.out]; rfl, HX0.out⟩
  have n2 : ((s.round : Int) != (t.round : Int)) = false := by rw [bne, h2]; rfl
  rw [h2, Bool.true_and] at HRES
  cases bm
  · rw [Bool.false_and] at HRES
    simp only [Bool.not_false] at hqm
    go_enter Try.func14, Try.ntmps14
    go_wp2
    go_ret
    exact ⟨by rw [HRES.out]; rfl, HX0.out⟩
  rw [Bool.true_and] at HRES
  simp only [Bool.not_true] at hqm
  cases bt
  · rw [Bool.false_and] at HRES
    simp only [Bool.not_false] at hqt
    go_enter Try.func14, Try.ntmps14
    go_wp2
    go_ret
    exact ⟨by rw [HRES.out]; rfl, HX0.out⟩
  rw [Bool.true_and] at HRES
  simp only [Bool.not_true] at hqt
  by_cases hln : List.length (α := Cd) cs = List.length (α := Cd) ds
  · have hb2 : ((List.length (α := Cd) cs : Int) != (List.length (α := Cd) ds : Int)) = false := by rw [hln]; exact bne_self_eq_false _
    have HLN := Lib.hid hln
    have hba : Blk ((w.alloc (.cells (stc s (.slice A (List.length (α := Cd) cs) c)).toArray 27)).alloc (.cells (stc t (.slice B (List.length (α := Cd) ds) d)).toArray 27)) w.heap.size 27 (stc s (.slice A (List.length (α := Cd) cs) c)) := (Blk.new _ _ _).keep ((Ext.refl _).alloc _) (by simp)
    have hbb : Blk ((w.alloc (.cells (stc s (.slice A (List.length (α := Cd) cs) c)).toArray 27)).alloc (.cells (stc t (.slice B (List.length (α := Cd) ds) d)).toArray 27)) (w.heap.size + 1) 27 (stc t (.slice B (List.length (α := Cd) ds) d)) := Blk.new_at (by simp) _ _
    have HBA := Lib.hid hba
    have HBB := Lib.hid hbb
    clear hba hbb hln
    go_enter Try.func14, Try.ntmps14
    go_wp2
    go_loopw [5] (fun i wr => ∃ k : Nat, k ≤ List.length (α := Cd) cs ∧ i = .int .i64 k ∧ Ext ((w.alloc (.cells (stc s (.slice A (List.length (α := Cd) cs) c)).toArray 27)).alloc (.cells (stc t (.slice B (List.length (α := Cd) ds) d)).toArray 27)) wr ∧ condsEq cs ds = eqvL CondT.eqv (cs.drop k) (ds.drop k)) (fun i _ => List.length (α := Cd) cs - (intOf i).toNat)
    case atStart => exact ⟨0, by omega, rfl, Ext.refl _, rfl⟩
    case round =>
      obtain ⟨k, hk, rfl, hx, heq⟩ := hrel
      have ca0 := ((HBA.out.keep hx (by simp)).cell 6)
      have cb0 := ((HBB.out.keep hx (by simp)).cell 6)
      have ca : wr.cell? ⟨w.heap.size, 6, none⟩ = some (.slice A (List.length (α := Cd) cs) c) := ca0.trans rfl
      have cb : wr.cell? ⟨w.heap.size + 1, 6, none⟩ = some (.slice B (List.length (α := Cd) ds) d) := cb0.trans rfl
      clear ca0 cb0
      by_cases hlt : k < List.length (α := Cd) cs
      · have hlt2 : k < List.length (α := Cd) ds := by have := HLN.out; omega
        obtain ⟨ad, rfl, hf, hcells⟩ := hcell (by omega)
        obtain ⟨bd, rfl, hf2, hcells2⟩ := hcel2 (by omega)
        have hxw := HX0.out.trans hx
        obtain ⟨hc1, hok1⟩ := conds_at hall (hcells.keep (hxw.same hF _ hf)) hlt
        obtain ⟨hc2, hok2⟩ := conds_at hal2 (hcells2.keep (hxw.same hF _ hf2)) hlt2
        have hdr := conds_drop cs ds k hlt hlt2
        rw [hdr] at heq
        generalize hg1 : cs[k] = c1 at *
        generalize hg2 : ds[k] = c2 at *
        have HH1 := Lib.hid ((condT_iff (w := w) (F := F)).2 ⟨rfl, hok1⟩)
        have HH2 := Lib.hid ((condT_iff (w := w) (F := F)).2 ⟨rfl, hok2⟩)
        have HL1 := Lib.hid (condCells_len hok1)
        have HL2 := Lib.hid (condCells_len hok2)
        generalize condCells c1 = C1 at *
        generalize condCells c2 = C2 at *
        have hc1 : Cells wr.drew (ad.add (k * 36)) C1 := hc1
        have hc2 : Cells wr.drew (bd.add (k * 36)) C2 := hc2
        have ca : wr.drew.cell? ⟨w.heap.size, 6, none⟩ = some (.slice (some ad) (List.length (α := Cd) cs) c) := ca
        have cb : wr.drew.cell? ⟨w.heap.size + 1, 6, none⟩ = some (.slice (some bd) (List.length (α := Cd) ds) d) := cb
        have HC1 := Lib.hid hc1
        have HC2 := Lib.hid hc2
        have HX := Lib.hid hx.drew
        have HE := Lib.hid heq
        have k0 : (0 : Int) ≤ (k : Int) := by omega
        have k1 : (k : Int) < (List.length (α := Cd) cs : Int) := by omega
        have k2 : (k : Int) < (List.length (α := Cd) ds : Int) := by omega
        clear hc1 hc2 hx heq hg1 hg2 hdr hcells hcells2 hxw
        cases hbq : CondT.eqv c1 c2
        all_goals
          have HEQ := Lib.hid hbq
          rw [hbq] at HE
          clear hbq
        · rw [Bool.false_and] at HE
          have hr : res = false := by rw [HRES.out, HE.out]
          have HR := Lib.hid hr
          clear hr
          go_wp2
          refine startM Since (by kernel_rfl) ?_
          refine takeE 0 rfl (by kernel_rfl) (by kernel_rfl) (by kernel_rfl) rfl (fun _ _ _ _ h => h) rfl (fun K hK => ?_)
          go_big_quiet_op
          first | refine hK _ ?_ | refine ⟨_, fun _ _ => rfl, hK _ ?_⟩
          clear hK K
          refine takeE 1 rfl (by kernel_rfl) (by kernel_rfl) (by kernel_rfl) rfl (fun _ _ _ _ h => h) rfl (fun K hK => ?_)
          refine quiet_cell _ _ rfl _ rfl _ _ Try.underlying25 rfl (fun W' h => World.grownBy.cell h.ext ca (by simp)) ?_
          refine hK _ ?_
          simp only [Act.put, List.setIfInBounds_toArray, List.set_cons_succ, List.set_cons_zero]
          clear hK K
          refine takeE 2 rfl (by kernel_rfl) (by kernel_rfl) (by kernel_rfl) rfl (fun _ _ _ _ h => h) rfl (fun K hK => ?_)
          go_big_quiet_op
          first | refine hK _ ?_ | refine ⟨_, fun _ _ => rfl, hK _ ?_⟩
          clear hK K
          refine takeE 3 rfl (by kernel_rfl) (by kernel_rfl) (by kernel_rfl) rfl (fun _ _ _ _ h => h) rfl (fun K hK => ?_)
          go_big_quiet_op
          first | refine hK _ ?_ | refine ⟨_, fun _ _ => rfl, hK _ ?_⟩
          clear hK K
          refine takeE 4 rfl (by kernel_rfl) (by kernel_rfl) (by kernel_rfl) rfl (fun _ _ _ _ h => h) rfl (fun K hK => ?_)
          refine quiet_agg 30 (.tmp 51) rfl _ rfl C1 _ Try.underlying30 rfl (rcond_size HL1.out) (fun W' h => HC1.out.keep (h.ext.block _ (HC1.out.lt (by intro e; have := HL1.out; rw [e] at this; simp at this)) (by simp))) ?_
          refine hK _ ?_
          simp only [Act.put, List.setIfInBounds_toArray, List.set_cons_succ, List.set_cons_zero]
          clear hK K
          refine takeE 5 rfl (by kernel_rfl) (by kernel_rfl) (by kernel_rfl) rfl (fun _ _ _ _ h => h) rfl (fun K hK => ?_)
          go_big_quiet_op
          first | refine hK _ ?_ | refine ⟨_, fun _ _ => rfl, hK _ ?_⟩
          clear hK K
          refine takeE 6 rfl (by kernel_rfl) (by kernel_rfl) (by kernel_rfl) rfl (fun _ _ _ _ h => h) rfl (fun K hK => ?_)
          refine quiet_cell _ _ rfl _ rfl _ _ Try.underlying25 rfl (fun W' h => World.grownBy.cell h.ext cb (by simp)) ?_
          refine hK _ ?_
          simp only [Act.put, List.setIfInBounds_toArray, List.set_cons_succ, List.set_cons_zero]
          clear hK K
          refine takeE 7 rfl (by kernel_rfl) (by kernel_rfl) (by kernel_rfl) rfl (fun _ _ _ _ h => h) rfl (fun K hK => ?_)
          go_big_quiet_op
          first | refine hK _ ?_ | refine ⟨_, fun _ _ => rfl, hK _ ?_⟩
          clear hK K
          refine takeE 8 rfl (by kernel_rfl) (by kernel_rfl) (by kernel_rfl) rfl (fun _ _ _ _ h => h) rfl (fun K hK => ?_)
          go_big_quiet_op
          first | refine hK _ ?_ | refine ⟨_, fun _ _ => rfl, hK _ ?_⟩
          clear hK K
          refine takeE 9 rfl (by kernel_rfl) (by kernel_rfl) (by kernel_rfl) rfl (fun _ _ _ _ h => h) rfl (fun K hK => ?_)
          refine quiet_agg 30 (.tmp 56) rfl _ rfl C2 _ Try.underlying30 rfl (rcond_size HL2.out) (fun W' h => HC2.out.keep (h.ext.block _ (HC2.out.lt (by intro e; have := HL2.out; rw [e] at this; simp at this)) (by simp))) ?_
          refine hK _ ?_
          simp only [Act.put, List.setIfInBounds_toArray, List.set_cons_succ, List.set_cons_zero]
          clear hK K
          refine takeE 10 rfl (by kernel_rfl) (by kernel_rfl) (by kernel_rfl) rfl (fun _ _ _ _ h => h) rfl (fun K hK => ?_)
          refine quiet_neTy CondT 30 _ (.tmp 52) (.tmp 57) rfl (by kernel_rfl) (by decide) hgt (fun _ => rfl) (W1 := w) (W2 := w) (F1 := F) (F2 := F) C1 C2 c1 c2 rfl rfl HH1.out HH2.out ?_
          rw [HEQ.out]
          refine hK _ ?_
          simp only [Act.put, List.setIfInBounds_toArray, List.set_cons_succ, List.set_cons_zero]
          clear hK K
          refine doneM (by kernel_rfl) ?_ _
          go_wp2
          go_ret
          exact ⟨by rw [HR.out]; rfl, HX0.out.trans HX.out⟩
        · rw [Bool.true_and] at HE
          go_wp2
          refine startM Since (by kernel_rfl) ?_
          refine takeE 0 rfl (by kernel_rfl) (by kernel_rfl) (by kernel_rfl) rfl (fun _ _ _ _ h => h) rfl (fun K hK => ?_)
          go_big_quiet_op
          first | refine hK _ ?_ | refine ⟨_, fun _ _ => rfl, hK _ ?_⟩
          clear hK K
          refine takeE 1 rfl (by kernel_rfl) (by kernel_rfl) (by kernel_rfl) rfl (fun _ _ _ _ h => h) rfl (fun K hK => ?_)
          refine quiet_cell _ _ rfl _ rfl _ _ Try.underlying25 rfl (fun W' h => World.grownBy.cell h.ext ca (by simp)) ?_
          refine hK _ ?_
          simp only [Act.put, List.setIfInBounds_toArray, List.set_cons_succ, List.set_cons_zero]
          clear hK K
          refine takeE 2 rfl (by kernel_rfl) (by kernel_rfl) (by kernel_rfl) rfl (fun _ _ _ _ h => h) rfl (fun K hK => ?_)
          go_big_quiet_op
          first | refine hK _ ?_ | refine ⟨_, fun _ _ => rfl, hK _ ?_⟩
          clear hK K
          refine takeE 3 rfl (by kernel_rfl) (by kernel_rfl) (by kernel_rfl) rfl (fun _ _ _ _ h => h) rfl (fun K hK => ?_)
          go_big_quiet_op
          first | refine hK _ ?_ | refine ⟨_, fun _ _ => rfl, hK _ ?_⟩
          clear hK K
          refine takeE 4 rfl (by kernel_rfl) (by kernel_rfl) (by kernel_rfl) rfl (fun _ _ _ _ h => h) rfl (fun K hK => ?_)
          refine quiet_agg 30 (.tmp 51) rfl _ rfl C1 _ Try.underlying30 rfl (rcond_size HL1.out) (fun W' h => HC1.out.keep (h.ext.block _ (HC1.out.lt (by intro e; have := HL1.out; rw [e] at this; simp at this)) (by simp))) ?_
          refine hK _ ?_
          simp only [Act.put, List.setIfInBounds_toArray, List.set_cons_succ, List.set_cons_zero]
          clear hK K
          refine takeE 5 rfl (by kernel_rfl) (by kernel_rfl) (by kernel_rfl) rfl (fun _ _ _ _ h => h) rfl (fun K hK => ?_)
          go_big_quiet_op
          first | refine hK _ ?_ | refine ⟨_, fun _ _ => rfl, hK _ ?_⟩
          clear hK K
          refine takeE 6 rfl (by kernel_rfl) (by kernel_rfl) (by kernel_rfl) rfl (fun _ _ _ _ h => h) rfl (fun K hK => ?_)
          refine quiet_cell _ _ rfl _ rfl _ _ Try.underlying25 rfl (fun W' h => World.grownBy.cell h.ext cb (by simp)) ?_
          refine hK _ ?_
          simp only [Act.put, List.setIfInBounds_toArray, List.set_cons_succ, List.set_cons_zero]
          clear hK K
          refine takeE 7 rfl (by kernel_rfl) (by kernel_rfl) (by kernel_rfl) rfl (fun _ _ _ _ h => h) rfl (fun K hK => ?_)
          go_big_quiet_op
          first | refine hK _ ?_ | refine ⟨_, fun _ _ => rfl, hK _ ?_⟩
          clear hK K
          refine takeE 8 rfl (by kernel_rfl) (by kernel_rfl) (by kernel_rfl) rfl (fun _ _ _ _ h => h) rfl (fun K hK => ?_)
          go_big_quiet_op
          first | refine hK _ ?_ | refine ⟨_, fun _ _ => rfl, hK _ ?_⟩
          clear hK K
          refine takeE 9 rfl (by kernel_rfl) (by kernel_rfl) (by kernel_rfl) rfl (fun _ _ _ _ h => h) rfl (fun K hK => ?_)
          refine quiet_agg 30 (.tmp 56) rfl _ rfl C2 _ Try.underlying30 rfl (rcond_size HL2.out) (fun W' h => HC2.out.keep (h.ext.block _ (HC2.out.lt (by intro e; have := HL2.out; rw [e] at this; simp at this)) (by simp))) ?_
          refine hK _ ?_
          simp only [Act.put, List.setIfInBounds_toArray, List.set_cons_succ, List.set_cons_zero]
          clear hK K
          refine takeE 10 rfl (by kernel_rfl) (by kernel_rfl) (by kernel_rfl) rfl (fun _ _ _ _ h => h) rfl (fun K hK => ?_)
          refine quiet_neTy CondT 30 _ (.tmp 52) (.tmp 57) rfl (by kernel_rfl) (by decide) hgt (fun _ => rfl) (W1 := w) (W2 := w) (F1 := F) (F2 := F) C1 C2 c1 c2 rfl rfl HH1.out HH2.out ?_
          rw [HEQ.out]
          refine hK _ ?_
          simp only [Act.put, List.setIfInBounds_toArray, List.set_cons_succ, List.set_cons_zero]
          clear hK K
          refine doneM (by kernel_rfl) ?_ _
          go_wp2
          go_roundw
          case rel => exact ⟨k + 1, by omega, by go_num, HX.out, HE.out⟩
          case measure => simp [intOf]; omega
      · obtain rfl : k = List.length (α := Cd) cs := by omega
        have HE := Lib.hid (heq.trans (conds_end cs ds HLN.out))
        clear heq
        go_wp2
        go_ret
        exact ⟨by rw [HRES.out, HE.out]; rfl, HX0.out.trans hx⟩
  · have hb2 : ((List.length (α := Cd) cs : Int) != (List.length (α := Cd) ds : Int)) = true := bne_iff_ne.2 (by omega)
    have e : condsEq cs ds = false := eqvL_len cs ds hln
    rw [e] at HRES
    clear e hln
    go_enter Try.func14, Try.ntmps14
    go_wp2
    go_ret
    exact ⟨by rw [HRES.out]; rfl, HX0.out⟩
end Go.Proofs.Ytnpolfihbfdggaa

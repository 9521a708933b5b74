/- Walks and plain laws, put together in build order. Conditions: what each of them names. -/
import Derived.Test.YtpdkmapogncgmaaWa0175aeb67
set_option linter.unusedVariables false
set_option linter.unusedSimpArgs false
set_option linter.unnecessarySimpa false
namespace Go.Proofs.Ytpdkmapogncgmaa
section
open Go.RowKit

section
variable {P : Program}
theorem run_isAgg {t : TypeId} {d : TypeDesc} (hu : P.underlying t = some d) (w : World) : (isAgg t).run P w = .ok (isAggD d) w := by
  unfold isAgg
  rw [Sem.run_bind, run_underlying hu w]
  cases d <;> simp [isAggD]
theorem run_field_agg (t : TypeId) (n off m : Nat) (cs piece : List Value) (w : World)
    (hf : ∃ fields f d, P.underlying t = some (.struct fields) ∧ fields[n]? = some f ∧ f.offset = off ∧ P.underlying f.type = some d ∧ isAggD d = true ∧ (P.info? f.type).map (·.size) = some m)
    (hp : (cs.drop off).take m = piece) : (Instr.field t (.agg cs.toArray) n).run P w = .ok (.agg piece.toArray) w := by
  obtain ⟨fields, f, d, hu, hf, rfl, hd, ha, hi⟩ := hf
  obtain ⟨i, hi2, rfl⟩ := Option.map_eq_some_iff.1 hi
  clear hi
  unfold Instr.field
  rw [Sem.run_bind, run_underlying hu w]
  simp only [Result.andThen_ok, hf, asAgg, Sem.run_bind, Sem.run_pure, part, run_isAgg hd, ha, if_true, sizeOf, typeInfo, run_program, hi2]
  rw [← hp]
  simp
theorem run_field_cell (t : TypeId) (n off : Nat) (cs : List Value) (v : Value) (w : World)
    (hf : ∃ fields f d, P.underlying t = some (.struct fields) ∧ fields[n]? = some f ∧ f.offset = off ∧ P.underlying f.type = some d ∧ isAggD d = false)
    (hp : cs[off]? = some v) : (Instr.field t (.agg cs.toArray) n).run P w = .ok v w := by
  obtain ⟨fields, f, d, hu, hf, rfl, hd, ha⟩ := hf
  unfold Instr.field
  rw [Sem.run_bind, run_underlying hu w]
  simp [Result.andThen_ok, hf, asAgg, Sem.run_bind, Sem.run_pure, part, run_isAgg hd, ha, hp]
theorem quiet_field {C : World → Prop} {o : Oper} {a : Act} {K : Act → Prop} (t : TypeId) (x : Operand) (n : Nat) (ho : o.op = .field t x n) (off m : Nat) (cs piece : List Value)
    (hf : ∃ fields f d, P.underlying t = some (.struct fields) ∧ fields[n]? = some f ∧ f.offset = off ∧ P.underlying f.type = some d ∧ isAggD d = true ∧ (P.info? f.type).map (·.size) = some m)
    (hx : a.eval x = .agg cs.toArray) (hp : (cs.drop off).take m = piece) (h : K (a.put o.dst (.agg piece.toArray))) : o.quiet P a C K :=
  quiet_run _ (fun w _ => by
    unfold execOp
    simp only [ho, hx, Sem.run_bind, run_field_agg t n off m cs piece w hf hp, Result.andThen_ok, Sem.run_pure]) h
theorem quiet_fieldCell {C : World → Prop} {o : Oper} {a : Act} {K : Act → Prop} (t : TypeId) (x : Operand) (n : Nat) (ho : o.op = .field t x n) (off : Nat) (cs : List Value) (v : Value)
    (hf : ∃ fields f d, P.underlying t = some (.struct fields) ∧ fields[n]? = some f ∧ f.offset = off ∧ P.underlying f.type = some d ∧ isAggD d = false)
    (hx : a.eval x = .agg cs.toArray) (hp : cs[off]? = some v) (h : K (a.put o.dst v)) : o.quiet P a C K :=
  quiet_run _ (fun w _ => by
    unfold execOp
    simp only [ho, hx, Sem.run_bind, run_field_cell t n off cs v w hf hp, Result.andThen_ok, Sem.run_pure]) h
theorem wpList_field {w : World} {ops : Array Oper} {rest : List Oper} {o : Oper} {a : Act} {Q : Exit → Act → World → Prop} (hgd : o.guard = none ∨ Region.wanted o (yielded ops a.tmps) = true) (t : TypeId) (x : Operand) (n : Nat) (ho : o.op = .field t x n) (off m : Nat) (cs piece : List Value)
    (hf : ∃ fields f d, P.underlying t = some (.struct fields) ∧ fields[n]? = some f ∧ f.offset = off ∧ P.underlying f.type = some d ∧ isAggD d = true ∧ (P.info? f.type).map (·.size) = some m)
    (hx : a.eval x = .agg cs.toArray) (hp : (cs.drop off).take m = piece) (h : wpList P ops Q rest (a.put o.dst (.agg piece.toArray)) w) : wpList P ops Q (o :: rest) a w :=
  wpList_want hgd fun K hK => by
    unfold Oper.wp execOp
    simp only [ho, hx, Sem.run_bind, run_field_agg t n off m cs piece w hf hp, Result.andThen_ok, Sem.run_pure]
    exact hK _ _ h
theorem wpList_fieldCell {w : World} {ops : Array Oper} {rest : List Oper} {o : Oper} {a : Act} {Q : Exit → Act → World → Prop} (hgd : o.guard = none ∨ Region.wanted o (yielded ops a.tmps) = true) (t : TypeId) (x : Operand) (n : Nat) (ho : o.op = .field t x n) (off : Nat) (cs : List Value) (v : Value)
    (hf : ∃ fields f d, P.underlying t = some (.struct fields) ∧ fields[n]? = some f ∧ f.offset = off ∧ P.underlying f.type = some d ∧ isAggD d = false)
    (hx : a.eval x = .agg cs.toArray) (hp : cs[off]? = some v) (h : wpList P ops Q rest (a.put o.dst v) w) : wpList P ops Q (o :: rest) a w :=
  wpList_want hgd fun K hK => by
    unfold Oper.wp execOp
    simp only [ho, hx, Sem.run_bind, run_field_cell t n off cs v w hf hp, Result.andThen_ok, Sem.run_pure]
    exact hK _ _ h
/-- A load of a whole struct or array, perhaps guarded. -/
theorem wpList_loadG {w : World} {ops : Array Oper} {rest : List Oper} {o : Oper} {a : Act} {Q : Exit → Act → World → Prop} (hgd : o.guard = none ∨ Region.wanted o (yielded ops a.tmps) = true) (ty : TypeId) (x : Operand) (ho : o.op = .load ty x) (ad : Addr) (hx : a.eval x = .pointer (some ad)) (cs : List Value) (d : TypeDesc) (hu : P.underlying ty = some d) (hd : isAggD d = true) (hi : (P.info? ty).map (·.size) = some cs.length) (hc : Cells w ad cs)
    (h : wpList P ops Q rest (a.put o.dst (.agg cs.toArray)) w) : wpList P ops Q (o :: rest) a w :=
  wpList_want hgd fun K hK => by
    unfold Oper.wp execOp
    simp only [ho, hx, Instr.loadAt, Instr.sureAddr, Sem.run_bind, Sem.run_pure, Result.andThen_ok, run_load_agg w ty ad cs d hu hd hi hc]
    exact hK _ _ h
/-- A load of one cell. -/
theorem wpList_cell {w : World} {ops : Array Oper} {rest : List Oper} {o : Oper} {a : Act} {Q : Exit → Act → World → Prop} (hgd : o.guard = none ∨ Region.wanted o (yielded ops a.tmps) = true) (ty : TypeId) (x : Operand) (ho : o.op = .load ty x) (ad : Addr) (hx : a.eval x = .pointer (some ad)) (v : Value) (d : TypeDesc) (hu : P.underlying ty = some d) (hd : isAggD d = false) (hc : w.cell? ad = some v)
    (h : wpList P ops Q rest (a.put o.dst v) w) : wpList P ops Q (o :: rest) a w :=
  wpList_want hgd fun K hK => by
    unfold Oper.wp execOp
    simp only [ho, hx, Sem.run_bind, run_load_one ty ad v d hu hd hc, Sem.run_pure, Result.andThen_ok]
    exact hK _ _ h
end
end
section
open Go.RowKit
theorem szLampR {n : Nat} (h : n = 1024) : (Try.prog.info? 26).map (·.size) = some n := by subst h; kernel_rfl
theorem deep_sig : SigT.deep ≤ 10000 := by decide
theorem guardR_sig : Try.prog.eqGuardType Try.prog.depth 26 = false := by kernel_rfl
theorem val_sig (cs : List Value) : SigT.val cs = .agg cs.toArray := rfl
theorem szDigR {n : Nat} (h : n = 32) : (Try.prog.info? 31).map (·.size) = some n := by subst h; kernel_rfl
theorem szSigR {n : Nat} (h : n = 1026) : (Try.prog.info? 30).map (·.size) = some n := by subst h; kernel_rfl
set_option maxRecDepth 100000 in
set_option maxHeartbeats 8000000 in
theorem RSame05 (C : List Value) (key : Nat) (u v : Value) (ds : List Dg) (sg : SigT.Data) (w : World) (F : Fp) {W1 : World} {F1 : Fp} (hC : C.length = 1024) (hsg : SigT.holds W1 F1 C sg) (hc : Ways w F u ds) (hd : Ways w F v ds) (hF : ∀ b, F b → b < w.heap.size) :
    Calls Try.prog 17 #[.agg (sigC C key u).toArray, .agg (sigC C key v).toArray] w fun e w' => e = .returned (.bool true) ∧ Ext w w' := by
  obtain ⟨A, c, xs, rfl, hlc, hcm, hA, hcell, hall⟩ := ways_open hc
  obtain ⟨B, d', ys, rfl, hld, hdm, hB, hcel2, hal2⟩ := ways_open hd
  clear hc hd
  unfold maxLen at hcm hdm
  have hgt : Try.prog.eqGuardType Try.prog.depth 31 = false := by kernel_rfl
  have t1 := sigC_take hC key (.slice A (List.length (α := Dg) ds) c)
  have t2 := sigC_take hC key (.slice B (List.length (α := Dg) ds) d')
  have y1 := sigC_key hC key (.slice A (List.length (α := Dg) ds) c)
  have y2 := sigC_key hC key (.slice B (List.length (α := Dg) ds) d')
  have z1 := sigC_way hC key (.slice A (List.length (α := Dg) ds) c)
  have z2 := sigC_way hC key (.slice B (List.length (α := Dg) ds) d')
  have HCL := Lib.hid hC
  have HZS := Lib.hid (show (!SigT.eqv sg sg) = false by rw [(Ty.eqv_iff SigT (by decide) sg sg).2 rfl]; rfl)
  generalize sigC C key (.slice A (List.length (α := Dg) ds) c) = I1 at *
  generalize sigC C key (.slice B (List.length (α := Dg) ds) d') = I2 at *
  have hba : Blk ((w.alloc (.cells I1.toArray 30)).alloc (.cells I2.toArray 30)) w.heap.size 30 I1 := (Blk.new _ _ _).keep ((Ext.refl _).alloc _) (by simp)
  have hbb : Blk ((w.alloc (.cells I1.toArray 30)).alloc (.cells I2.toArray 30)) (w.heap.size + 1) 30 I2 := Blk.fresh (by simp) _ _
  have hx0 : Ext w ((w.alloc (.cells I1.toArray 30)).alloc (.cells I2.toArray 30)) := ((Ext.refl w).alloc _).alloc _
  have hcs : Cells ((w.alloc (.cells I1.toArray 30)).alloc (.cells I2.toArray 30)) ⟨w.heap.size, 0, none⟩ C := by have h := hba.cells.take 1024; rw [t1] at h; exact h
  have hct : Cells ((w.alloc (.cells I1.toArray 30)).alloc (.cells I2.toArray 30)) ⟨w.heap.size + 1, 0, none⟩ C := by have h := hbb.cells.take 1024; rw [t2] at h; exact h
  have ck1 := (hba.cell 1024).trans y1
  have ck2 := (hbb.cell 1024).trans y2
  have cw1 := (hba.cell 1025).trans z1
  have cw2 := (hbb.cell 1025).trans z2
  have hx9 : Ext ((w.alloc (.cells I1.toArray 30)).alloc (.cells I2.toArray 30)) ((w.alloc (.cells I1.toArray 30)).alloc (.cells I2.toArray 30)) := Ext.refl _
  have hkk : ((key : Int) != (key : Int)) = false := bne_self_eq_false _
  have hnn : ((List.length (α := Dg) ds : Int) != (List.length (α := Dg) ds : Int)) = false := bne_self_eq_false _
  have HX0 := Lib.hid hx0
  have HX9 := Lib.hid hx9
  have HBA := Lib.hid hba
  have HBB := Lib.hid hbb
  have HW1 := Lib.hid z1
  have HW2 := Lib.hid z2
  clear hx0 hx9 hba hbb z1 z2 y1 y2 t1 t2 hC
  go_enter Try.func17, Try.ntmps17
  go_wp2_with (first
    | (refine wpList_loadG (.inl rfl) 26 (.tmp 6) rfl _ rfl C _ Try.underlying26 rfl (szLampR HCL.out) hcs ?_)
    | (refine wpList_loadG (.inl rfl) 26 (.tmp 8) rfl _ rfl C _ Try.underlying26 rfl (szLampR HCL.out) hct ?_)
    | (refine wpList_neTy (.inl rfl) SigT 26 _ (.tmp 7) (.tmp 9) rfl rsig_fits deep_sig guardR_sig val_sig C C sg sg rfl rfl hsg hsg _ HZS.out ?_)
    | fail)
  go_loopw [5] (fun i wr => ∃ k : Nat, k ≤ List.length (α := Dg) ds ∧ i = .int .i64 k ∧ Ext ((w.alloc (.cells I1.toArray 30)).alloc (.cells I2.toArray 30)) wr) (fun i _ => List.length (α := Dg) ds - (intOf i).toNat)
  case atStart => exact ⟨0, by omega, rfl, HX9.out⟩
  case round =>
    obtain ⟨k, hk, rfl, hx⟩ := hrel
    have ca0 := ((HBA.out.keep hx (by simp)).cell 1025)
    have cb0 := ((HBB.out.keep hx (by simp)).cell 1025)
    have ca : wr.cell? ⟨w.heap.size, 1025, none⟩ = some (.slice A (List.length (α := Dg) ds) c) := ca0.trans HW1.out
    have cb : wr.cell? ⟨w.heap.size + 1, 1025, none⟩ = some (.slice B (List.length (α := Dg) ds) d') := cb0.trans HW2.out
    clear ca0 cb0
    by_cases hlt : k < List.length (α := Dg) ds
    · obtain ⟨ad, rfl, hf, hcells⟩ := hcell (by omega)
      obtain ⟨bd, rfl, hf2, hcells2⟩ := hcel2 (by omega)
      have hxw := HX0.out.trans hx
      obtain ⟨hc1, hok1⟩ := digs_at hall (hcells.keep (hxw.same hF _ hf)) hlt
      obtain ⟨hc2, hok2⟩ := digs_at hal2 (hcells2.keep (hxw.same hF _ hf2)) hlt
      generalize hg1 : ds[k] = d at *
      have HH1 := Lib.hid ((digT_iff (w := w) (F := F)).2 ⟨rfl, hok1⟩)
      have hl1 : (bv d).length = 32 := by simp [hok1]
      have HEQ := Lib.hid (show (!DigT.eqv d d) = false by rw [(Ty.eqv_iff DigT (by decide) d d).2 rfl]; rfl)
      have HL1 := Lib.hid hl1
      clear hl1 hok1 hok2
      generalize bv d = C1 at *
      have hc1 : Cells wr.drew (ad.add (k * 32)) C1 := hc1
      have hc2 : Cells wr.drew (bd.add (k * 32)) C1 := hc2
      have ca : wr.drew.cell? ⟨w.heap.size, 1025, none⟩ = some (.slice (some ad) (List.length (α := Dg) ds) c) := ca
      have cb : wr.drew.cell? ⟨w.heap.size + 1, 1025, none⟩ = some (.slice (some bd) (List.length (α := Dg) ds) d') := cb
      have HCA := Lib.hid hc1
      have HCB := Lib.hid hc2
      have HX := Lib.hid hx.drew
      have k0 : (0 : Int) ≤ (k : Int) := by omega
      have k1 : (k : Int) < (List.length (α := Dg) ds : Int) := by omega
      clear hc1 hc2 hx hg1 hcells hcells2 hxw
      go_wp2
      refine startM Since (by kernel_rfl) ?_
      refine takeE 0 rfl (by kernel_rfl) (by kernel_rfl) (by kernel_rfl) rfl (fun _ _ _ _ h => h) rfl (fun K hK => ?_)
      go_big_quiet_op
      first | refine hK _ ?_ | refine ⟨_, fun _ _ => rfl, hK _ ?_⟩
      clear hK K
      refine takeE 1 rfl (by kernel_rfl) (by kernel_rfl) (by kernel_rfl) rfl (fun _ _ _ _ h => h) rfl (fun K hK => ?_)
      refine quiet_cell _ _ rfl _ rfl _ _ Try.underlying28 rfl (fun W' h => World.grownBy.cell h.ext ca (by simp)) ?_
      refine hK _ ?_
      simp only [Act.put, List.setIfInBounds_toArray, List.set_cons_succ, List.set_cons_zero]
      clear hK K
      refine takeE 2 rfl (by kernel_rfl) (by kernel_rfl) (by kernel_rfl) rfl (fun _ _ _ _ h => h) rfl (fun K hK => ?_)
      go_big_quiet_op
      first | refine hK _ ?_ | refine ⟨_, fun _ _ => rfl, hK _ ?_⟩
      clear hK K
      refine takeE 3 rfl (by kernel_rfl) (by kernel_rfl) (by kernel_rfl) rfl (fun _ _ _ _ h => h) rfl (fun K hK => ?_)
      go_big_quiet_op
      first | refine hK _ ?_ | refine ⟨_, fun _ _ => rfl, hK _ ?_⟩
      clear hK K
      refine takeE 4 rfl (by kernel_rfl) (by kernel_rfl) (by kernel_rfl) rfl (fun _ _ _ _ h => h) rfl (fun K hK => ?_)
      refine quiet_agg 31 (.tmp 37) rfl _ rfl C1 _ Try.underlying31 rfl (szDigR HL1.out) (fun W' h => HCA.out.keep (h.ext.block _ (HCA.out.lt (by intro e; have := HL1.out; rw [e] at this; simp at this)) (by simp))) ?_
      refine hK _ ?_
      simp only [Act.put, List.setIfInBounds_toArray, List.set_cons_succ, List.set_cons_zero]
      clear hK K
      refine takeE 5 rfl (by kernel_rfl) (by kernel_rfl) (by kernel_rfl) rfl (fun _ _ _ _ h => h) rfl (fun K hK => ?_)
      go_big_quiet_op
      first | refine hK _ ?_ | refine ⟨_, fun _ _ => rfl, hK _ ?_⟩
      clear hK K
      refine takeE 6 rfl (by kernel_rfl) (by kernel_rfl) (by kernel_rfl) rfl (fun _ _ _ _ h => h) rfl (fun K hK => ?_)
      refine quiet_cell _ _ rfl _ rfl _ _ Try.underlying28 rfl (fun W' h => World.grownBy.cell h.ext cb (by simp)) ?_
      refine hK _ ?_
      simp only [Act.put, List.setIfInBounds_toArray, List.set_cons_succ, List.set_cons_zero]
      clear hK K
      refine takeE 7 rfl (by kernel_rfl) (by kernel_rfl) (by kernel_rfl) rfl (fun _ _ _ _ h => h) rfl (fun K hK => ?_)
      go_big_quiet_op
      first | refine hK _ ?_ | refine ⟨_, fun _ _ => rfl, hK _ ?_⟩
      clear hK K
      refine takeE 8 rfl (by kernel_rfl) (by kernel_rfl) (by kernel_rfl) rfl (fun _ _ _ _ h => h) rfl (fun K hK => ?_)
      go_big_quiet_op
      first | refine hK _ ?_ | refine ⟨_, fun _ _ => rfl, hK _ ?_⟩
      clear hK K
      refine takeE 9 rfl (by kernel_rfl) (by kernel_rfl) (by kernel_rfl) rfl (fun _ _ _ _ h => h) rfl (fun K hK => ?_)
      refine quiet_agg 31 (.tmp 42) rfl _ rfl C1 _ Try.underlying31 rfl (szDigR HL1.out) (fun W' h => HCB.out.keep (h.ext.block _ (HCB.out.lt (by intro e; have := HL1.out; rw [e] at this; simp at this)) (by simp))) ?_
      refine hK _ ?_
      simp only [Act.put, List.setIfInBounds_toArray, List.set_cons_succ, List.set_cons_zero]
      clear hK K
      refine takeE 10 rfl (by kernel_rfl) (by kernel_rfl) (by kernel_rfl) rfl (fun _ _ _ _ h => h) rfl (fun K hK => ?_)
      refine quiet_neTy DigT 31 _ (.tmp 38) (.tmp 43) rfl (by kernel_rfl) (by decide) hgt (fun _ => rfl) (W1 := w) (W2 := w) (F1 := F) (F2 := F) C1 C1 d d rfl rfl HH1.out HH1.out ?_
      rw [HEQ.out]
      refine hK _ ?_
      simp only [Act.put, List.setIfInBounds_toArray, List.set_cons_succ, List.set_cons_zero]
      clear hK K
      refine doneM (by kernel_rfl) ?_ _
      go_wp2
      go_roundw
      case rel => exact ⟨k + 1, by omega, by go_num, HX.out⟩
      case measure => simp [intOf]; omega
    · obtain rfl : k = List.length (α := Dg) ds := by omega
      go_wp2
      go_ret
      exact ⟨rfl, HX0.out.trans hx⟩
end
section
open Go.RowKit

/-- A signature whose way lies in blocks from L up to U. -/
def SigK (L U : Nat) (w : World) (M : List Value) (S : List UInt8) (key : Nat) (ds : List Dg) : Prop := ∃ v F, M = sigC (bv S) key v ∧ Ways w F v ds ∧ (∀ b, F b → L ≤ b ∧ b < U) ∧ U ≤ w.heap.size
theorem SigK.keep {L U : Nat} {w w' : World} {M : List Value} {S : List UInt8} {key : Nat} {ds : List Dg} {row : Option Nat} (h : SigK L U w M S key ds) (hg : w.grownBy w' row) (hr : ∀ g, row = some g → g < L ∨ U ≤ g) : SigK L U w' M S key ds := by
  obtain ⟨v, F, hM, hw, hF, hU⟩ := h
  refine ⟨v, F, hM, Ty.keep (t := .sl DigT) (fun b hb => hg.block b (Nat.lt_of_lt_of_le (hF b hb).2 hU) (fun e => ?_)) (fun _ h => h) hw, hF, Nat.le_trans hU hg.size⟩
  have h1 := hF b hb
  have h2 := hr b e.symm
  omega
theorem SigK.ext {L U : Nat} {w w' : World} {M : List Value} {S : List UInt8} {key : Nat} {ds : List Dg} (h : SigK L U w M S key ds) (hg : Ext w w') : SigK L U w' M S key ds := h.keep hg (by simp)
theorem SigK.own {e : TypeId} {w : World} {v : Value} {S : List UInt8} {key : Nat} {ds : List Dg} {L : Nat} (h : OwnD e w v ds) (hb : ∀ b, v.ownBlock = some b → L ≤ b) : SigK L w.heap.size w (sigC (bv S) key v) S key ds :=
  ⟨v, _, rfl, h.holds, fun b h1 => ⟨hb b h1, h.lt b h1⟩, Nat.le_refl _⟩
theorem SigK.nil {w : World} (L : Nat) : SigK L w.heap.size w zSig (List.replicate 1024 0) 0 [] :=
  ⟨.slice none 0 0, fun _ => False, rfl, ⟨_, _, [], rfl, Nat.le_refl _, by simp [maxLen], fun _ => rfl, fun h => absurd rfl h, rfl⟩, fun b h => h.elim, Nat.le_refl _⟩
theorem SigK.len {L U : Nat} {w : World} {M : List Value} {S : List UInt8} {key : Nat} {ds : List Dg} (hS : S.length = 1024) (h : SigK L U w M S key ds) : M.length = 1026 := by
  obtain ⟨v, F, rfl, _⟩ := h
  exact sigC_len (by rw [bv_length]; exact hS) _ _
theorem SigK.one {L U : Nat} {w : World} {M : List Value} {S : List UInt8} {key : Nat} {ds : List Dg} (h : SigK L U w M S key ds) : ∀ u ∈ M, u.oneCell' = true := by
  obtain ⟨v, F, rfl, hw, _⟩ := h
  obtain ⟨A, c, xs, rfl, -⟩ := ways_open hw
  exact sigC_one (bv_one _) _ _ _ _
theorem SigK.from_ {L U : Nat} {w : World} {M : List Value} {S : List UInt8} {key : Nat} {ds : List Dg} (h : SigK L U w M S key ds) (hS : S.length = 1024) (hn : List.length (α := Dg) ds ≤ 8) :
    Calls Try.prog 18 #[.agg M.toArray] w fun e w' => ∃ M', e = .returned (.agg M'.toArray) ∧ SigK w.heap.size w'.heap.size w' M' S key ds ∧ Ext w w' := by
  obtain ⟨v, F, rfl, hw, hF, hU⟩ := h
  refine (From05 (bv S) key v ds w F (by rw [bv_length]; exact hS) (bv_one S) hw (fun b hb => Nat.lt_of_lt_of_le (hF b hb).2 hU) (by omega)).mono ?_
  rintro e w' ⟨v', rfl, ho', hx, hb'⟩
  exact ⟨_, rfl, SigK.own ho' hb', hx⟩
theorem SigK.same {L U L2 U2 : Nat} {w : World} {M M2 : List Value} {S : List UInt8} {key : Nat} {ds : List Dg} (h : SigK L U w M S key ds) (hS : S.length = 1024) (h2 : SigK L2 U2 w M2 S key ds) :
    Calls Try.prog 17 #[.agg M.toArray, .agg M2.toArray] w fun e w' => e = .returned (.bool true) ∧ Ext w w' := by
  obtain ⟨v, F, rfl, hv, hF, hU⟩ := h
  obtain ⟨u, G, rfl, hu, hG, hU2⟩ := h2
  exact RSame05 (bv S) key v u ds (chunks 32 (S.take 512), chunks 32 (S.drop 512), ()) w (fun b => F b ∨ G b) (by rw [bv_length]; exact hS) (sig_holds S hS w (fun _ => True)) (Ty.keep (t := .sl DigT) (fun _ _ => rfl) (fun _ h => .inl h) hv) (Ty.keep (t := .sl DigT) (fun _ _ => rfl) (fun _ h => .inr h) hu) (fun b hb => hb.elim (fun h => Nat.lt_of_lt_of_le (hF b h).2 hU) (fun h => Nat.lt_of_lt_of_le (hG b h).2 hU2))
/-- What stands from round to round: the ring, what the law has noted, the document's rows, the boxes. -/
structure KeysI (w : World) (B1 g tb tk2 tbB : Nat) (F F2 : Fp) (R R2 : Value) (seed : List UInt8) (n : Nat) (TB SC DC : List Value) (wr : World) (tkR tkL : List Bool) : Prop where
  ext : Ext w wr
  size : B1 ≤ wr.heap.size
  ring : RingAt wr g tb F R seed n tkR
  bools : Blk wr tk2 4 (boolsC tkL)
  levs : Levs wr F2 R2 (levsM seed n)
  tabs : Blk wr tbB 44 TB
  sd : Blk wr w.heap.size 31 SC
  dg : Blk wr (w.heap.size + 1) 31 DC
  lt : g < B1 ∧ tb < B1 ∧ tk2 < B1 ∧ tbB < B1 ∧ w.heap.size + 1 < B1
  ltF : (∀ b, F b → b < B1) ∧ ∀ b, F2 b → b < B1
  new : w.heap.size + 2 ≤ g ∧ w.heap.size + 2 ≤ tb ∧ w.heap.size + 2 ≤ tk2
  ne : tk2 ≠ tb ∧ tk2 ≠ g ∧ tbB ≠ tb ∧ tbB ≠ tk2
  neF : (∀ b, F b → b ≠ tk2) ∧ ∀ b, F2 b → b ≠ tb ∧ b ≠ tk2
section
variable {w : World} {B1 g tb tk2 tbB : Nat} {F F2 : Fp} {R R2 : Value} {seed : List UInt8} {n : Nat} {TB SC DC : List Value} {wr w' : World} {tkR tkL : List Bool}
theorem KeysI.far (h : KeysI w B1 g tb tk2 tbB F F2 R R2 seed n TB SC DC wr tkR tkL) {row : Option Nat} (hg : wr.grownBy w' row) (hr : ∀ b, row = some b → B1 ≤ b) : KeysI w B1 g tb tk2 tbB F F2 R R2 seed n TB SC DC w' tkR tkL := by
  have hl := h.lt
  have hne : ∀ b, b < B1 → some b ≠ row := fun b hb e => by have := hr b e.symm; omega
  exact ⟨grown_then h.ext hg (.inr fun b e => by have := hr b e; omega), Nat.le_trans h.size hg.size, h.ring.keep hg (hne _ hl.1) (hne _ hl.2.1) (fun b hb => hne _ (h.ltF.1 b hb)), h.bools.keep hg (hne _ hl.2.2.1),
    Ty.keep (fun b hb => hg.block b (Nat.lt_of_lt_of_le (h.ltF.2 b hb) h.size) (hne _ (h.ltF.2 b hb))) (fun _ h => h) _ h.levs, h.tabs.keep hg (hne _ hl.2.2.2.1), h.sd.keep hg (hne _ (by omega)), h.dg.keep hg (hne _ hl.2.2.2.2), h.lt, h.ltF, h.new, h.ne, h.neF⟩
theorem KeysI.ring' (h : KeysI w B1 g tb tk2 tbB F F2 R R2 seed n TB SC DC wr tkR tkL) (hg : wr.grownBy w' (some tb)) {tk' : List Bool} (hr : RingAt w' g tb F R seed n tk') : KeysI w B1 g tb tk2 tbB F F2 R R2 seed n TB SC DC w' tk' tkL := by
  have hl := h.lt
  have hn := h.new
  have hne := h.ne
  have ne : ∀ b, b ≠ tb → some b ≠ some tb := fun b hb e => hb (Option.some.inj e)
  exact ⟨grown_then h.ext hg (.inr (by rintro b ⟨⟩; omega)), Nat.le_trans h.size hg.size, hr, h.bools.keep hg (ne _ hne.1),
    Ty.keep (fun b hb => hg.block b (Nat.lt_of_lt_of_le (h.ltF.2 b hb) h.size) (ne _ (h.neF.2 b hb).1)) (fun _ h => h) _ h.levs, h.tabs.keep hg (ne _ hne.2.2.1), h.sd.keep hg (ne _ (by omega)), h.dg.keep hg (ne _ (by omega)), h.lt, h.ltF, h.new, h.ne, h.neF⟩
theorem KeysI.set (h : KeysI w B1 g tb tk2 tbB F F2 R R2 seed n TB SC DC wr tkR tkL) (key : Nat) : KeysI w B1 g tb tk2 tbB F F2 R R2 seed n TB SC DC (wr.setCell ⟨tk2, key, none⟩ (.bool true)) tkR (tkL.set key true) := by
  have hg : wr.grownBy (wr.setCell ⟨tk2, key, none⟩ (.bool true)) (some tk2) := only_set key _
  have hl := h.lt
  have hn := h.new
  have hne := h.ne
  have ne : ∀ b, b ≠ tk2 → some b ≠ some tk2 := fun b hb e => hb (Option.some.inj e)
  have hb := h.bools.set key (.bool true)
  have e : (boolsC tkL).set key (.bool true) = boolsC (tkL.set key true) := by unfold boolsC; rw [List.map_set]
  rw [e] at hb
  exact ⟨grown_then h.ext hg (.inr (by rintro b ⟨⟩; omega)), Nat.le_trans h.size hg.size, h.ring.keep hg (ne _ (by omega)) (ne _ (by omega)) (fun b hb => ne _ (h.neF.1 b hb)), hb,
    Ty.keep (fun b hb => hg.block b (Nat.lt_of_lt_of_le (h.ltF.2 b hb) h.size) (ne _ (h.neF.2 b hb).2)) (fun _ h => h) _ h.levs, h.tabs.keep hg (ne _ hne.2.2.2), h.sd.keep hg (ne _ (by omega)), h.dg.keep hg (ne _ (by omega)), h.lt, h.ltF, h.new, h.ne, h.neF⟩
theorem KeysI.bit (h : KeysI w B1 g tb tk2 tbB F F2 R R2 seed n TB SC DC wr tkR tkL) {key : Nat} (hk : key < tkL.length) : wr.cell? ⟨tk2, key, none⟩ = some (.bool (takenM tkL key)) := by
  refine (h.bools.cell key).trans ?_
  simp [boolsC, takenM, List.getD, hk]
end
theorem set_taken {tk : List Bool} {key : Nat} (h : takenM tk key = true) : tk.set key true = tk := by
  apply List.ext_getElem?
  intro i
  rw [List.getElem?_set]
  by_cases hi : key = i
  · subst hi
    have hk : key < tk.length := by
      refine Classical.byContradiction fun hn => ?_
      simp [takenM, List.getD, List.getElem?_eq_none (show tk.length ≤ key by omega)] at h
    have h2 : tk[key] = true := by simpa [takenM, List.getD, hk] using h
    simp [hk, h2]
  · simp [hi]
theorem taken_set {tk : List Bool} {key : Nat} (h : key < tk.length) : takenM (tk.set key true) key = true := by simp [takenM, List.getD, h]
theorem rem_three_u8 (P : Program) (t : TypeId) (m : Nat) (w : World) : (binOp .rem t (.int .u8 (m : Int)) (.int .u8 3)).run P w = .ok (.int .u8 ((m % 3 : Nat) : Int)) w := by
  have h : (m : Int).tmod 3 = ((m % 3 : Nat) : Int) := by rw [Int.tmod_eq_emod_of_nonneg (by omega)]; rfl
  rw [← h]; rfl
theorem wpList_makeB {w : World} {ops : Array Oper} {rest : List Oper} {o : Oper} {a : Act} {Q : Exit → Act → World → Prop} (hgd : o.guard = none) (t : TypeId) (x y : Operand) (ho : o.op = .makeSlice t x y) (N : Nat) (hN : N ≤ 256) (hx : a.eval x = .int .i64 (N : Int)) (hy : a.eval y = .int .i64 (N : Int)) (ht : Try.prog.underlying t = some (.slice 4))
    (h : wpList Try.prog ops Q rest (a.put o.dst (.slice (some ⟨w.heap.size, 0, none⟩) N N)) (w.alloc (.cells (boolsC (List.replicate N false)).toArray 4))) : wpList Try.prog ops Q (o :: rest) a w :=
  wpList_plain hgd fun K hK => wp_makeB t x y ho N hN hx hy ht (hK _ _ h)
theorem skippedG {b : Bool} {A B : Prop} (h : b = false) (k : B) : if b = true then A else B := by subst h; exact k
theorem tabs_zeroK : ∃ Z : List Value, (Try.prog.info? 44).bind (fun i => i.zero.map (·.cells)) = some Z.toArray ∧ Z.length = tabsC.length := ⟨[.string ByteArray.empty, .string ByteArray.empty], by kernel_rfl, rfl⟩
theorem tabs_one : ∀ u ∈ tabsC, u.oneCell' = true := by
  intro u hu
  simp only [tabsC, List.mem_cons, List.not_mem_nil, or_false] at hu
  rcases hu with rfl | rfl <;> rfl
theorem neA_any (D : List UInt8) (hD : D.length = 32) : (∀ (x y : Operand) (w : World), (eqGuard .neq 55 x y (.agg (bv D).toArray) (.agg (bv D).toArray)).run Try.prog w = .ok () w) ∧ ∀ w, (binOp .neq 55 (.agg (bv D).toArray) (.agg (bv D).toArray)).run Try.prog w = .ok (.bool false) w :=
  ⟨fun x y w => run_eqGuard w .neq 55 x y _ _ (.inr rfl) (by kernel_rfl), fun w => by
    have h := run_neD w 55 5 32 Try.underlying55 Try.underlying5 (by kernel_rfl) D D hD hD
    rw [h]; simp⟩
end
end Go.Proofs.Ytpdkmapogncgmaa

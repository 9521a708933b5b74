/- Walks and plain laws, put together in build order. Conditions: what each of them names. -/
import Derived.Test.YtfoomnibfibfnaaW589bfc2631
set_option linter.unusedVariables false
set_option linter.unusedSimpArgs false
set_option linter.unnecessarySimpa false
namespace Go.Proofs.Ytfoomnibfibfnaa
section
open Go.RowKit
open Go.Maps (Keyed IsMap Tidy)

theorem quiet_eqB {P : Program} {C : World → Prop} {o : Oper} {a : Act} {K : Act → Prop} (t t' : TypeId) (x y : Operand) (ho : o.op = .binOp .eql t x y t') (e : TypeId) (n : Nat) (ht : P.underlying t = some (.array n e)) (he : P.underlying e = some (.int .u8)) (hi : (P.info? e).map (·.size) = some 1) (hg : P.eqGuardType P.depth t = false)
    (xs ys : List UInt8) (hx : a.eval x = .agg (bv xs).toArray) (hy : a.eval y = .agg (bv ys).toArray) (hxl : xs.length = n) (hyl : ys.length = n) (b : Bool) (hb : (xs == ys) = b) (hk : K (a.put o.dst (.bool b))) : o.quiet P a C K :=
  quiet_run _ (fun w _ => by
    subst hb
    unfold execOp
    simp only [ho, hx, hy, Sem.run_bind, run_eqGuard w .eql t x y _ _ (.inl rfl) hg, run_eqD w t e n ht he hi xs ys hxl hyl, Result.andThen_ok, Sem.run_pure]) hk
theorem KeepB.after {B : Nat → Prop} {a b c : World} (h : KeepB B a b) (k : KeepB B b c) : KeepB B a c := fun g hg => (k g hg).trans (h g hg)
theorem LAt.other {W W' : World} {B0 b : Nat} {v : Value} {L : List (List UInt8)} {a : Value} (h : LAt W B0 v L a) (hg : W.grownBy W' (some b)) (hb : b < B0) : LAt W' B0 v L a := by
  obtain ⟨xs, G, h1, h2, h3, h4, h5⟩ := h
  refine ⟨xs, G, h1.keep hg ?_, AllH.mono (fun c t _ hh => Ty.keep (t := .sl .u8) (fun g hgg => hg.block g (h3 g hgg).2.1 (by intro e; cases e; have := (h3 b hgg).1; omega)) (fun _ h => h) hh) h2, fun g hgg => ⟨(h3 g hgg).1, Nat.lt_of_lt_of_le (h3 g hgg).2.1 hg.size, (h3 g hgg).2.2⟩, h4, h5⟩
  cases e : v.ownBlock with
  | none => exact .inl rfl
  | some g => exact .inr (by intro e2; cases e2; have := h4 _ e; omega)
theorem LAt.join {W W' : World} {B B2 : Nat} {v1 v' : Value} {L1 L2 : List (List UInt8)} {xs1 xs2 : List Value} {G1 G2 : Fp} (a1 : AllH ((Ty.sl .u8).holds W G1) xs1 L1) (g1 : ∀ b, G1 b → B ≤ b ∧ b < W.heap.size ∧ v1.ownBlock ≠ some b) (b1 : ∀ b, v1.ownBlock = some b → B ≤ b)
    (a2 : AllH ((Ty.sl .u8).holds W G2) xs2 L2) (g2 : ∀ b, G2 b → B2 ≤ b ∧ b < W.heap.size) (hv : ∀ b, v1.ownBlock = some b → b < B2) (hB : B ≤ B2) (hW : B ≤ W.heap.size) (ho : Own W' 55 1 v' (L1.length + L2.length) (xs1 ++ xs2)) (hm : Moved W W' v1 v') : LAt W' B v' (L1 ++ L2) (.slice none 0 0) := by
  have g2' : ∀ b, G2 b → B ≤ b ∧ b < W.heap.size ∧ v1.ownBlock ≠ some b := fun b hb => ⟨Nat.le_trans hB (g2 b hb).1, (g2 b hb).2, fun e => by have := hv b e; have := (g2 b hb).1; omega⟩
  have hk : ∀ b, (B ≤ b ∧ b < W.heap.size ∧ v1.ownBlock ≠ some b) → W'.heap[b]? = W.heap[b]? := fun b hb => hm.grown.block b hb.2.1 (fun e => hb.2.2 e.symm)
  refine ⟨xs1 ++ xs2, fun b => G1 b ∨ G2 b, by simpa using ho, AllH.append (AllH.mono (fun c t _ hh => Ty.keep (t := .sl .u8) (fun b hb => hk b (g1 b hb)) (fun _ h => .inl h) hh) a1) (AllH.mono (fun c t _ hh => Ty.keep (t := .sl .u8) (fun b hb => hk b (g2' b hb)) (fun _ h => .inr h) hh) a2), fun b hb => ?_, fun b e => ?_, fun b e k => by simp [Value.ownBlock] at k⟩
  · have h := hb.elim (g1 b) (g2' b)
    refine ⟨h.1, Nat.lt_of_lt_of_le h.2.1 hm.grown.size, fun e => ?_, by simp [Value.ownBlock]⟩
    rcases hm.at_ with e2 | hn
    · exact h.2.2 (e2.symm.trans e)
    · have := hn b e; omega
  · rcases hm.at_ with e2 | hn
    · exact b1 b (e2.symm.trans e)
    · have := hn b e; omega
theorem ROf (vp : Value) (p : List UInt8) (w : World) (F : Fp) (hp : (Ty.sl .u8).holds w F [vp] p) (hF : ∀ b, F b → b < w.heap.size) (hb : p.length ≤ 2000) :
    Calls Try.prog 38 #[.agg tabsC.toArray, vp] w fun e w' => e = .returned (.agg (bv (sha p)).toArray) ∧ Ext w w' := Ref_Of tabFirst tabRounds vp p w F tab_first tab_rounds hp hF (by omega)
theorem RMake (w : World) : Calls Try.prog 8 #[] w fun e w' => e = .returned (.agg tabsC.toArray) ∧ Ext w w' := Ref_Make w
theorem tabs_one' : ∀ u ∈ tabsC, u.oneCell' = true := by
  intro u hu
  simp only [tabsC, List.mem_cons, List.not_mem_nil, or_false] at hu
  rcases hu with rfl | rfl <;> rfl
theorem b16_zero : (Try.prog.info? 34).bind (fun i => i.zero.map (·.cells)) = some (bv (List.replicate 16 0)).toArray := by kernel_rfl
theorem b16_size {n : Nat} (h : n = 16) : (Try.prog.info? 34).map (·.size) = some n := by subst h; kernel_rfl
theorem OwnT.same {w w' : World} {b n : Nat} {D : DU} (h : OwnT w b n D) (hk : w'.heap[b]? = w.heap[b]?) : OwnT w' b n D := by
  obtain ⟨es, clock, hb, r⟩ := h
  exact ⟨es, clock, hk.trans hb, r⟩
set_option maxRecDepth 100000 in
set_option maxHeartbeats 8000000 in
theorem Met (A B d e : List UInt8) (hA : A.length = 1024) (hB : B.length = 1024) (hd : d.length = 32) (he : e.length = 32) (w : World) :
    Calls Try.prog 20 #[.agg (bv A).toArray, .agg (bv B).toArray, .agg (bv d).toArray, .agg (bv e).toArray] w fun en w' => ∃ r : Bool, en = .returned (.bool r) ∧ (MetP A B d e → r = true) ∧ Ext w w' := by
  obtain ⟨iL, hiL, hy0, hy1, hy2⟩ := info_parts sl_info
  have HA := Lib.hid hA
  have HB := Lib.hid hB
  have HD := Lib.hid hd
  have HE := Lib.hid he
  have htz := tables_zero
  have hu8 : (Try.prog.info? 5).map (·.size) = some 1 := by kernel_rfl
  have hgt : Try.prog.eqGuardType Try.prog.depth 35 = false := by kernel_rfl
  have hmm := @run_makeMap Try.prog
  clear hA hB hd he
  go_enter Try.func20, Try.ntmps20
  go_wp2_with fail
  have h4 : Blk ((((w.alloc (.cells (bv A).toArray 38)).alloc (.cells (bv B).toArray 38)).alloc (.cells (bv d).toArray 22)).alloc (.cells (bv e).toArray 22)) w.heap.size 38 (bv A) := (((Blk.new _ _ _).keep ((Ext.refl _).alloc _) (by simp)).keep ((Ext.refl _).alloc _) (by simp)).keep ((Ext.refl _).alloc _) (by simp)
  have h5 : Blk ((((w.alloc (.cells (bv A).toArray 38)).alloc (.cells (bv B).toArray 38)).alloc (.cells (bv d).toArray 22)).alloc (.cells (bv e).toArray 22)) (w.heap.size + 1) 38 (bv B) := ((Blk.fresh (by simp) _ _).keep ((Ext.refl _).alloc _) (by simp)).keep ((Ext.refl _).alloc _) (by simp)
  have h6 : Blk ((((w.alloc (.cells (bv A).toArray 38)).alloc (.cells (bv B).toArray 38)).alloc (.cells (bv d).toArray 22)).alloc (.cells (bv e).toArray 22)) (w.heap.size + 1 + 1) 22 (bv d) := (Blk.fresh (by simp) _ _).keep ((Ext.refl _).alloc _) (by simp)
  have h7 : Blk ((((w.alloc (.cells (bv A).toArray 38)).alloc (.cells (bv B).toArray 38)).alloc (.cells (bv d).toArray 22)).alloc (.cells (bv e).toArray 22)) (w.heap.size + 1 + 1 + 1) 22 (bv e) := Blk.fresh (by simp) _ _
  have hx0 : Ext w ((((w.alloc (.cells (bv A).toArray 38)).alloc (.cells (bv B).toArray 38)).alloc (.cells (bv d).toArray 22)).alloc (.cells (bv e).toArray 22)) := ((((Ext.refl w).alloc _).alloc _).alloc _).alloc _
  generalize ((((w.alloc (.cells (bv A).toArray 38)).alloc (.cells (bv B).toArray 38)).alloc (.cells (bv d).toArray 22)).alloc (.cells (bv e).toArray 22)) = w1 at h4 h5 h6 h7 hx0 ⊢
  refine (RMake w1).mono ?_
  rintro en w2 ⟨rfl, hx2⟩
  have h9 : Blk (w2.alloc (.cells tabsC.toArray 25)) w2.heap.size 25 tabsC := Blk.new _ _ _
  have hx3 : Ext w1 (w2.alloc (.cells tabsC.toArray 25)) := hx2.alloc _
  have HB4 := Lib.hid (h4.keep hx3 (by simp))
  have HB5 := Lib.hid (h5.keep hx3 (by simp))
  have HB6 := Lib.hid (h6.keep hx3 (by simp))
  have HB7 := Lib.hid (h7.keep hx3 (by simp))
  have HB9 := Lib.hid h9
  have HX0 := Lib.hid (hx0.trans hx3)
  clear h4 h5 h6 h7 hx0 hx2 hx3 h9
  go_wp2_with (first
    | ((with_reducible refine wpDst 9 rfl ?_); refine wpList_alloc _ rfl 25 rfl _ htz ?_)
    | ((with_reducible refine wpSto 9 18 rfl ?_); refine wpList_storeN rfl 25 _ _ rfl _ rfl _ tabsC _ rfl rfl (tabs_size rfl) rfl tabs_one' ?_)
    | fail)
  generalize w2.alloc (.cells tabsC.toArray 25) = w3 at HB4 HB5 HB6 HB7 HB9 HX0 ⊢
  generalize w2.heap.size = g9 at HB9 ⊢
  go_loopw [19] (fun i wr => ∃ k : Nat, k ≤ 32 ∧ i = .int .i64 k ∧ Ext w3 wr ∧ ∀ j, j < k → coverM (opS A j) ≠ otS A j ∧ coverM (opS B j) ≠ otS B j) (fun i _ => 32 - (intOf i).toNat)
  case atStart => exact ⟨0, by omega, rfl, Ext.refl _, fun j hj => by omega⟩
  case round =>
    obtain ⟨k, hk, rfl, hx, hno⟩ := hrel
    have HNO := Lib.hid hno
    clear hno
    by_cases hlt : k < 32
    · have hcell : ∀ (b : Nat) (C : List UInt8), Blk w3 b 38 (bv C) → Cells w3 ⟨b, k * 16, none⟩ (bv (opS C k)) ∧ Cells w3 ⟨b, 512 + k * 16, none⟩ (bv (otS C k)) := fun b C hb => by
        have h1 := (hb.cells.drop (k * 16)).take 16
        have h2 := (hb.cells.drop (512 + k * 16)).take 16
        unfold bv at h1 h2 ⊢
        rw [← List.map_drop, ← List.map_take] at h1 h2
        constructor
        · by_cases h0 : k * 16 = 0 <;> simpa [Addr.add, opS, h0] using h1
        · simpa [Addr.add, otS] using h2
      have hca := hcell _ A HB4.out
      have hcb := hcell _ B HB5.out
      have LOA := Lib.hid (op_len HA.out hlt)
      have LOB := Lib.hid (op_len HB.out hlt)
      have LTA := Lib.hid (ot_len HA.out hlt)
      have LTB := Lib.hid (ot_len HB.out hlt)
      have HNK : Hid (coverM (opS A k) ≠ otS A k → coverM (opS B k) ≠ otS B k → ∀ j, j < k + 1 → coverM (opS A j) ≠ otS A j ∧ coverM (opS B j) ≠ otS B j) := Lib.hid (fun h1 h2 j hj => by
        rcases Nat.lt_or_ge j k with hjk | hjk
        · exact HNO.out j hjk
        · obtain rfl : j = k := by omega
          exact ⟨h1, h2⟩)
      have hxd : Ext w3 wr.drew := hx.drew
      have HOA := Lib.hid hca.1
      have HTA := Lib.hid hca.2
      have HOB := Lib.hid hcb.1
      have HTB := Lib.hid hcb.2
      have HOAL := Lib.hid HB4.out.lt
      have HTAL := Lib.hid HB4.out.lt
      have HOBL := Lib.hid HB5.out.lt
      have HTBL := Lib.hid HB5.out.lt
      clear hca hcb hcell hx HNO
      generalize opS A k = oa at LOA HOA HNK ⊢
      generalize otS A k = ta at LTA HTA HNK ⊢
      generalize opS B k = ob at LOB HOB HNK ⊢
      generalize otS B k = tb at LTB HTB HNK ⊢
      cases hE1 : (coverM oa == ta)
      · cases hE2 : (coverM ob == tb)
        all_goals
          go_wp2_with fail
          refine startM Since (by kernel_rfl) ?_
          (try simp only [Act.put, List.setIfInBounds_toArray, List.set_cons_succ, List.set_cons_zero])
          have hxx := hxd
          clear hxd
          generalize wr.drew = w0 at hxx ⊢
          refine takeE 0 rfl (by kernel_rfl) (by kernel_rfl) (by kernel_rfl) rfl (fun _ _ _ _ h => h) rfl (fun K hK => ?_)
          refine quiet_agg 25 _ rfl _ rfl tabsC _ Try.underlying25 rfl (tabs_size rfl) (fun W' h => (HB9.out.keep (hxx.trans h.ext) (by simp)).cells) ?_
          refine hK _ ?_
          simp only [Act.put, List.setIfInBounds_toArray, List.set_cons_succ, List.set_cons_zero]
          clear hK K
          refine takeE 1 rfl (by kernel_rfl) (by kernel_rfl) (by kernel_rfl) rfl (fun _ _ _ _ h => h) rfl (fun K hK => ?_)
          go_big_quiet_op
          first | refine hK _ ?_ | refine ⟨_, fun _ _ => rfl, hK _ ?_⟩
          clear hK K
          refine takeE 2 rfl (by kernel_rfl) (by kernel_rfl) (by kernel_rfl) rfl (fun _ _ _ _ h => h) rfl (fun K hK => ?_)
          go_big_quiet_op
          first | refine hK _ ?_ | refine ⟨_, fun _ _ => rfl, hK _ ?_⟩
          clear hK K
          refine takeE 3 rfl (by kernel_rfl) (by kernel_rfl) (by kernel_rfl) rfl (fun _ _ _ _ h => h) rfl (fun K hK => ?_)
          go_big_quiet_op
          first | refine hK _ ?_ | refine ⟨_, fun _ _ => rfl, hK _ ?_⟩
          clear hK K
          refine takeE 4 rfl (by kernel_rfl) (by kernel_rfl) (by kernel_rfl) rfl (fun _ _ _ _ h => h) rfl (fun K hK => ?_)
          refine quiet_agg 35 _ rfl _ rfl (bv oa) _ Try.underlying35 rfl (rpiece_size (by rw [bv_length, LOA.out])) (fun W' hh => (HOA.out).keep ((hxx.trans hh.ext).block _ (HOAL.out) (by simp))) ?_
          refine hK _ ?_
          simp only [Act.put, List.setIfInBounds_toArray, List.set_cons_succ, List.set_cons_zero]
          clear hK K
          refine takeE 6 rfl (by kernel_rfl) (by kernel_rfl) (by kernel_rfl) rfl (fun _ _ _ _ h => h) rfl (fun K hK => ?_)
          go_big_quiet_op
          first | refine hK _ ?_ | refine ⟨_, fun _ _ => rfl, hK _ ?_⟩
          clear hK K
          refine takeE 7 rfl (by kernel_rfl) (by kernel_rfl) (by kernel_rfl) rfl (fun _ _ _ _ h => h) rfl (fun K hK => ?_)
          go_big_quiet_op
          first | refine hK _ ?_ | refine ⟨_, fun _ _ => rfl, hK _ ?_⟩
          clear hK K
          refine takeE 8 rfl (by kernel_rfl) (by kernel_rfl) (by kernel_rfl) rfl (fun _ _ _ _ h => h) rfl (fun K hK => ?_)
          go_big_quiet_op
          first | refine hK _ ?_ | refine ⟨_, fun _ _ => rfl, hK _ ?_⟩
          clear hK K
          refine takeE 9 rfl (by kernel_rfl) (by kernel_rfl) (by kernel_rfl) rfl (fun _ _ _ _ h => h) rfl (fun K hK => ?_)
          refine quiet_agg 35 _ rfl _ rfl (bv ta) _ Try.underlying35 rfl (rpiece_size (by rw [bv_length, LTA.out])) (fun W' hh => (HTA.out).keep ((hxx.trans hh.ext).block _ (HTAL.out) (by simp))) ?_
          refine hK _ ?_
          simp only [Act.put, List.setIfInBounds_toArray, List.set_cons_succ, List.set_cons_zero]
          clear hK K
          refine stepM 5 rfl (by kernel_rfl) rfl (fun K hK => ?_)
          go_simp
          refine (RCover oa LOA.out _).mono ?_
          rintro e w' ⟨rfl, hx'⟩
          have hk := hx'
          replace hxx := hxx.trans hx'
          clear hx'
          refine hK _ _ (hk) ?_
          clear hK K
          refine takeE 10 rfl (by kernel_rfl) (by kernel_rfl) (by kernel_rfl) rfl (fun _ _ _ _ h => h) rfl (fun K hK => ?_)
          refine quiet_eqB 35 _ _ _ rfl 5 16 Try.underlying35 Try.underlying5 hu8 hgt (coverM oa) ta rfl rfl (coverM_length _) (LTA.out) _ hE1 ?_
          refine hK _ ?_
          simp only [Act.put, List.setIfInBounds_toArray, List.set_cons_succ, List.set_cons_zero]
          clear hK K
          refine takeE 11 rfl (by kernel_rfl) (by kernel_rfl) (by kernel_rfl) rfl (fun _ _ _ _ h => h) rfl (fun K hK => ?_)
          go_big_quiet_op
          first | refine hK _ ?_ | refine ⟨_, fun _ _ => rfl, hK _ ?_⟩
          clear hK K
          refine takeE 12 rfl (by kernel_rfl) (by kernel_rfl) (by kernel_rfl) rfl (fun _ _ _ _ h => h) rfl (fun K hK => ?_)
          refine quiet_agg 25 _ rfl _ rfl tabsC _ Try.underlying25 rfl (tabs_size rfl) (fun W' h => (HB9.out.keep (hxx.trans h.ext) (by simp)).cells) ?_
          refine hK _ ?_
          simp only [Act.put, List.setIfInBounds_toArray, List.set_cons_succ, List.set_cons_zero]
          clear hK K
          refine takeE 13 rfl (by kernel_rfl) (by kernel_rfl) (by kernel_rfl) rfl (fun _ _ _ _ h => h) rfl (fun K hK => ?_)
          go_big_quiet_op
          first | refine hK _ ?_ | refine ⟨_, fun _ _ => rfl, hK _ ?_⟩
          clear hK K
          refine takeE 14 rfl (by kernel_rfl) (by kernel_rfl) (by kernel_rfl) rfl (fun _ _ _ _ h => h) rfl (fun K hK => ?_)
          go_big_quiet_op
          first | refine hK _ ?_ | refine ⟨_, fun _ _ => rfl, hK _ ?_⟩
          clear hK K
          refine takeE 15 rfl (by kernel_rfl) (by kernel_rfl) (by kernel_rfl) rfl (fun _ _ _ _ h => h) rfl (fun K hK => ?_)
          go_big_quiet_op
          first | refine hK _ ?_ | refine ⟨_, fun _ _ => rfl, hK _ ?_⟩
          clear hK K
          refine takeE 16 rfl (by kernel_rfl) (by kernel_rfl) (by kernel_rfl) rfl (fun _ _ _ _ h => h) rfl (fun K hK => ?_)
          refine quiet_agg 35 _ rfl _ rfl (bv ob) _ Try.underlying35 rfl (rpiece_size (by rw [bv_length, LOB.out])) (fun W' hh => (HOB.out).keep ((hxx.trans hh.ext).block _ (HOBL.out) (by simp))) ?_
          refine hK _ ?_
          simp only [Act.put, List.setIfInBounds_toArray, List.set_cons_succ, List.set_cons_zero]
          clear hK K
          refine takeE 18 rfl (by kernel_rfl) (by kernel_rfl) (by kernel_rfl) rfl (fun _ _ _ _ h => h) rfl (fun K hK => ?_)
          go_big_quiet_op
          first | refine hK _ ?_ | refine ⟨_, fun _ _ => rfl, hK _ ?_⟩
          clear hK K
          refine takeE 19 rfl (by kernel_rfl) (by kernel_rfl) (by kernel_rfl) rfl (fun _ _ _ _ h => h) rfl (fun K hK => ?_)
          go_big_quiet_op
          first | refine hK _ ?_ | refine ⟨_, fun _ _ => rfl, hK _ ?_⟩
          clear hK K
          refine takeE 20 rfl (by kernel_rfl) (by kernel_rfl) (by kernel_rfl) rfl (fun _ _ _ _ h => h) rfl (fun K hK => ?_)
          go_big_quiet_op
          first | refine hK _ ?_ | refine ⟨_, fun _ _ => rfl, hK _ ?_⟩
          clear hK K
          refine takeE 21 rfl (by kernel_rfl) (by kernel_rfl) (by kernel_rfl) rfl (fun _ _ _ _ h => h) rfl (fun K hK => ?_)
          refine quiet_agg 35 _ rfl _ rfl (bv tb) _ Try.underlying35 rfl (rpiece_size (by rw [bv_length, LTB.out])) (fun W' hh => (HTB.out).keep ((hxx.trans hh.ext).block _ (HTBL.out) (by simp))) ?_
          refine hK _ ?_
          simp only [Act.put, List.setIfInBounds_toArray, List.set_cons_succ, List.set_cons_zero]
          clear hK K
          refine stepM 17 rfl (by kernel_rfl) rfl (fun K hK => ?_)
          go_simp
          refine (RCover ob LOB.out _).mono ?_
          rintro e w' ⟨rfl, hx'⟩
          have hk := hx'
          replace hxx := hxx.trans hx'
          clear hx'
          refine hK _ _ (hk) ?_
          clear hK K
          refine takeE 22 rfl (by kernel_rfl) (by kernel_rfl) (by kernel_rfl) rfl (fun _ _ _ _ h => h) rfl (fun K hK => ?_)
          refine quiet_eqB 35 _ _ _ rfl 5 16 Try.underlying35 Try.underlying5 hu8 hgt (coverM ob) tb rfl rfl (coverM_length _) (LTB.out) _ hE2 ?_
          refine hK _ ?_
          simp only [Act.put, List.setIfInBounds_toArray, List.set_cons_succ, List.set_cons_zero]
          clear hK K
          refine takeE 23 rfl (by kernel_rfl) (by kernel_rfl) (by kernel_rfl) rfl (fun _ _ _ _ h => h) rfl (fun K hK => ?_)
          go_big_quiet_op
          first | refine hK _ ?_ | refine ⟨_, fun _ _ => rfl, hK _ ?_⟩
          clear hK K
          refine doneM (by kernel_rfl) ?_ _
        · (try simp only [Exit.inBlock, Exit.then])
          go_wp2_with fail
          go_roundw
          case rel => exact ⟨k + 1, by omega, by go_num, hxx, HNK.out (by simpa using hE1) (by simpa using hE2)⟩
          case measure => simp [intOf]; omega
        · (try simp only [Exit.inBlock, Exit.then])
          go_wp2_with fail
          go_ret
          exact ⟨true, rfl, fun _ => rfl, HX0.out.trans hxx⟩
      · go_wp2_with fail
        refine startM Since (by kernel_rfl) ?_
        (try simp only [Act.put, List.setIfInBounds_toArray, List.set_cons_succ, List.set_cons_zero])
        have hxx := hxd
        clear hxd
        generalize wr.drew = w0 at hxx ⊢
        refine takeE 0 rfl (by kernel_rfl) (by kernel_rfl) (by kernel_rfl) rfl (fun _ _ _ _ h => h) rfl (fun K hK => ?_)
        refine quiet_agg 25 _ rfl _ rfl tabsC _ Try.underlying25 rfl (tabs_size rfl) (fun W' h => (HB9.out.keep (hxx.trans h.ext) (by simp)).cells) ?_
        refine hK _ ?_
        simp only [Act.put, List.setIfInBounds_toArray, List.set_cons_succ, List.set_cons_zero]
        clear hK K
        refine takeE 1 rfl (by kernel_rfl) (by kernel_rfl) (by kernel_rfl) rfl (fun _ _ _ _ h => h) rfl (fun K hK => ?_)
        go_big_quiet_op
        first | refine hK _ ?_ | refine ⟨_, fun _ _ => rfl, hK _ ?_⟩
        clear hK K
        refine takeE 2 rfl (by kernel_rfl) (by kernel_rfl) (by kernel_rfl) rfl (fun _ _ _ _ h => h) rfl (fun K hK => ?_)
        go_big_quiet_op
        first | refine hK _ ?_ | refine ⟨_, fun _ _ => rfl, hK _ ?_⟩
        clear hK K
        refine takeE 3 rfl (by kernel_rfl) (by kernel_rfl) (by kernel_rfl) rfl (fun _ _ _ _ h => h) rfl (fun K hK => ?_)
        go_big_quiet_op
        first | refine hK _ ?_ | refine ⟨_, fun _ _ => rfl, hK _ ?_⟩
        clear hK K
        refine takeE 4 rfl (by kernel_rfl) (by kernel_rfl) (by kernel_rfl) rfl (fun _ _ _ _ h => h) rfl (fun K hK => ?_)
        refine quiet_agg 35 _ rfl _ rfl (bv oa) _ Try.underlying35 rfl (rpiece_size (by rw [bv_length, LOA.out])) (fun W' hh => (HOA.out).keep ((hxx.trans hh.ext).block _ (HOAL.out) (by simp))) ?_
        refine hK _ ?_
        simp only [Act.put, List.setIfInBounds_toArray, List.set_cons_succ, List.set_cons_zero]
        clear hK K
        refine takeE 6 rfl (by kernel_rfl) (by kernel_rfl) (by kernel_rfl) rfl (fun _ _ _ _ h => h) rfl (fun K hK => ?_)
        go_big_quiet_op
        first | refine hK _ ?_ | refine ⟨_, fun _ _ => rfl, hK _ ?_⟩
        clear hK K
        refine takeE 7 rfl (by kernel_rfl) (by kernel_rfl) (by kernel_rfl) rfl (fun _ _ _ _ h => h) rfl (fun K hK => ?_)
        go_big_quiet_op
        first | refine hK _ ?_ | refine ⟨_, fun _ _ => rfl, hK _ ?_⟩
        clear hK K
        refine takeE 8 rfl (by kernel_rfl) (by kernel_rfl) (by kernel_rfl) rfl (fun _ _ _ _ h => h) rfl (fun K hK => ?_)
        go_big_quiet_op
        first | refine hK _ ?_ | refine ⟨_, fun _ _ => rfl, hK _ ?_⟩
        clear hK K
        refine takeE 9 rfl (by kernel_rfl) (by kernel_rfl) (by kernel_rfl) rfl (fun _ _ _ _ h => h) rfl (fun K hK => ?_)
        refine quiet_agg 35 _ rfl _ rfl (bv ta) _ Try.underlying35 rfl (rpiece_size (by rw [bv_length, LTA.out])) (fun W' hh => (HTA.out).keep ((hxx.trans hh.ext).block _ (HTAL.out) (by simp))) ?_
        refine hK _ ?_
        simp only [Act.put, List.setIfInBounds_toArray, List.set_cons_succ, List.set_cons_zero]
        clear hK K
        refine stepM 5 rfl (by kernel_rfl) rfl (fun K hK => ?_)
        go_simp
        refine (RCover oa LOA.out _).mono ?_
        rintro e w' ⟨rfl, hx'⟩
        have hk := hx'
        replace hxx := hxx.trans hx'
        clear hx'
        refine hK _ _ (hk) ?_
        clear hK K
        refine takeE 10 rfl (by kernel_rfl) (by kernel_rfl) (by kernel_rfl) rfl (fun _ _ _ _ h => h) rfl (fun K hK => ?_)
        refine quiet_eqB 35 _ _ _ rfl 5 16 Try.underlying35 Try.underlying5 hu8 hgt (coverM oa) ta rfl rfl (coverM_length _) (LTA.out) _ hE1 ?_
        refine hK _ ?_
        simp only [Act.put, List.setIfInBounds_toArray, List.set_cons_succ, List.set_cons_zero]
        clear hK K
        refine takeE 11 rfl (by kernel_rfl) (by kernel_rfl) (by kernel_rfl) rfl (fun _ _ _ _ h => h) rfl (fun K hK => ?_)
        go_big_quiet_op
        first | refine hK _ ?_ | refine ⟨_, fun _ _ => rfl, hK _ ?_⟩
        clear hK K
        refine skipE 12 rfl (by kernel_rfl) (by kernel_rfl) (by kernel_rfl) (fun _ _ _ _ h => h) rfl ?_
        (try simp only [Act.put, List.setIfInBounds_toArray, List.set_cons_succ, List.set_cons_zero])
        refine skipE 13 rfl (by kernel_rfl) (by kernel_rfl) (by kernel_rfl) (fun _ _ _ _ h => h) rfl ?_
        (try simp only [Act.put, List.setIfInBounds_toArray, List.set_cons_succ, List.set_cons_zero])
        refine skipE 14 rfl (by kernel_rfl) (by kernel_rfl) (by kernel_rfl) (fun _ _ _ _ h => h) rfl ?_
        (try simp only [Act.put, List.setIfInBounds_toArray, List.set_cons_succ, List.set_cons_zero])
        refine skipE 15 rfl (by kernel_rfl) (by kernel_rfl) (by kernel_rfl) (fun _ _ _ _ h => h) rfl ?_
        (try simp only [Act.put, List.setIfInBounds_toArray, List.set_cons_succ, List.set_cons_zero])
        refine skipE 16 rfl (by kernel_rfl) (by kernel_rfl) (by kernel_rfl) (fun _ _ _ _ h => h) rfl ?_
        (try simp only [Act.put, List.setIfInBounds_toArray, List.set_cons_succ, List.set_cons_zero])
        refine skipE 17 rfl (by kernel_rfl) (by kernel_rfl) (by kernel_rfl) (fun _ _ _ _ h => h) rfl ?_
        (try simp only [Act.put, List.setIfInBounds_toArray, List.set_cons_succ, List.set_cons_zero])
        refine skipE 18 rfl (by kernel_rfl) (by kernel_rfl) (by kernel_rfl) (fun _ _ _ _ h => h) rfl ?_
        (try simp only [Act.put, List.setIfInBounds_toArray, List.set_cons_succ, List.set_cons_zero])
        refine skipE 19 rfl (by kernel_rfl) (by kernel_rfl) (by kernel_rfl) (fun _ _ _ _ h => h) rfl ?_
        (try simp only [Act.put, List.setIfInBounds_toArray, List.set_cons_succ, List.set_cons_zero])
        refine skipE 20 rfl (by kernel_rfl) (by kernel_rfl) (by kernel_rfl) (fun _ _ _ _ h => h) rfl ?_
        (try simp only [Act.put, List.setIfInBounds_toArray, List.set_cons_succ, List.set_cons_zero])
        refine skipE 21 rfl (by kernel_rfl) (by kernel_rfl) (by kernel_rfl) (fun _ _ _ _ h => h) rfl ?_
        (try simp only [Act.put, List.setIfInBounds_toArray, List.set_cons_succ, List.set_cons_zero])
        refine skipE 22 rfl (by kernel_rfl) (by kernel_rfl) (by kernel_rfl) (fun _ _ _ _ h => h) rfl ?_
        (try simp only [Act.put, List.setIfInBounds_toArray, List.set_cons_succ, List.set_cons_zero])
        refine takeE 23 rfl (by kernel_rfl) (by kernel_rfl) (by kernel_rfl) rfl (fun _ _ _ _ h => h) rfl (fun K hK => ?_)
        go_big_quiet_op
        first | refine hK _ ?_ | refine ⟨_, fun _ _ => rfl, hK _ ?_⟩
        clear hK K
        refine doneM (by kernel_rfl) ?_ _
        (try simp only [Exit.inBlock, Exit.then])
        go_wp2_with fail
        go_ret
        exact ⟨true, rfl, fun _ => rfl, HX0.out.trans hxx⟩
    · obtain rfl : k = 32 := by omega
      have HFIN : Hid (∀ L, L = textsM A d ++ textsM B e → (∀ (i j : Nat) (hi : i < L.length) (hj : j < L.length), keyT L[i] = keyT L[j] → L[i] = L[j]) → MetP A B d e → false = true) := Lib.hid (by
        rintro L rfl h (⟨j, hj, h1 | h1⟩ | ⟨p, q, hp, hq, hk, hne⟩)
        · exact absurd h1 (HNO.out j hj).1
        · exact absurd h1 (HNO.out j hj).2
        · obtain ⟨i, hi, rfl⟩ := List.getElem_of_mem hp
          obtain ⟨j, hj, rfl⟩ := List.getElem_of_mem hq
          exact absurd (h i j hi hj hk) hne)
      clear HNO
      go_wp2_with fail
      have hom : OwnT (wr.alloc (.map #[] 0)).drew wr.heap.size 0 (.map []) := World.ownsMap_made wr _ _ _
      have hxm : Ext w3 (wr.alloc (.map #[] 0)).drew := (hx.alloc _).drew
      have hbm : wr.heap.size < (wr.alloc (.map #[] 0)).drew.heap.size := by simp
      have hB4 := HB4.out.keep hxm (by simp)
      have hB5 := HB5.out.keep hxm (by simp)
      have hB6 := HB6.out.keep hxm (by simp)
      have hB7 := HB7.out.keep hxm (by simp)
      have hB9 := HB9.out.keep hxm (by simp)
      have hX0 := HX0.out.trans hxm
      have HWB := Lib.hid (show w.heap.size ≤ wr.heap.size from (HX0.out.trans hx).size)
      clear HB4 HB5 HB6 HB7 HB9 HX0 hx hxm hmm
      refine startM (KeepB fun g => g < (wr.alloc (.map #[] 0)).drew.heap.size) (by kernel_rfl) ?_
      (try simp only [Act.put, List.setIfInBounds_toArray, List.set_cons_succ, List.set_cons_zero])
      generalize (wr.alloc (.map #[] 0)).drew = w0 at hom hbm hB4 hB5 hB6 hB7 hB9 hX0 ⊢
      generalize wr.heap.size = bm at hom hbm HWB ⊢
      have HB4 := Lib.hid hB4
      have HB5 := Lib.hid hB5
      have HB6 := Lib.hid hB6
      have HB7 := Lib.hid hB7
      have HB9 := Lib.hid hB9
      have HX0 := Lib.hid hX0
      have HOM := Lib.hid hom
      have HBM := Lib.hid hbm
      clear hB4 hB5 hB6 hB7 hB9 hX0 hom hbm
      have KCUR : KeepB (fun g => g < w0.heap.size) w0 w0 := fun _ _ => rfl
      refine takeK 0 rfl (by kernel_rfl) (by kernel_rfl) (by kernel_rfl) rfl (fun _ _ _ _ h => h) rfl (fun K hK => ?_)
      refine quiet_agg 25 _ rfl _ rfl tabsC _ Try.underlying25 rfl (tabs_size rfl) (fun W' h => KeepB.cells (KeepB.after KCUR h) HB9.out.cells HB9.out.lt) ?_
      refine hK _ ?_
      simp only [Act.put, List.setIfInBounds_toArray, List.set_cons_succ, List.set_cons_zero]
      clear hK K
      refine takeK 1 rfl (by kernel_rfl) (by kernel_rfl) (by kernel_rfl) rfl (fun _ _ _ _ h => h) rfl (fun K hK => ?_)
      refine quiet_agg 38 _ rfl _ rfl (bv A) _ Try.underlying38 rfl (szSigFrom04 (by rw [bv_length, HA.out])) (fun W' h => KeepB.cells (KeepB.after KCUR h) HB4.out.cells HB4.out.lt) ?_
      refine hK _ ?_
      simp only [Act.put, List.setIfInBounds_toArray, List.set_cons_succ, List.set_cons_zero]
      clear hK K
      refine takeK 2 rfl (by kernel_rfl) (by kernel_rfl) (by kernel_rfl) rfl (fun _ _ _ _ h => h) rfl (fun K hK => ?_)
      refine quiet_agg 22 _ rfl _ rfl (bv d) _ Try.underlying22 rfl (b32_size (by rw [bv_length, HD.out])) (fun W' h => KeepB.cells (KeepB.after KCUR h) HB6.out.cells HB6.out.lt) ?_
      refine hK _ ?_
      simp only [Act.put, List.setIfInBounds_toArray, List.set_cons_succ, List.set_cons_zero]
      clear hK K
      refine takeK 4 rfl (by kernel_rfl) (by kernel_rfl) (by kernel_rfl) rfl (fun _ _ _ _ h => h) rfl (fun K hK => ?_)
      refine quiet_agg 25 _ rfl _ rfl tabsC _ Try.underlying25 rfl (tabs_size rfl) (fun W' h => KeepB.cells (KeepB.after KCUR h) HB9.out.cells HB9.out.lt) ?_
      refine hK _ ?_
      simp only [Act.put, List.setIfInBounds_toArray, List.set_cons_succ, List.set_cons_zero]
      clear hK K
      refine takeK 5 rfl (by kernel_rfl) (by kernel_rfl) (by kernel_rfl) rfl (fun _ _ _ _ h => h) rfl (fun K hK => ?_)
      refine quiet_agg 38 _ rfl _ rfl (bv B) _ Try.underlying38 rfl (szSigFrom04 (by rw [bv_length, HB.out])) (fun W' h => KeepB.cells (KeepB.after KCUR h) HB5.out.cells HB5.out.lt) ?_
      refine hK _ ?_
      simp only [Act.put, List.setIfInBounds_toArray, List.set_cons_succ, List.set_cons_zero]
      clear hK K
      refine takeK 6 rfl (by kernel_rfl) (by kernel_rfl) (by kernel_rfl) rfl (fun _ _ _ _ h => h) rfl (fun K hK => ?_)
      refine quiet_agg 22 _ rfl _ rfl (bv e) _ Try.underlying22 rfl (b32_size (by rw [bv_length, HE.out])) (fun W' h => KeepB.cells (KeepB.after KCUR h) HB7.out.cells HB7.out.lt) ?_
      refine hK _ ?_
      simp only [Act.put, List.setIfInBounds_toArray, List.set_cons_succ, List.set_cons_zero]
      clear hK K
      refine takeK 10 rfl (by kernel_rfl) (by kernel_rfl) (by kernel_rfl) rfl (fun _ _ _ _ h => h) rfl (fun K hK => ?_)
      go_big_quiet_op
      first | refine hK _ ?_ | refine ⟨_, fun _ _ => rfl, hK _ ?_⟩
      clear hK K
      refine stepM 3 rfl (by kernel_rfl) rfl (fun K hK => ?_)
      go_simp
      refine (Texts A HA.out d HD.out _).mono ?_
      rintro en W51 ⟨v51, rfl, hx51, hla51⟩
      have hkb : KeepB (fun g => g < w0.heap.size) w0 W51 := KeepB.of_ext (fun g hg => hg) (Ext.refl _) hx51
      replace KCUR := hkb
      refine hK _ _ (hkb) ?_
      clear hK K
      refine stepM 7 rfl (by kernel_rfl) rfl (fun K hK => ?_)
      go_simp
      refine (Texts B HB.out e HE.out _).mono ?_
      rintro en W55 ⟨v55, rfl, hx55, hla55⟩
      have hkb : KeepB (fun g => g < w0.heap.size) W51 W55 := KeepB.of_ext (fun g hg => hg) hx51 hx55
      obtain ⟨xs1, G1, o1, a1, g1, b1, _⟩ := hla51.ext hx55
      obtain ⟨xs2, G2, o2, a2, g2, b2, _⟩ := hla55
      obtain ⟨xs0, G0, o0, _⟩ := hla51
      have hv1 : ∀ b, v51.ownBlock = some b → b < W51.heap.size := fun b e => (World.ownsRow.lt o0 b e).2
      obtain ⟨A55, c55, hv55⟩ := o2.form
      rw [texts_length] at hv55
      subst hv55
      refine hK _ _ (hkb) ?_
      clear hK K
      refine stepM 8 rfl (by kernel_rfl) rfl (fun K hK => ?_)
      refine wp_app _ (.tmp 51) (.tmp 55) 79 79 rfl 55 55 iL _ 1 24 Try.underlying79 Try.underlying79 hiL hy0 hy1 hy2 rfl (by decide) _ (textsM A d).length xs1 rfl o1 _ 33 _ xs2 rfl (by rw [AllH.length (n := 1) (fun c a h => Ty.len (.sl .u8) h) a2, texts_length]) (by rw [← texts_length B e]; rw [texts_length] at o2 ⊢; exact own_src o2) (AllH.one_of (fun c a h => Ty.one (.sl .u8) h) a2) (by rw [texts_length]; unfold maxLen; omega) (by rw [texts_length]; omega) ?_
      intro v56 W56 ho56 hm56
      have hv56 := Own.form ho56
      rw [texts_length, show 33 + 33 = 66 from rfl] at hv56
      obtain ⟨A56, c56, rfl⟩ := hv56
      have hkb : KeepB (fun g => g < w0.heap.size) W55 W56 := fun g hg => hm56.grown.block g (Nat.lt_of_lt_of_le hg (hx51.trans hx55).size) (fun e2 => by have := b1 g e2.symm; have : g < w0.heap.size := hg; omega)
      refine hK _ _ (hkb) ?_
      clear hK K
      (try simp only [Act.put, List.setIfInBounds_toArray, List.set_cons_succ, List.set_cons_zero])
      refine takeK 9 rfl (by kernel_rfl) (by kernel_rfl) (by kernel_rfl) rfl (fun _ _ _ _ h => h) rfl (fun K hK => ?_)
      go_big_quiet_op
      first | refine hK _ ?_ | refine ⟨_, fun _ _ => rfl, hK _ ?_⟩
      clear hK K
      refine doneM (by kernel_rfl) ?_ _
      have hk55 : KeepB (fun g => g < w0.heap.size) w0 W55 := KeepB.of_ext (fun g hg => hg) (Ext.refl _) (hx51.trans hx55)
      have hk56 : KeepB (fun g => g < w0.heap.size) w0 W56 := KeepB.after hk55 hkb
      have hla : LAt W56 w0.heap.size (.slice A56 66 c56) (textsM A d ++ textsM B e) (.slice none 0 0) := LAt.join a1 (fun b hb => ⟨(g1 b hb).1, (g1 b hb).2.1, (g1 b hb).2.2.1⟩) b1 a2 (fun b hb => ⟨(g2 b hb).1, (g2 b hb).2.1⟩) hv1 hx51.size (hx51.trans hx55).size (by rw [texts_length B e]; exact ho56) hm56
      have HLA := Lib.hid hla
      have HT9 := Lib.hid (show Blk W56 g9 25 tabsC from (hk56 g9 HB9.out.lt).trans HB9.out)
      have HOT := Lib.hid (show OwnT W56 bm 0 (.map []) from HOM.out.same (hk56 bm HBM.out))
      have HXX := Lib.hid (show Ext w W56 from grown_then (HX0.out.trans (hx51.trans hx55)) hm56.grown (.inr (fun b e2 => Nat.le_trans HX0.out.size (b1 b e2))))
      have HBL : Hid (bm < w0.heap.size) := HBM
      have hlen : (textsM A d ++ textsM B e).length = 66 := by rw [List.length_append, texts_length, texts_length]
      have HSM := Lib.hid (show ∀ t ∈ textsM A d ++ textsM B e, t.length ≤ 2000 from fun t ht => by
        rcases List.mem_append.1 ht with h | h
        · exact texts_small A d HA.out t h
        · exact texts_small B e HB.out t h)
      have HFI := Lib.hid (HFIN.out _ rfl)
      clear HFIN hk55 hk56 hkb hla a1 a2 g1 g2 b1 b2 o1 o2 o0 hv1 hx51 hx55 ho56 hm56 HB4 HB5 HB6 HB7 HB9 HX0 HOM HBM KCUR
      generalize textsM A d ++ textsM B e = L at HLA hlen HSM HFI ⊢
      generalize w0.heap.size = B0 at HLA HBL ⊢
      go_wp2_with fail
      go_loopw [58] (fun i wr => ∃ (q : Nat) (D : DU), q ≤ 66 ∧ i = .int .i64 q ∧ Ext w wr ∧ Blk wr g9 25 tabsC ∧ LAt wr B0 (.slice A56 66 c56) L (.slice none 0 0) ∧ OwnT wr bm q D ∧ MR D L q) (fun i _ => 66 - (intOf i).toNat)
      case atStart => exact ⟨0, .map [], by omega, rfl, HXX.out, HT9.out, HLA.out, HOT.out, MR.start L⟩
      case round =>
        clear HXX HT9 HLA HOT
        obtain ⟨q, D, hq, rfl, hx, hb9, hla, hot, hmr⟩ := hrel
        have HX := Lib.hid hx
        have HB9 := Lib.hid hb9
        have HLA := Lib.hid hla
        have HOT := Lib.hid hot
        have HMR := Lib.hid hmr
        clear hx hb9 hla hot hmr
        by_cases hlt : q < 66
        · have hql : q < L.length := by omega
          obtain ⟨xs, G, o1, a1, g1, b1, _⟩ := HLA.out
          rw [hlen] at o1
          obtain ⟨ad, rfl, hck⟩ := own_src o1 (by omega)
          obtain ⟨y, hy, hyh⟩ := AllH.sl_at a1 hql
          have hcx := hck q _ hy
          have hyh0 := hyh
          obtain ⟨A1, c1, xs1, hv1, hlc1, hc1, _⟩ := hyh
          cases hv1
          have hsm := HSM.out L[q] (List.getElem_mem hql)
          have HG := Lib.hid (show ∀ b, G b → b < wr.heap.size from fun b hb => (g1 b hb).2.1)
          have HYH := Lib.hid hyh0
          have hkl := keyT_length L[q]
          have HKEY := Lib.hid (key16 (keyT L[q]) hkl)
          have HSTEP := Lib.hid (fun s hs hm => HMR.out.step hql s hs hm)
          unfold maxLen at hc1
          clear hyh0 hy hck o1 a1 g1 b1
          have hshl := sha_length L[q]
          have htk : (sha L[q]).take 16 = keyT L[q] := rfl
          generalize hP : L[q] = p at hcx hsm HYH hkl HKEY HSTEP hshl htk hlc1 ⊢
          have HP := Lib.hid hP
          clear hP
          generalize hK : keyT p = kp at hkl HKEY HSTEP htk ⊢
          have HK := Lib.hid hK
          clear hK
          generalize hSH : sha p = sp at hshl htk ⊢
          have HSH := Lib.hid hSH
          clear hSH
          have HTK := Lib.hid htk
          have HKL := Lib.hid hkl
          have HSL := Lib.hid hshl
          generalize klitT kp = κ at HKEY HSTEP ⊢
          clear htk hkl hshl
          go_wp2_with (first
            | ((with_reducible refine wpDst 62 rfl ?_); refine wpList_load_agg _ rfl 25 _ rfl _ rfl tabsC _ Try.underlying25 rfl (tabs_size rfl) (by exact HB9.out.cells) ?_)
            | fail)
          refine (ROf _ p wr G HYH.out HG.out hsm).mono ?_
          rintro en w64 ⟨rfl, hx64⟩
          rw [HSH.out]
          have hsx := src_bytes (hx64.holds HG.out HYH.out)
          have hbt : p.length ≠ 0 → bv p ≠ [] := bv_ne p
          have hs2 : Src ((w64.alloc (.cells (bv sp).toArray 22)).alloc (.cells (bv kp).toArray 34)) A1 p.length (bv p) := (hsx.alloc hbt _).alloc hbt _
          have hcv : (convert 55 9 (.slice A1 p.length c1)).run Try.prog ((w64.alloc (.cells (bv sp).toArray 22)).alloc (.cells (bv kp).toArray 34)) = .ok (.string (strOf p)) _ := run_str _ 55 9 5 Try.underlying55 Try.underlying5 Try.underlying9 A1 c1 p hs2
          have hxw : Ext wr ((w64.alloc (.cells (bv sp).toArray 22)).alloc (.cells (bv kp).toArray 34)) := (hx64.alloc _).alloc _
          have hot2 : OwnT ((w64.alloc (.cells (bv sp).toArray 22)).alloc (.cells (bv kp).toArray 34)) bm q D := HOT.out.same (hxw.block bm (World.ownsMap.lt HOT.out) (by simp))
          have hbk : Blk ((w64.alloc (.cells (bv sp).toArray 22)).alloc (.cells (bv kp).toArray 34)) (w64.heap.size + 1) 34 (bv kp) := Blk.fresh (by simp) _ _
          have h4c : Cells (w64.alloc (.cells (bv sp).toArray 22)) ⟨w64.heap.size, 0, none⟩ (bv kp) := by
            have := (Blk.new w64 22 (bv sp)).cells.take 16
            rw [← HTK.out]
            unfold bv at this ⊢; rwa [List.map_take]
          have hat4 : ∀ (a : Option Addr) (w : World), (Instr.arrayAt 34 (.slice a 16 32)).run Try.prog w = .ok (.pointer a) w := fun a w => run_arrayAt w _ 5 16 a 16 32 Try.underlying34 (by omega)
          have HX2 := Lib.hid (HX.out.trans hxw)
          have HB9' := Lib.hid (HB9.out.keep hxw (by simp))
          have HLA' := Lib.hid (HLA.out.ext hxw)
          have HOT2 := Lib.hid hot2
          have HBK := Lib.hid hbk
          have H4C := Lib.hid h4c
          clear HX HB9 HLA HOT HYH hsx hs2 hxw hot2 hbk h4c hcx hx64 HMR
          go_wp2_with (first
            | ((with_reducible refine wpDst 14 rfl ?_); refine wpList_alloc _ rfl 22 rfl (bv (List.replicate 32 0)) b32_zero ?_)
            | ((with_reducible refine wpSto 14 64 rfl ?_); refine wpList_storeN rfl 22 _ _ rfl _ rfl (bv (List.replicate 32 0)) (bv sp) _ rfl rfl (b32_size (by rw [bv_length, HSL.out])) (by rw [bv_length, HSL.out]; rfl) (bv_one _) ?_)
            | ((with_reducible refine wpDst 67 rfl ?_); refine wpList_load_agg _ rfl 34 _ rfl _ rfl (bv kp) _ Try.underlying34 rfl (b16_size (by rw [bv_length, HKL.out])) (by exact H4C.out) ?_)
            | ((with_reducible refine wpDst 15 rfl ?_); refine wpList_alloc _ rfl 34 rfl (bv (List.replicate 16 0)) b16_zero ?_)
            | ((with_reducible refine wpSto 15 67 rfl ?_); refine wpList_storeN rfl 34 _ _ rfl _ rfl (bv (List.replicate 16 0)) (bv kp) _ rfl rfl (b16_size (by rw [bv_length, HKL.out])) (by rw [bv_length, HKL.out]; rfl) (bv_one _) ?_)
            | ((with_reducible refine wpDst 70 rfl ?_); refine wpList_load_agg _ rfl 34 _ rfl _ rfl (bv kp) _ Try.underlying34 rfl (b16_size (by rw [bv_length, HKL.out])) (by exact HBK.out.cells) ?_)
            | ((with_reducible refine wpDst 71 rfl ?_); at_lookup; refine wpList_look_str _ rfl _ _ 81 rfl 34 9 law16 Try.underlying81 Try.underlying9 (zero_string _) bm q D rfl (by exact HOT2.out) _ κ rfl HKEY.out ?_; intro s hat0 hsl; have hat := Lib.hid hat0; clear hat0)
            | ((with_reducible refine wpDst 82 rfl ?_); refine wpList_load_agg _ rfl 34 _ rfl _ rfl (bv kp) _ Try.underlying34 rfl (b16_size (by rw [bv_length, HKL.out])) (by exact HBK.out.cells) ?_)
            | (at_mapUpdate; refine wpList_mapUpdate_own _ rfl _ _ _ 81 rfl 34 9 law16 Try.underlying81 _ bm q D rfl (by exact HOT2.out) (by unfold maxLen; omega) _ _ κ rfl rfl HKEY.out (slit p) [] (plain_str p hsm) ?_; intro w1 hown1 hgrow1)
            | fail)
          · go_ret
            exact ⟨true, rfl, fun _ => rfl, HX2.out⟩
          all_goals
            have hne : g9 ≠ bm := by
              rintro rfl
              obtain ⟨es, clock, hb, _⟩ := HOT2.out
              have h := HB9'.out
              unfold Blk at h
              rw [h] at hb
              cases hb
            have hfin : (Maps.has D κ = true → s = p) → (∃ q_1 D, q_1 ≤ 66 ∧ Value.int IntKind.i64 ((q : Int) + 1) = Value.int IntKind.i64 (q_1 : Nat) ∧ Ext w w1 ∧ Blk w1 g9 25 tabsC ∧ LAt w1 B0 (.slice (some ad) 66 c56) L (.slice none 0 0) ∧ OwnT w1 bm q_1 D ∧ MR D L q_1) := fun h =>
              ⟨q + 1, _, by omega, by go_num, grown_then HX2.out hgrow1 (.inr (by rintro b ⟨⟩; exact HWB.out)), HB9'.out.keep hgrow1 (by intro e; cases e; exact hne rfl), HLA'.out.other hgrow1 HBL.out, hown1, HSTEP.out s hat.out h⟩
          · rename_i h1 h2
            exact ⟨hfin (fun _ => by simpa [strOf_toList] using h2), by simp [intOf]; omega⟩
          · rename_i h1
            exact ⟨hfin (fun h => absurd h h1), by simp [intOf]; omega⟩
        · obtain rfl : q = 66 := by omega
          have HMR' := Lib.hid (HFI.out (fun i j hi hj hk => HMR.out.none hi hj (by omega) (by omega) hk))
          go_wp2_with fail
          go_ret
          exact ⟨false, rfl, HMR'.out, HX.out⟩
end
section
open Go.RowKit

set_option maxHeartbeats 400000 in
set_option maxRecDepth 100000 in
theorem Ref_Num (vb : Value) (bs : List UInt8) (n size : Nat) (w : World) (F : Fp) (hb : (Ty.sl .u8).holds w F [vb] bs) (hF : ∀ b, F b → b < w.heap.size) (hn : n < 18446744073709551616) (hs : size ≤ 8) (hbb : bs.length + size ≤ 140737488355328) :
    Calls Try.prog 45 #[vb, .int .u64 n, .int .i64 size] w fun e w' => ∃ v', e = .returned v' ∧ OwnB w' v' (bs ++ be size n) ∧ Fresh w w' v' := by
  obtain ⟨i0, hi, hz0, hz1, hz2⟩ := info_parts u8_info
  obtain ⟨A, c, xs, hv, hlc, hc, hA, hcell, hall⟩ := hb
  cases hv
  go_enter Try.func45, Try.ntmps45
  go_wp2_with (at_make; refine wpList_make_full _ rfl _ _ _ rfl 0 _ i0 _ 1 Try.underlying55 hi hz0 hz1 .i64 .i64 size size size rfl rfl rfl rfl (by rw [hz2]; omega) (by unfold maxLen; omega) (Nat.zero_le _) ?_; intro w1 ho1 hg1)
  have hg1 : Ext w w1 := hg1
  have ho1 : Own w1 5 1 (.slice (some ⟨w.heap.size, 0, none⟩) size size) size (bv (beFill size size n)) := by
    have e : bv (beFill size size n) = (madeCells (Value.int .u8 0).cells (size * 1)).toList := by
      rw [show (Value.int .u8 0).cells = #[.int .u8 0] from rfl, toList_madeCells_one, Nat.mul_one]
      simp [beFill, bv, be_length]
    rw [e]; exact ho1
  go_loopw [1, 8] (fun nn i wr => ∃ j : Nat, j ≤ size ∧ i = .int .i64 ((j : Int) - 1) ∧ nn = .int .u64 ((n / 256 ^ (size - j) : Nat) : Int) ∧ Own wr 5 1 (.slice (some ⟨w.heap.size, 0, none⟩) size size) size (bv (beFill size j n)) ∧ Ext w wr) (fun _ i _ => (intOf i + 1).toNat)
  case atStart => exact ⟨size, by omega, rfl, by simp, ho1, hg1⟩
  case round =>
    obtain ⟨j, hj, rfl, rfl, hor, hxr⟩ := hrel
    by_cases hlt : 0 < j
    · have hcell0 := World.ownsRow.cellAt hor (j - 1) (by omega)
      obtain ⟨u0, hu0⟩ : ∃ u0, (bv (beFill size j n))[j - 1]? = some u0 := ⟨_, List.getElem?_eq_getElem (by rw [bv_length, beFill_length _ _ _ hj]; omega)⟩
      rw [hu0] at hcell0
      have hfr := World.ownsRow.frozenAt hor (j - 1)
      have hst := World.ownsRow.stored hor (j - 1) (.int .u8 ((UInt8.ofNat (n / 256 ^ (size - j))).toNat : Int))
      have hm : ((n / 256 ^ (size - j) : Nat) : Int) % 256 = ((UInt8.ofNat (n / 256 ^ (size - j))).toNat : Int) := by rw [UInt8.toNat_ofNat']; omega
      have hlow : n / 256 ^ (size - j) < 18446744073709551616 := Nat.lt_of_le_of_lt (Nat.div_le_self _ _) hn
      have hq := be_rest n size j hlt hj
      generalize hN : n / 256 ^ (size - j) = N at *
      have HM := Lib.hid hm
      have HQ := Lib.hid hq
      have HN := Lib.hid hN
      clear hm hq hN hu0
      go_wp2
      go_roundw
      case rel =>
        rw [HM.out]
        refine ⟨j - 1, by omega, by rw [show ((j - 1 : Nat) : Int) = (j : Int) - 1 by omega], by rw [← HQ.out, Int.natCast_ediv]; rfl, ?_, hxr.setCell (Nat.le_refl _) _⟩
        rw [← beFill_step size j n hlt hj, HN.out, bv_set]
        exact hst.1
      case measure => simp [intOf]; omega
    · obtain rfl : j = 0 := by omega
      have hb' : (Ty.sl .u8).holds wr F [.slice A bs.length c] bs := hxr.holds hF ⟨A, c, xs, rfl, hlc, hc, hA, hcell, hall⟩
      have hsrc := src_bytes hb'
      have hbe : beFill size 0 n = be size n := by simp [beFill]
      rw [hbe] at hor
      clear hbe
      go_wp2_with (first
        | (at_builtin; refine wpList_app _ rfl (.tmp 25) (.tmp 26) _ _ rfl _ _ i0 _ 1 1 Try.underlying55 Try.underlying55 hi hz0 hz1 hz2 rfl (by decide) _ _ _ rfl (own_empty rfl) _ _ _ (bv bs) rfl (by simp) (hsrc.alloc (bv_ne bs) _) (bv_one _) (by unfold maxLen; omega) (by omega) ?_; intro v2 w2 ho2 hm2; have hm3 : Fresh wr w2 v2 := (fresh_empty wr _).trans hm2; have hor2 := Own.ext hor hm3.ext)
        | (at_builtin; refine wpList_app _ rfl (.tmp 27) (.tmp 28) _ _ rfl _ _ i0 _ 1 1 Try.underlying55 Try.underlying55 hi hz0 hz1 hz2 rfl (by decide) _ _ _ rfl ho2 _ _ _ (bv (be size n)) rfl (by simp [be_length]) (own_src hor2) (bv_one _) (by unfold maxLen; omega) (by omega) ?_; intro v4 w4 ho4 hm4))
      go_ret
      refine ⟨_, rfl, ?_, Moved.pre hxr (hm3.trans hm4)⟩
      unfold OwnB
      rw [bv_append, List.length_append, be_length]
      simpa using ho4
end
section
open Go.RowKit

set_option maxRecDepth 100000 in
set_option maxHeartbeats 4000000 in
theorem RSecret (seed : List UInt8) (hs : seed.length = 32) (n : Nat) (hn : n < 4294967296) (k : Nat) (hk : k < 32) (bt : Nat) (hbt : bt < 2) (w : World) :
    Calls Try.prog 34 #[.agg tabsC.toArray, .agg (bv seed).toArray, .int .u32 (n : Int), .int .i64 (k : Int), .int .i64 (bt : Int)] w fun e w' => e = .returned (.agg (bv (secretM seed n k bt)).toArray) ∧ Ext w w' := by
  obtain ⟨Z, hz, hzl⟩ : ∃ Z : List Value, (Try.prog.info? 35).bind (fun i => i.zero.map (·.cells)) = some Z.toArray ∧ Z.length = 16 := ⟨_, rpiece_zero, by simp⟩
  have hfor := fun v W F hp2 hF => RFor 1 1 rfl [seed, be 4 n, [byteN k, byteN bt]] (by simp [blob, be_length, hs]) v W F hp2 hF
  have hfi := fun W => RFirst (sha (textM 1 [seed, be 4 n, [byteN k, byteN bt]])) (sha_length _) W
  have hcv : (sha (textM 1 [seed, be 4 n, [byteN k, byteN bt]])).take 16 = secretM seed n k bt := rfl
  rw [hcv] at hfi
  have hts : (Try.prog.info? 25).map (·.size) = some tabsC.length := tabs_size rfl
  generalize tabsC = TB at *
  have hcl : (bv (secretM seed n k bt)).length = 16 := by rw [bv_length, secretM_length]
  have hco := bv_one (secretM seed n k bt)
  have hb0 : Blk (((w.alloc (.cells TB.toArray 25)).alloc (.cells (bv seed).toArray 22)).alloc (.cells Z.toArray 35)).drew w.heap.size 25 TB := (((Blk.new _ _ _).keep ((Ext.refl _).alloc _) (by simp)).keep ((Ext.refl _).alloc _) (by simp)).keep (Ext.refl _).drew (by simp)
  have hb1 : Blk (((w.alloc (.cells TB.toArray 25)).alloc (.cells (bv seed).toArray 22)).alloc (.cells Z.toArray 35)).drew (w.heap.size + 1) 22 (bv seed) := ((Blk.fresh (by simp) _ _).keep ((Ext.refl _).alloc _) (by simp)).keep (Ext.refl _).drew (by simp)
  have hb2 : Blk (((w.alloc (.cells TB.toArray 25)).alloc (.cells (bv seed).toArray 22)).alloc (.cells Z.toArray 35)).drew (w.heap.size + 1 + 1) 35 Z := (Blk.fresh (by simp) _ _).keep (Ext.refl _).drew (by simp)
  have hx0 : Ext w (((w.alloc (.cells TB.toArray 25)).alloc (.cells (bv seed).toArray 22)).alloc (.cells Z.toArray 35)).drew := ((((Ext.refl w).alloc _).alloc _).alloc _).trans (Ext.refl _).drew
  have hseed : ∀ W, Ext (((w.alloc (.cells TB.toArray 25)).alloc (.cells (bv seed).toArray 22)).alloc (.cells Z.toArray 35)).drew W → (Ty.sl .u8).holds W (fun b => b = w.heap.size + 1) [.slice (some ⟨w.heap.size + 1, 0, none⟩) 32 32] seed ∧ ∀ b, b = w.heap.size + 1 → b < W.heap.size := by
    intro W hX
    have hb := hb1.keep hX (by simp)
    refine ⟨⟨_, _, bv seed, by rw [hs], by rw [hs]; exact Nat.le_refl _, by simp [maxLen], by simp, fun _ => ⟨_, rfl, rfl, hb.cells⟩, AllH.bytes.2 rfl⟩, ?_⟩
    rintro b rfl; exact hb.lt
  generalize bv (secretM seed n k bt) = C at *
  generalize bv (sha (textM 1 [seed, be 4 n, [byteN k, byteN bt]])) = HH at *
  generalize bv seed = SC at *
  have HB0 := Lib.hid hb0
  have HB2 := Lib.hid hb2
  have HX0 := Lib.hid hx0
  have HSEED := Lib.hid hseed
  have HFOR := Lib.hid hfor
  have HFI := Lib.hid hfi
  have HCL := Lib.hid hcl
  have HZL := Lib.hid hzl
  have HTS := Lib.hid hts
  have HN := Lib.hid hn
  have HK := Lib.hid hk
  have HBT := Lib.hid hbt
  have HWK : Hid (IntKind.u8.wrap (k : Int) = (k : Int)) := Lib.hid (by simp [IntKind.wrap, IntKind.bits, IntKind.signed]; omega)
  have HWB : Hid (IntKind.u8.wrap (bt : Int) = (bt : Int)) := Lib.hid (by simp [IntKind.wrap, IntKind.bits, IntKind.signed]; omega)
  have HWN : Hid (IntKind.u64.wrap (n : Int) = (n : Int)) := Lib.hid (by simp [IntKind.wrap, IntKind.bits, IntKind.signed]; omega)
  clear hb0 hb1 hb2 hx0 hseed hfor hfi hcl hzl hts hcv hn hk hbt
  go_enter Try.func34, Try.ntmps34
  go_wp2_with (first
    | (refine wpList_alloc _ rfl 35 rfl _ hz ?_)
    | fail)
  (try simp only [World.size_alloc])
  refine stab_store Ext ext_refl ext_trans [[0], [1], [2], [2, 3], [2, 3, 4], [5], [5, 6], [7], [7, 8], [5, 6, 7, 8, 9], [1, 2, 3, 4, 5, 6, 7, 8, 9, 10], [0, 1, 2, 3, 4, 5, 6, 7, 8, 9, 10, 11], [0, 1, 2, 3, 4, 5, 6, 7, 8, 9, 10, 11, 12], [0, 1, 2, 3, 4, 5, 6, 7, 8, 9, 10, 11, 12, 13]] (fun i v wv => match i with | 0 => v = .agg TB.toArray | 1 => v = .slice (some ⟨w.heap.size + 1, 0, none⟩) 32 32 | 2 => v = .int .u32 (n : Int) | 3 => v = .int .u64 (n : Int) | 4 => (Ty.sl .u8).holds wv (fun b => v.ownBlock = some b) [v] (be 4 n) ∧ ∀ b, v.ownBlock = some b → b < wv.heap.size | 5 => v = .int .i64 (k : Int) | 6 => v = .int .u8 (k : Int) | 7 => v = .int .i64 (bt : Int) | 8 => v = .int .u8 (bt : Int) | 9 => (Ty.sl .u8).holds wv (fun b => v.ownBlock = some b) [v] [byteN k, byteN bt] ∧ ∀ b, v.ownBlock = some b → b < wv.heap.size | 10 => ∃ F, (Ty.sl (.sl .u8)).holds wv F [v] [seed, be 4 n, [byteN k, byteN bt]] ∧ ∀ b, F b → b < wv.heap.size | 11 => v = .agg HH.toArray | 12 => v = .agg C.toArray | _ => True) (by kernel_rfl) (by kernel_rfl) (by kernel_rfl) (by kernel_rfl) (by simp) ?_ ?_ ?_
  · intro i v w1 w2 h hx
    match i, h with
    | 0, h => exact h
    | 1, h => exact h
    | 2, h => exact h
    | 3, h => exact h
    | 4, h =>
      replace h : (Ty.sl .u8).holds w1 (fun b => v.ownBlock = some b) [v] (be 4 n) ∧ ∀ b, v.ownBlock = some b → b < w1.heap.size := h
      show (Ty.sl .u8).holds w2 (fun b => v.ownBlock = some b) [v] (be 4 n) ∧ ∀ b, v.ownBlock = some b → b < w2.heap.size
      obtain ⟨h1, h2⟩ := h
      exact ⟨hx.holds h2 h1, fun b hb => Nat.lt_of_lt_of_le (h2 b hb) hx.size⟩
    | 5, h => exact h
    | 6, h => exact h
    | 7, h => exact h
    | 8, h => exact h
    | 9, h =>
      replace h : (Ty.sl .u8).holds w1 (fun b => v.ownBlock = some b) [v] [byteN k, byteN bt] ∧ ∀ b, v.ownBlock = some b → b < w1.heap.size := h
      show (Ty.sl .u8).holds w2 (fun b => v.ownBlock = some b) [v] [byteN k, byteN bt] ∧ ∀ b, v.ownBlock = some b → b < w2.heap.size
      obtain ⟨h1, h2⟩ := h
      exact ⟨hx.holds h2 h1, fun b hb => Nat.lt_of_lt_of_le (h2 b hb) hx.size⟩
    | 10, h =>
      replace h : ∃ F, (Ty.sl (.sl .u8)).holds w1 F [v] [seed, be 4 n, [byteN k, byteN bt]] ∧ ∀ b, F b → b < w1.heap.size := h
      show ∃ F, (Ty.sl (.sl .u8)).holds w2 F [v] [seed, be 4 n, [byteN k, byteN bt]] ∧ ∀ b, F b → b < w2.heap.size
      obtain ⟨F, h1, h2⟩ := h
      exact ⟨F, hx.holds h2 h1, fun b hb => Nat.lt_of_lt_of_le (h2 b hb) hx.size⟩
    | 11, h => exact h
    | 12, h => exact h
    | i + 13, h => trivial
  · intro i hi o ho
    match i, hi, ho with
    | 0, _, ho =>
      obtain rfl := Option.some.inj ho
      intro s W hX hd K hK
      rw [if_pos (wanted_plain rfl)]
      clear hd
      replace hK : ∀ (v : Value) (W' : World), Ext W W' → (v = .agg TB.toArray) → _ := hK
      simp only [mkOf, List.map_cons, List.map_nil, Act.put, List.setIfInBounds_toArray, List.set_cons_succ, List.set_cons_zero, Nat.reduceAdd, Nat.zero_add] at hK ⊢
      refine wp_load_agg 25 (.tmp 5) rfl _ rfl TB _ Try.underlying25 rfl HTS.out (HB0.out.keep hX (by simp)).cells ?_
      exact hK _ _ (Ext.refl _) rfl
    | 1, _, ho =>
      obtain rfl := Option.some.inj ho
      intro s W hX hd K hK
      rw [if_pos (wanted_plain rfl)]
      clear hd
      replace hK : ∀ (v : Value) (W' : World), Ext W W' → (v = .slice (some ⟨w.heap.size + 1, 0, none⟩) 32 32) → _ := hK
      simp only [mkOf, List.map_cons, List.map_nil, Act.put, List.setIfInBounds_toArray, List.set_cons_succ, List.set_cons_zero, Nat.reduceAdd, Nat.zero_add] at hK ⊢
      go_simp
      exact hK _ _ (Ext.refl _) rfl
    | 2, _, ho =>
      obtain rfl := Option.some.inj ho
      intro s W hX hd K hK
      rw [if_pos (wanted_plain rfl)]
      clear hd
      replace hK : ∀ (v : Value) (W' : World), Ext W W' → (v = .int .u32 (n : Int)) → _ := hK
      simp only [mkOf, List.map_cons, List.map_nil, Act.put, List.setIfInBounds_toArray, List.set_cons_succ, List.set_cons_zero, Nat.reduceAdd, Nat.zero_add] at hK ⊢
      go_simp
      exact hK _ _ (Ext.refl _) rfl
    | 3, _, ho =>
      obtain rfl := Option.some.inj ho
      intro s W hX hd K hK
      rw [if_pos (wanted_plain rfl)]
      have d13 : (s 2) = .int .u32 (n : Int) := hd 2 (by decide) (by decide)
      clear hd
      replace hK : ∀ (v : Value) (W' : World), Ext W W' → (v = .int .u64 (n : Int)) → _ := hK
      simp only [mkOf, List.map_cons, List.map_nil, Act.put, List.setIfInBounds_toArray, List.set_cons_succ, List.set_cons_zero, Nat.reduceAdd, Nat.zero_add] at hK ⊢
      simp only [d13] at hK ⊢
      have hn3 := HN.out
      go_simp
      exact hK _ _ (Ext.refl _) (by rw [HWN.out])
    | 4, _, ho =>
      obtain rfl := Option.some.inj ho
      intro s W hX hd K hK
      rw [if_pos (wanted_plain rfl)]
      have d14 : (s 3) = .int .u64 (n : Int) := hd 3 (by decide) (by decide)
      clear hd
      replace hK : ∀ (v : Value) (W' : World), Ext W W' → ((Ty.sl .u8).holds W' (fun b => v.ownBlock = some b) [v] (be 4 n) ∧ ∀ b, v.ownBlock = some b → b < W'.heap.size) → _ := hK
      simp only [mkOf, List.map_cons, List.map_nil, Act.put, List.setIfInBounds_toArray, List.set_cons_succ, List.set_cons_zero, Nat.reduceAdd, Nat.zero_add] at hK ⊢
      simp only [d14] at hK ⊢
      have hn3 := HN.out
      go_simp
      refine (Ref_Num (.slice none 0 0) [] n 4 W (fun _ => False) ⟨none, 0, [], rfl, Nat.le_refl _, by simp [maxLen], by simp, fun h => absurd rfl h, rfl⟩ (fun b h => h.elim) (by omega) (by decide) (by simp)).mono ?_
      rintro e w' ⟨v, rfl, hov, hf⟩
      exact hK _ _ hf.ext ⟨hov.holds, hov.lt⟩
    | 5, _, ho =>
      obtain rfl := Option.some.inj ho
      intro s W hX hd K hK
      rw [if_pos (wanted_plain rfl)]
      clear hd
      replace hK : ∀ (v : Value) (W' : World), Ext W W' → (v = .int .i64 (k : Int)) → _ := hK
      simp only [mkOf, List.map_cons, List.map_nil, Act.put, List.setIfInBounds_toArray, List.set_cons_succ, List.set_cons_zero, Nat.reduceAdd, Nat.zero_add] at hK ⊢
      go_simp
      exact hK _ _ (Ext.refl _) rfl
    | 6, _, ho =>
      obtain rfl := Option.some.inj ho
      intro s W hX hd K hK
      rw [if_pos (wanted_plain rfl)]
      have d16 : (s 5) = .int .i64 (k : Int) := hd 5 (by decide) (by decide)
      clear hd
      replace hK : ∀ (v : Value) (W' : World), Ext W W' → (v = .int .u8 (k : Int)) → _ := hK
      simp only [mkOf, List.map_cons, List.map_nil, Act.put, List.setIfInBounds_toArray, List.set_cons_succ, List.set_cons_zero, Nat.reduceAdd, Nat.zero_add] at hK ⊢
      simp only [d16] at hK ⊢
      go_simp
      exact hK _ _ (Ext.refl _) (by rw [HWK.out])
    | 7, _, ho =>
      obtain rfl := Option.some.inj ho
      intro s W hX hd K hK
      rw [if_pos (wanted_plain rfl)]
      clear hd
      replace hK : ∀ (v : Value) (W' : World), Ext W W' → (v = .int .i64 (bt : Int)) → _ := hK
      simp only [mkOf, List.map_cons, List.map_nil, Act.put, List.setIfInBounds_toArray, List.set_cons_succ, List.set_cons_zero, Nat.reduceAdd, Nat.zero_add] at hK ⊢
      go_simp
      exact hK _ _ (Ext.refl _) rfl
    | 8, _, ho =>
      obtain rfl := Option.some.inj ho
      intro s W hX hd K hK
      rw [if_pos (wanted_plain rfl)]
      have d18 : (s 7) = .int .i64 (bt : Int) := hd 7 (by decide) (by decide)
      clear hd
      replace hK : ∀ (v : Value) (W' : World), Ext W W' → (v = .int .u8 (bt : Int)) → _ := hK
      simp only [mkOf, List.map_cons, List.map_nil, Act.put, List.setIfInBounds_toArray, List.set_cons_succ, List.set_cons_zero, Nat.reduceAdd, Nat.zero_add] at hK ⊢
      simp only [d18] at hK ⊢
      go_simp
      exact hK _ _ (Ext.refl _) (by rw [HWB.out])
    | 9, _, ho =>
      obtain rfl := Option.some.inj ho
      intro s W hX hd K hK
      rw [if_pos (wanted_plain rfl)]
      have d17 : (s 6) = .int .u8 (k : Int) := hd 6 (by decide) (by decide)
      have d19 : (s 8) = .int .u8 (bt : Int) := hd 8 (by decide) (by decide)
      clear hd
      replace hK : ∀ (v : Value) (W' : World), Ext W W' → ((Ty.sl .u8).holds W' (fun b => v.ownBlock = some b) [v] [byteN k, byteN bt] ∧ ∀ b, v.ownBlock = some b → b < W'.heap.size) → _ := hK
      simp only [mkOf, List.map_cons, List.map_nil, Act.put, List.setIfInBounds_toArray, List.set_cons_succ, List.set_cons_zero, Nat.reduceAdd, Nat.zero_add] at hK ⊢
      simp only [d17, d19] at hK ⊢
      go_simp
      exact hK _ _ ((Ext.refl _).alloc _) ⟨sl_made (t := .u8) rfl rfl rfl (by simp [maxLen]) (AllH.bytes.2 (two_bytes HK.out HBT.out)), by rintro b ⟨⟩; simp⟩
    | 10, _, ho =>
      obtain rfl := Option.some.inj ho
      intro s W hX hd K hK
      rw [if_pos (wanted_plain rfl)]
      have d12 : (s 1) = .slice (some ⟨w.heap.size + 1, 0, none⟩) 32 32 := hd 1 (by decide) (by decide)
      have d15 : (Ty.sl .u8).holds W (fun b => (s 4).ownBlock = some b) [(s 4)] (be 4 n) ∧ ∀ b, (s 4).ownBlock = some b → b < W.heap.size := hd 4 (by decide) (by decide)
      have d20 : (Ty.sl .u8).holds W (fun b => (s 9).ownBlock = some b) [(s 9)] [byteN k, byteN bt] ∧ ∀ b, (s 9).ownBlock = some b → b < W.heap.size := hd 9 (by decide) (by decide)
      clear hd
      replace hK : ∀ (v : Value) (W' : World), Ext W W' → (∃ F, (Ty.sl (.sl .u8)).holds W' F [v] [seed, be 4 n, [byteN k, byteN bt]] ∧ ∀ b, F b → b < W'.heap.size) → _ := hK
      simp only [mkOf, List.map_cons, List.map_nil, Act.put, List.setIfInBounds_toArray, List.set_cons_succ, List.set_cons_zero, Nat.reduceAdd, Nat.zero_add] at hK ⊢
      simp only [d12] at hK ⊢
      have hsd := HSEED.out W hX
      obtain ⟨A1, c1, e1⟩ := sl_form d15.1
      obtain ⟨A2, c2, e2⟩ := sl_form d20.1
      rw [e1] at d15
      rw [e2] at d20
      simp only [e1, e2] at hK ⊢
      go_simp
      exact hK _ _ ((Ext.refl _).alloc _) (three_parts hsd.1 hsd.2 d15.1 d15.2 d20.1 d20.2)
    | 11, _, ho =>
      obtain rfl := Option.some.inj ho
      intro s W hX hd K hK
      rw [if_pos (wanted_plain rfl)]
      have d11 : (s 0) = .agg TB.toArray := hd 0 (by decide) (by decide)
      have d21 : ∃ F, (Ty.sl (.sl .u8)).holds W F [(s 10)] [seed, be 4 n, [byteN k, byteN bt]] ∧ ∀ b, F b → b < W.heap.size := hd 10 (by decide) (by decide)
      clear hd
      replace hK : ∀ (v : Value) (W' : World), Ext W W' → (v = .agg HH.toArray) → _ := hK
      simp only [mkOf, List.map_cons, List.map_nil, Act.put, List.setIfInBounds_toArray, List.set_cons_succ, List.set_cons_zero, Nat.reduceAdd, Nat.zero_add] at hK ⊢
      simp only [d11] at hK ⊢
      obtain ⟨F, h1, h2⟩ := d21
      go_simp
      refine (HFOR.out _ W F h1 h2).mono ?_
      rintro e w' ⟨rfl, hx⟩
      exact hK _ _ hx rfl
    | 12, _, ho =>
      obtain rfl := Option.some.inj ho
      intro s W hX hd K hK
      rw [if_pos (wanted_plain rfl)]
      have d22 : (s 11) = .agg HH.toArray := hd 11 (by decide) (by decide)
      clear hd
      replace hK : ∀ (v : Value) (W' : World), Ext W W' → (v = .agg C.toArray) → _ := hK
      simp only [mkOf, List.map_cons, List.map_nil, Act.put, List.setIfInBounds_toArray, List.set_cons_succ, List.set_cons_zero, Nat.reduceAdd, Nat.zero_add] at hK ⊢
      simp only [d22] at hK ⊢
      go_simp
      refine (HFI.out W).mono ?_
      rintro e w' ⟨rfl, hx⟩
      exact hK _ _ hx rfl
    | i + 13, hi, _ => exact absurd hi (by simp)
  · intro o ho
    obtain rfl := Option.some.inj ho
    intro s W hX hd K hK
    rw [if_pos (wanted_plain rfl)]
    have d11 : (s 0) = .agg TB.toArray := hd 0 (by decide)
    have d12 : (s 1) = .slice (some ⟨w.heap.size + 1, 0, none⟩) 32 32 := hd 1 (by decide)
    have d13 : (s 2) = .int .u32 (n : Int) := hd 2 (by decide)
    have d14 : (s 3) = .int .u64 (n : Int) := hd 3 (by decide)
    have d15 : (Ty.sl .u8).holds W (fun b => (s 4).ownBlock = some b) [(s 4)] (be 4 n) ∧ ∀ b, (s 4).ownBlock = some b → b < W.heap.size := hd 4 (by decide)
    have d16 : (s 5) = .int .i64 (k : Int) := hd 5 (by decide)
    have d17 : (s 6) = .int .u8 (k : Int) := hd 6 (by decide)
    have d18 : (s 7) = .int .i64 (bt : Int) := hd 7 (by decide)
    have d19 : (s 8) = .int .u8 (bt : Int) := hd 8 (by decide)
    have d20 : (Ty.sl .u8).holds W (fun b => (s 9).ownBlock = some b) [(s 9)] [byteN k, byteN bt] ∧ ∀ b, (s 9).ownBlock = some b → b < W.heap.size := hd 9 (by decide)
    have d21 : ∃ F, (Ty.sl (.sl .u8)).holds W F [(s 10)] [seed, be 4 n, [byteN k, byteN bt]] ∧ ∀ b, F b → b < W.heap.size := hd 10 (by decide)
    have d22 : (s 11) = .agg HH.toArray := hd 11 (by decide)
    have d23 : (s 12) = .agg C.toArray := hd 12 (by decide)
    clear hd
    simp only [mkOf, List.map_cons, List.map_nil, Act.put, List.setIfInBounds_toArray, List.set_cons_succ, List.set_cons_zero, Nat.reduceAdd, Nat.zero_add]
    refine wp_store_row 35 (.tmp 10) (.tmp 23) rfl (w.heap.size + 1 + 1) rfl Z C _ (by simpa [Act.eval] using d23) (HB2.out.keep hX (by simp)) (rpiece_size HCL.out) (by rw [HCL.out, HZL.out]) hco ?_
    refine hK _ _ ?_
    have hr := HB2.out.keep hX (by simp)
    have hx9 : Ext w (W.setRow (w.heap.size + 1 + 1) C.toArray) := setRow_grown (HX0.out.trans hX) _ _ (by omega)
    have hc9 := Blk.cells (t := 35) (setRow_at (cs' := C.toArray) hr)
    clear hK hX
    (try simp only [Exit.then])
    go_wp2_with fail
    (try simp only [Exit.inBlock, Exit.then])
    refine bodyPost_ret (results_agg rfl _ _ _ _ _ rfl Try.underlying35 rfl (rpiece_size HCL.out) hc9) rfl ?_
    exact ⟨rfl, hx9⟩
end
section
open Go.RowKit

theorem rsig_size {n : Nat} (h : n = 1024) : (Try.prog.info? 38).map (·.size) = some n := by subst h; kernel_rfl
theorem arr_size {n : Nat} (h : n = 32) : (Try.prog.info? 22).map (·.size) = some n := by subst h; kernel_rfl
theorem arr_zero : (Try.prog.info? 22).bind (fun i => i.zero.map (·.cells)) = some (bv (List.replicate 32 0)).toArray := by kernel_rfl
set_option maxRecDepth 100000 in
set_option maxHeartbeats 8000000 in
theorem RFrom (S : List UInt8) (hS : S.length = 1024) (d : List UInt8) (hd : d.length = 32) (w : World) :
    Calls Try.prog 18 #[.agg tabsC.toArray, .agg (bv S).toArray, .agg (bv d).toArray] w fun e w' => e = .returned (.agg (bv (fromS S d)).toArray) ∧ Ext w w' := by
  obtain ⟨i0, hi, hz0, hz1, hz2⟩ := info_parts u8_info
  obtain ⟨Z, hz, hzl⟩ : ∃ Z : List Value, (Try.prog.info? 35).bind (fun i => i.zero.map (·.cells)) = some Z.toArray ∧ Z.length = 16 := ⟨_, rpiece_zero, by simp⟩
  obtain ⟨D, hzd, hdl0⟩ : ∃ D : List Value, (Try.prog.info? 22).bind (fun i => i.zero.map (·.cells)) = some D.toArray ∧ D.length = 32 := ⟨_, arr_zero, by simp⟩
  have hp1l : ∀ k, k < 32 → ((S.drop (k * 16)).take 16).length = 16 := fun k h => by rw [List.length_take, List.length_drop, hS]; omega
  have hp2l : ∀ k, k < 32 → ((S.drop (512 + k * 16)).take 16).length = 16 := fun k h => by rw [List.length_take, List.length_drop, hS]; omega
  have hpl : ∀ k, k ≤ 32 → (piecesM (rowS S d) k).length = k * 32 := by
    intro k
    induction k with
    | zero => intro _; simp [piecesM]
    | succ k ih => intro h; rw [piecesM_succ, List.length_append, ih (by omega), rowS, rowFrom_length (hp2l k (by omega)), Nat.succ_mul]
  have hbit := fun (k : Nat) (hk : k < 32) W => RBit d hd k hk W
  have hcov := fun (k : Nat) (hk : k < 32) W => RCover ((S.drop (k * 16)).take 16) (hp1l k hk) W
  have hfor := fun v W F hp2 hF => RFor 2 2 rfl [piecesM (rowS S d) 32] (by simp [blob, be_length, hpl 32 (Nat.le_refl _)]) v W F hp2 hF
  have hlm : sha (textM 2 [piecesM (rowS S d) 32]) = fromS S d := rfl
  rw [hlm] at hfor
  have hrl : (bv (fromS S d)).length = 32 := by rw [bv_length]; exact leafOf_length _
  have hro := bv_one (fromS S d)
  have hdl : (bv d).length = 32 := by rw [bv_length]; exact hd
  have hq := bv_drop_take S
  have hts : (Try.prog.info? 25).map (·.size) = some tabsC.length := tabs_size rfl
  generalize tabsC = TB at *
  have hb0 : Blk ((((w.alloc (.cells TB.toArray 25)).alloc (.cells (bv S).toArray 38)).alloc (.cells (bv d).toArray 22)).alloc (.cells D.toArray 22)) w.heap.size 25 TB := (((Blk.new _ _ _).keep ((Ext.refl _).alloc _) (by simp)).keep ((Ext.refl _).alloc _) (by simp)).keep ((Ext.refl _).alloc _) (by simp)
  have hb1 : Blk ((((w.alloc (.cells TB.toArray 25)).alloc (.cells (bv S).toArray 38)).alloc (.cells (bv d).toArray 22)).alloc (.cells D.toArray 22)) (w.heap.size + 1) 38 (bv S) := ((Blk.fresh (by simp) _ _).keep ((Ext.refl _).alloc _) (by simp)).keep ((Ext.refl _).alloc _) (by simp)
  have hb2 : Blk ((((w.alloc (.cells TB.toArray 25)).alloc (.cells (bv S).toArray 38)).alloc (.cells (bv d).toArray 22)).alloc (.cells D.toArray 22)) (w.heap.size + 1 + 1) 22 (bv d) := (Blk.fresh (by simp) _ _).keep ((Ext.refl _).alloc _) (by simp)
  have hb3 : Blk ((((w.alloc (.cells TB.toArray 25)).alloc (.cells (bv S).toArray 38)).alloc (.cells (bv d).toArray 22)).alloc (.cells D.toArray 22)) (w.heap.size + 1 + 1 + 1) 22 D := Blk.fresh (by simp) _ _
  have hx0 : Ext w ((((w.alloc (.cells TB.toArray 25)).alloc (.cells (bv S).toArray 38)).alloc (.cells (bv d).toArray 22)).alloc (.cells D.toArray 22)) := ((((Ext.refl w).alloc _).alloc _).alloc _).alloc _
  generalize bv (fromS S d) = R at *
  generalize bv S = C at *
  generalize bv d = DC at *
  have HB0 := Lib.hid hb0
  have HB1 := Lib.hid hb1
  have HB2 := Lib.hid hb2
  have HB3 := Lib.hid hb3
  have HX0 := Lib.hid hx0
  have HBIT := Lib.hid hbit
  have HCOV := Lib.hid hcov
  have HFOR := Lib.hid hfor
  have HRL := Lib.hid hrl
  have HZL := Lib.hid hzl
  have HDL0 := Lib.hid hdl0
  have HDL := Lib.hid hdl
  have HQ := Lib.hid hq
  have HPA := Lib.hid hp1l
  have HPB := Lib.hid hp2l
  have HPLA := Lib.hid hpl
  have HTS := Lib.hid hts
  clear hb0 hb1 hb2 hb3 hx0 hbit hcov hfor hrl hdl hdl0 hlm hzl hq hp1l hp2l hpl hts
  go_enter Try.func18, Try.ntmps18
  go_wp2_with (first
    | (refine wpList_alloc _ rfl 22 rfl _ hzd ?_)
    | fail)
  go_loopw [7, 8, 9, 10] (fun u i p q wr => ∃ k : Nat, k ≤ 32 ∧ i = .int .i64 k ∧ OwnB wr u (piecesM (rowS S d) k) ∧ Ext w wr ∧ Blk wr w.heap.size 25 TB ∧ Blk wr (w.heap.size + 1) 38 C ∧ Blk wr (w.heap.size + 1 + 1) 22 DC ∧ Blk wr (w.heap.size + 1 + 1 + 1) 22 D ∧ ∀ b, u.ownBlock = some b → w.heap.size + 1 + 1 + 1 + 1 ≤ b) (fun _ i _ _ _ => 32 - (intOf i).toNat)
  case atStart => exact ⟨0, by omega, rfl, Own.nil _ _ _, HX0.out, HB0.out, HB1.out, HB2.out, HB3.out, fun b hb => by simp [Value.ownBlock] at hb⟩
  case round =>
    clear HX0 HB0 HB1 HB2 HB3
    obtain ⟨k, hk, rfl, hou, hx, hb0, hb1, hb2, hb3, hne⟩ := hrel
    by_cases hlt : k < 32
    · have hq1 := HQ.out (k * 16) 16
      have hq2 := HQ.out (512 + k * 16) 16
      have hl1 : (bv ((S.drop (k * 16)).take 16)).length = 16 := by rw [bv_length]; exact HPA.out k hlt
      have hl2 : (bv ((S.drop (512 + k * 16)).take 16)).length = 16 := by rw [bv_length]; exact HPB.out k hlt
      have hpo2 := bv_one ((S.drop (512 + k * 16)).take 16)
      have hcv := fun W => HCOV.out k hlt W
      have hcl : (bv (coverM ((S.drop (k * 16)).take 16))).length = 16 := by rw [bv_length, coverM_length]
      have hco := bv_one (coverM ((S.drop (k * 16)).take 16))
      have hrow : bv (rowS S d k) = if bitM d k = 0 then bv (coverM ((S.drop (k * 16)).take 16)) ++ bv ((S.drop (512 + k * 16)).take 16) else bv ((S.drop (512 + k * 16)).take 16) ++ bv (coverM ((S.drop (k * 16)).take 16)) := by
        unfold rowS rowFrom
        split <;> rw [bv_append]
      have hrln : (rowS S d k).length = 32 := rowFrom_length (HPB.out k hlt)
      have hbt := fun W => HBIT.out k hlt W
      have hpk := HPLA.out k (by omega)
      generalize bitM d k = b at *
      generalize bv (coverM ((S.drop (k * 16)).take 16)) = CV at *
      generalize bv ((S.drop (k * 16)).take 16) = P1 at *
      generalize bv ((S.drop (512 + k * 16)).take 16) = P2 at *
      have HROW : Hid (piecesM (rowS S d) (k + 1) = piecesM (rowS S d) k ++ rowS S d k) := Lib.hid (piecesM_succ _ _)
      have HLTU := Lib.hid (OwnB.lt hou)
      have HOUr := Lib.hid hou
      have HX := Lib.hid hx
      have HB0 : Hid (Blk wr.drew w.heap.size 25 TB) := Lib.hid hb0
      have HB1 : Hid (Blk wr.drew (w.heap.size + 1) 38 C) := Lib.hid hb1
      have HB2 : Hid (Blk wr.drew (w.heap.size + 1 + 1) 22 DC) := Lib.hid hb2
      have HB3 : Hid (Blk wr.drew (w.heap.size + 1 + 1 + 1) 22 D) := Lib.hid hb3
      have HNE := Lib.hid hne
      have HBT := Lib.hid hbt
      have HQ1 := Lib.hid hq1
      have HQ2 := Lib.hid hq2
      have HP1 := Lib.hid hl1
      have HP2 := Lib.hid hl2
      have HCV := Lib.hid hcv
      have HCL := Lib.hid hcl
      have HRB := Lib.hid hrow
      have HRLN := Lib.hid hrln
      have HPL := Lib.hid hpk
      clear hou hx hb0 hb1 hb2 hb3 hne hbt hq1 hq2 hl1 hl2 hcv hcl hrow hrln hpk
      have HK1 : Hid (∀ W, Ext wr.drew W → Cells W ⟨w.heap.size + 1, k * 16, none⟩ P1) := Lib.hid fun W h => by have h2 := ((HB1.out.keep h (by simp)).cells.drop (k * 16)).take 16; rw [addr_at, HQ1.out] at h2; exact h2
      go_wp2_with fail
      have hdk : decide ((k : Int) < 32) = true := by rw [decide_eq_true_iff]; omega
      (try simp only [hdk])
      clear hdk
      refine stab_store Ext ext_refl ext_trans [[0], [1], [2], [1, 2, 3], [1, 2, 3, 4], [0, 1, 2, 3, 4, 5], [6], [0, 1, 2, 3, 4, 5, 6, 7]] (fun i v wv => match i with | 0 => v = .agg TB.toArray | 1 => v = .int .i64 (k : Int) | 2 => v = .pointer (some ⟨w.heap.size + 1, 0, none⟩) | 3 => v = .pointer (some ⟨w.heap.size + 1, k * 16, none⟩) | 4 => v = .agg P1.toArray | 5 => v = .agg CV.toArray | 6 => ∃ g, v = .pointer (some ⟨g, 0, none⟩) ∧ wr.heap.size ≤ g ∧ Blk wv g 35 Z | _ => True) (by kernel_rfl) (by kernel_rfl) (by kernel_rfl) (by kernel_rfl) (by simp) ?_ ?_ ?_
      · intro i v w1 w2 h hx
        match i, h with
        | 0, h => exact h
        | 1, h => exact h
        | 2, h => exact h
        | 3, h => exact h
        | 4, h => exact h
        | 5, h => exact h
        | 6, h =>
          replace h : ∃ g, v = .pointer (some ⟨g, 0, none⟩) ∧ wr.heap.size ≤ g ∧ Blk w1 g 35 Z := h
          show ∃ g, v = .pointer (some ⟨g, 0, none⟩) ∧ wr.heap.size ≤ g ∧ Blk w2 g 35 Z
          obtain ⟨g, h1, h2, h3⟩ := h
          exact ⟨g, h1, h2, h3.keep hx (by simp)⟩
        | i + 7, h => trivial
      · intro i hi o ho
        match i, hi, ho with
        | 0, _, ho =>
          obtain rfl := Option.some.inj ho
          intro s W hX hd K hK
          rw [if_pos (wanted_plain rfl)]
          clear hd
          replace hK : ∀ (v : Value) (W' : World), Ext W W' → (v = .agg TB.toArray) → _ := hK
          simp only [mkOf, List.map_cons, List.map_nil, Act.put, List.setIfInBounds_toArray, List.set_cons_succ, List.set_cons_zero, Nat.reduceAdd, Nat.zero_add] at hK ⊢
          refine wp_load_agg 25 (.tmp 3) rfl _ rfl TB _ Try.underlying25 rfl HTS.out (HB0.out.keep hX (by simp)).cells ?_
          exact hK _ _ (Ext.refl _) rfl
        | 1, _, ho =>
          obtain rfl := Option.some.inj ho
          intro s W hX hd K hK
          rw [if_pos (wanted_plain rfl)]
          clear hd
          replace hK : ∀ (v : Value) (W' : World), Ext W W' → (v = .int .i64 (k : Int)) → _ := hK
          simp only [mkOf, List.map_cons, List.map_nil, Act.put, List.setIfInBounds_toArray, List.set_cons_succ, List.set_cons_zero, Nat.reduceAdd, Nat.zero_add] at hK ⊢
          go_simp
          exact hK _ _ (Ext.refl _) rfl
        | 2, _, ho =>
          obtain rfl := Option.some.inj ho
          intro s W hX hd K hK
          rw [if_pos (wanted_plain rfl)]
          clear hd
          replace hK : ∀ (v : Value) (W' : World), Ext W W' → (v = .pointer (some ⟨w.heap.size + 1, 0, none⟩)) → _ := hK
          simp only [mkOf, List.map_cons, List.map_nil, Act.put, List.setIfInBounds_toArray, List.set_cons_succ, List.set_cons_zero, Nat.reduceAdd, Nat.zero_add] at hK ⊢
          go_simp
          exact hK _ _ (Ext.refl _) rfl
        | 3, _, ho =>
          obtain rfl := Option.some.inj ho
          intro s W hX hd K hK
          rw [if_pos (wanted_plain rfl)]
          have d16 : (s 1) = .int .i64 (k : Int) := hd 1 (by decide) (by decide)
          have d17 : (s 2) = .pointer (some ⟨w.heap.size + 1, 0, none⟩) := hd 2 (by decide) (by decide)
          clear hd
          replace hK : ∀ (v : Value) (W' : World), Ext W W' → (v = .pointer (some ⟨w.heap.size + 1, k * 16, none⟩)) → _ := hK
          simp only [mkOf, List.map_cons, List.map_nil, Act.put, List.setIfInBounds_toArray, List.set_cons_succ, List.set_cons_zero, Nat.reduceAdd, Nat.zero_add] at hK ⊢
          simp only [d16, d17] at hK ⊢
          go_simp
          exact hK _ _ (Ext.refl _) rfl
        | 4, _, ho =>
          obtain rfl := Option.some.inj ho
          intro s W hX hd K hK
          rw [if_pos (wanted_plain rfl)]
          have d18 : (s 3) = .pointer (some ⟨w.heap.size + 1, k * 16, none⟩) := hd 3 (by decide) (by decide)
          clear hd
          replace hK : ∀ (v : Value) (W' : World), Ext W W' → (v = .agg P1.toArray) → _ := hK
          simp only [mkOf, List.map_cons, List.map_nil, Act.put, List.setIfInBounds_toArray, List.set_cons_succ, List.set_cons_zero, Nat.reduceAdd, Nat.zero_add] at hK ⊢
          simp only [d18] at hK ⊢
          refine wp_load_agg 35 (.tmp 18) rfl _ (by simpa [Act.eval] using d18) P1 _ Try.underlying35 rfl (rpiece_size HP1.out) (HK1.out W hX) ?_
          exact hK _ _ (Ext.refl _) rfl
        | 5, _, ho =>
          obtain rfl := Option.some.inj ho
          intro s W hX hd K hK
          rw [if_pos (wanted_plain rfl)]
          have d15 : (s 0) = .agg TB.toArray := hd 0 (by decide) (by decide)
          have d19 : (s 4) = .agg P1.toArray := hd 4 (by decide) (by decide)
          clear hd
          replace hK : ∀ (v : Value) (W' : World), Ext W W' → (v = .agg CV.toArray) → _ := hK
          simp only [mkOf, List.map_cons, List.map_nil, Act.put, List.setIfInBounds_toArray, List.set_cons_succ, List.set_cons_zero, Nat.reduceAdd, Nat.zero_add] at hK ⊢
          simp only [d15, d19] at hK ⊢
          go_simp
          refine (HCV.out W).mono ?_
          rintro e w' ⟨rfl, hx⟩
          exact hK _ _ hx rfl
        | 6, _, ho =>
          obtain rfl := Option.some.inj ho
          intro s W hX hd K hK
          rw [if_pos (wanted_plain rfl)]
          clear hd
          replace hK : ∀ (v : Value) (W' : World), Ext W W' → (∃ g, v = .pointer (some ⟨g, 0, none⟩) ∧ wr.heap.size ≤ g ∧ Blk W' g 35 Z) → _ := hK
          simp only [mkOf, List.map_cons, List.map_nil, Act.put, List.setIfInBounds_toArray, List.set_cons_succ, List.set_cons_zero, Nat.reduceAdd, Nat.zero_add] at hK ⊢
          refine wp_alloc_agg 35 rfl Z hz ?_
          exact hK _ _ ((Ext.refl _).alloc _) ⟨_, rfl, by have := hX.size; simpa using this, Blk.new _ _ _⟩
        | i + 7, hi, _ => exact absurd hi (by simp)
      · intro o ho
        obtain rfl := Option.some.inj ho
        intro s W hX hd K hK
        rw [if_pos (wanted_plain rfl)]
        have d15 : (s 0) = .agg TB.toArray := hd 0 (by decide)
        have d16 : (s 1) = .int .i64 (k : Int) := hd 1 (by decide)
        have d17 : (s 2) = .pointer (some ⟨w.heap.size + 1, 0, none⟩) := hd 2 (by decide)
        have d18 : (s 3) = .pointer (some ⟨w.heap.size + 1, k * 16, none⟩) := hd 3 (by decide)
        have d19 : (s 4) = .agg P1.toArray := hd 4 (by decide)
        have d20 : (s 5) = .agg CV.toArray := hd 5 (by decide)
        have d9 : ∃ g, (s 6) = .pointer (some ⟨g, 0, none⟩) ∧ wr.heap.size ≤ g ∧ Blk W g 35 Z := hd 6 (by decide)
        clear hd
        simp only [mkOf, List.map_cons, List.map_nil, Act.put, List.setIfInBounds_toArray, List.set_cons_succ, List.set_cons_zero, Nat.reduceAdd, Nat.zero_add]
        obtain ⟨g, hg, hgb, hB⟩ := d9
        rw [hg]
        refine wp_store_row 35 (.tmp 9) (.tmp 20) rfl g rfl Z CV _ (by simpa [Act.eval] using d20) hB (rpiece_size HCL.out) (by rw [HCL.out, HZL.out]) hco ?_
        refine hK _ _ ?_
        have hxr : Ext wr W := (Ext.refl wr).drew.trans hX
        have hV : Ext wr (W.setRow g CV.toArray) := setRow_grown hxr _ _ hgb
        have hgV : Blk (W.setRow g CV.toArray) g 35 CV := setRow_at hB
        have hk2 : Cells (W.setRow g CV.toArray) ⟨w.heap.size + 1, 512 + k * 16, none⟩ P2 := by
          have h2 := ((HB1.out.keep hX (by simp)).keep (setRow_only (g := g) CV.toArray) (by have := HB1.out.lt; simp at this ⊢; omega)).cells
          have h3 := (h2.drop (512 + k * 16)).take 16
          rw [addr_at, HQ2.out] at h3; exact h3
        have hgs : g < W.heap.size := hB.lt
        have hgs2 : g < (W.setRow g CV.toArray).heap.size := hgV.lt
        generalize W.setRow g CV.toArray = V at *
        have hx3 := hV.alloc (.cells P2.toArray 35)
        have hcd := (Blk.keep (w := wr) (t := 22) HB2.out hx3 (by simp)).cells
        have HX2 := Lib.hid hx3
        have HGV := Lib.hid (hgV.keep ((Ext.refl V).alloc (.cells P2.toArray 35)) (by simp))
        have HOV : Hid (Blk (V.alloc (.cells P2.toArray 35)) V.heap.size 35 P2) := Lib.hid (Blk.new _ _ _)
        have HGE : Hid (wr.heap.size ≤ g ∧ wr.heap.size ≤ V.heap.size) := Lib.hid ⟨hgb, by have := hV.size; omega⟩
        clear hK hX hxr hV hgV hgs hx3 hB d15 d16 d17 d18 d19 d20
        (try simp only [Exit.then])
        go_wp2_with (first
          | (refine wpList_load_agg _ rfl 35 (.tmp 23) rfl _ rfl P2 _ Try.underlying35 rfl (rpiece_size HP2.out) hk2 ?_)
          | (refine wpList_alloc _ rfl 35 rfl _ hz ?_)
          | (refine wpList_store_new _ rfl 35 (.tmp 10) (.tmp 24) rfl rfl Z P2 _ rfl (rpiece_size HP2.out) (by rw [HP2.out, HZL.out]) hpo2 ?_)
          | (refine wpList_load_agg _ rfl 22 (.tmp 5) rfl _ rfl DC _ Try.underlying22 rfl (arr_size HDL.out) hcd ?_)
          | fail)
        refine (HBT.out _).mono ?_
        rintro e w3 ⟨rfl, hx4⟩
        have HX3r := Lib.hid (HX2.out.trans hx4)
        have HX3 := Lib.hid (HX.out.trans HX3r.out)
        have HCG := Lib.hid (HGV.out.keep hx4 (by simp)).cells
        have HCO := Lib.hid (HOV.out.keep hx4 (by simp)).cells
        have HLG := Lib.hid (HGV.out.keep hx4 (by simp)).lt
        have HLO := Lib.hid (HOV.out.keep hx4 (by simp)).lt
        have HOU := Lib.hid (HOUr.out.ext HX3r.out)
        have HB30 : Hid (Blk w3 w.heap.size 25 TB) := Lib.hid (Blk.keep (w := wr) HB0.out HX3r.out (by simp))
        have HB31 : Hid (Blk w3 (w.heap.size + 1) 38 C) := Lib.hid (Blk.keep (w := wr) HB1.out HX3r.out (by simp))
        have HB32 : Hid (Blk w3 (w.heap.size + 1 + 1) 22 DC) := Lib.hid (Blk.keep (w := wr) HB2.out HX3r.out (by simp))
        have HB33 : Hid (Blk w3 (w.heap.size + 1 + 1 + 1) 22 D) := Lib.hid (Blk.keep (w := wr) HB3.out HX3r.out (by simp))
        clear hx4 hk2 hcd HX2 HGV HOV HOUr HB0 HB1 HB2 HB3 HX HK1
        generalize V.heap.size = go at *
        by_cases hb0 : b = 0
        · have hbz : ((b : Int) == 0) = true := by subst hb0; rfl
          go_wp2_with (first
            | (at_builtin
               refine wpList_app _ rfl (.tmp 29) (.tmp 30) _ _ rfl 5 5 i0 _ 1 1 Try.underlying55 Try.underlying55 hi hz0 hz1 hz2 rfl (by decide) u7 _ _ rfl HOU.out _ 16 16 CV rfl (by rw [HCL.out]) (fun _ => ⟨_, rfl, HCG.out⟩) hco (by rw [HPL.out]; unfold maxLen; omega) (by rw [HPL.out]; omega) ?_
               intro v8 w8 ho8 hm8
               have HO8 : Hid (Own w8 5 1 v8 ((piecesM (rowS S d) k).length + 16) (bv (piecesM (rowS S d) k) ++ CV)) := Lib.hid ho8
               have HM8 := Lib.hid hm8
               have hs2 : Cells w8 ⟨go, 0, none⟩ P2 := (HCO.out).keep (hm8.grown.block go (HLO.out) (fun e => by have := HLTU.out _ e.symm; have := HGE.out; omega))
               have HS2 := Lib.hid hs2
               clear ho8 hm8 hs2)
            | (at_builtin
               refine wpList_app _ rfl (.tmp 32) (.tmp 33) _ _ rfl 5 5 i0 _ 1 1 Try.underlying55 Try.underlying55 hi hz0 hz1 hz2 rfl (by decide) v8 _ _ rfl HO8.out _ 16 16 P2 rfl (by rw [HP2.out]) (fun _ => ⟨_, rfl, HS2.out⟩) hpo2 (by rw [HPL.out]; unfold maxLen; omega) (by rw [HPL.out]; omega) ?_
               intro v9 w9 ho9 hm9)
            | fail)
          have hm2 := HM8.out.trans hm9
          have hfr : ∀ b, u7.ownBlock = some b → w.heap.size ≤ b := fun b hb => by have := HNE.out b hb; omega
          have hx9 : Ext w w9 := grown_then HX3.out hm2.grown (.inr hfr)
          have hb90 := HB30.out.keep hm2.grown (fun e => by have := HNE.out _ e.symm; omega)
          have hb91 := HB31.out.keep hm2.grown (fun e => by have := HNE.out _ e.symm; omega)
          have hb92 := HB32.out.keep hm2.grown (fun e => by have := HNE.out _ e.symm; omega)
          have hb93 := HB33.out.keep hm2.grown (fun e => by have := HNE.out _ e.symm; omega)
          have hne9 : ∀ b, v9.ownBlock = some b → w.heap.size + 1 + 1 + 1 + 1 ≤ b := fun b hb => by
            rcases hm2.at_ with e | hn
            · exact HNE.out b (e.symm.trans hb)
            · have h1 := hn b hb
              have h2 := HB33.out.lt
              omega
          have ho2 : OwnB w9 v9 (piecesM (rowS S d) (k + 1)) := by
            rw [HROW.out]
            have e3 : ∀ X : List UInt8, X.length = 32 → bv X = CV ++ P2 → OwnB w9 v9 (piecesM (rowS S d) k ++ X) := fun X hXl hX2 => by
              unfold OwnB
              rw [bv_append, hX2, List.length_append, hXl, ← List.append_assoc]
              exact ho9
            exact e3 _ HRLN.out (by rw [HRB.out]; rw [if_pos hb0])
          have HX9 := Lib.hid hx9
          have HB90 := Lib.hid hb90
          have HB91 := Lib.hid hb91
          have HB92 := Lib.hid hb92
          have HB93 := Lib.hid hb93
          have HN9 := Lib.hid hne9
          have HO9 := Lib.hid ho2
          clear hm2 hx9 hb90 hb91 hb92 hb93 hne9 ho2 ho9 hm9
          go_roundw
          case rel => exact ⟨k + 1, by omega, by go_num, HO9.out, HX9.out, HB90.out, HB91.out, HB92.out, HB93.out, HN9.out⟩
          case measure => simp [intOf]; omega
        · have hbz : ((b : Int) == 0) = false := by rw [beq_eq_false_iff_ne]; omega
          go_wp2_with (first
            | (at_builtin
               refine wpList_app _ rfl (.tmp 35) (.tmp 36) _ _ rfl 5 5 i0 _ 1 1 Try.underlying55 Try.underlying55 hi hz0 hz1 hz2 rfl (by decide) u7 _ _ rfl HOU.out _ 16 16 P2 rfl (by rw [HP2.out]) (fun _ => ⟨_, rfl, HCO.out⟩) hpo2 (by rw [HPL.out]; unfold maxLen; omega) (by rw [HPL.out]; omega) ?_
               intro v8 w8 ho8 hm8
               have HO8 : Hid (Own w8 5 1 v8 ((piecesM (rowS S d) k).length + 16) (bv (piecesM (rowS S d) k) ++ P2)) := Lib.hid ho8
               have HM8 := Lib.hid hm8
               have hs2 : Cells w8 ⟨g, 0, none⟩ CV := (HCG.out).keep (hm8.grown.block g (HLG.out) (fun e => by have := HLTU.out _ e.symm; have := HGE.out; omega))
               have HS2 := Lib.hid hs2
               clear ho8 hm8 hs2)
            | (at_builtin
               refine wpList_app _ rfl (.tmp 38) (.tmp 39) _ _ rfl 5 5 i0 _ 1 1 Try.underlying55 Try.underlying55 hi hz0 hz1 hz2 rfl (by decide) v8 _ _ rfl HO8.out _ 16 16 CV rfl (by rw [HCL.out]) (fun _ => ⟨_, rfl, HS2.out⟩) hco (by rw [HPL.out]; unfold maxLen; omega) (by rw [HPL.out]; omega) ?_
               intro v9 w9 ho9 hm9)
            | fail)
          have hm2 := HM8.out.trans hm9
          have hfr : ∀ b, u7.ownBlock = some b → w.heap.size ≤ b := fun b hb => by have := HNE.out b hb; omega
          have hx9 : Ext w w9 := grown_then HX3.out hm2.grown (.inr hfr)
          have hb90 := HB30.out.keep hm2.grown (fun e => by have := HNE.out _ e.symm; omega)
          have hb91 := HB31.out.keep hm2.grown (fun e => by have := HNE.out _ e.symm; omega)
          have hb92 := HB32.out.keep hm2.grown (fun e => by have := HNE.out _ e.symm; omega)
          have hb93 := HB33.out.keep hm2.grown (fun e => by have := HNE.out _ e.symm; omega)
          have hne9 : ∀ b, v9.ownBlock = some b → w.heap.size + 1 + 1 + 1 + 1 ≤ b := fun b hb => by
            rcases hm2.at_ with e | hn
            · exact HNE.out b (e.symm.trans hb)
            · have h1 := hn b hb
              have h2 := HB33.out.lt
              omega
          have ho2 : OwnB w9 v9 (piecesM (rowS S d) (k + 1)) := by
            rw [HROW.out]
            have e3 : ∀ X : List UInt8, X.length = 32 → bv X = P2 ++ CV → OwnB w9 v9 (piecesM (rowS S d) k ++ X) := fun X hXl hX2 => by
              unfold OwnB
              rw [bv_append, hX2, List.length_append, hXl, ← List.append_assoc]
              exact ho9
            exact e3 _ HRLN.out (by rw [HRB.out]; rw [if_neg hb0])
          have HX9 := Lib.hid hx9
          have HB90 := Lib.hid hb90
          have HB91 := Lib.hid hb91
          have HB92 := Lib.hid hb92
          have HB93 := Lib.hid hb93
          have HN9 := Lib.hid hne9
          have HO9 := Lib.hid ho2
          clear hm2 hx9 hb90 hb91 hb92 hb93 hne9 ho2 ho9 hm9
          go_roundw
          case rel => exact ⟨k + 1, by omega, by go_num, HO9.out, HX9.out, HB90.out, HB91.out, HB92.out, HB93.out, HN9.out⟩
          case measure => simp [intOf]; omega
    · obtain rfl : k = 32 := by omega
      obtain ⟨A, c, hv⟩ := OwnB.form hou
      subst hv
      have h1 := hou.holds
      have hlt1 := OwnB.lt hou
      obtain ⟨F, hp9, hF9⟩ := one_part (T := 55) h1 hlt1
      have hct := hb0.cells
      have hf9 := HFOR.out _ _ F hp9 hF9
      have hl32 := HPLA.out 32 (Nat.le_refl _)
      have HF9 := Lib.hid hf9
      have HX := Lib.hid (hx.alloc (.cells #[Value.slice A (piecesM (rowS S d) 32).length c] 55))
      have HB3 := Lib.hid (hb3.keep ((Ext.refl wr).alloc (.cells #[Value.slice A (piecesM (rowS S d) 32).length c] 55)) (by simp))
      clear hx hb0 hb1 hb2 hb3 hou h1 hlt1 hp9 hF9 hf9 hne hl32
      generalize (piecesM (rowS S d) 32).length = n at *
      go_wp2_with (first
        | (refine wpList_load_agg _ rfl 25 (.tmp 3) rfl _ rfl TB _ Try.underlying25 rfl HTS.out hct ?_)
        | fail)
      refine (HF9.out).mono ?_
      rintro e w4 ⟨rfl, hx4⟩
      have hr4 : w4.heap[w.heap.size + 1 + 1 + 1]? = some (.cells D.toArray 22 (0, 0)) := HB3.out.keep hx4 (by simp)
      have hx5 := HX.out.trans hx4
      go_wp2_with (first
        | (refine wpList_store_row _ rfl 22 (.tmp 6) (.tmp 44) rfl (w.heap.size + 1 + 1 + 1) rfl D R _ rfl hr4 (arr_size HRL.out) (by rw [HRL.out, HDL0.out]) hro ?_)
        | fail)
      have hc9 := Blk.cells (t := 22) (setRow_at (cs' := R.toArray) hr4)
      (try simp only [Exit.inBlock, Exit.then])
      refine bodyPost_ret (results_agg rfl _ _ _ _ _ rfl Try.underlying22 rfl (arr_size HRL.out) hc9) rfl ?_
      exact ⟨rfl, setRow_grown hx5 _ _ (by omega)⟩
end
end Go.Proofs.Ytfoomnibfibfnaa

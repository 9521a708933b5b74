/- Walks of the library's Equal at payments, and of the pact's Same. Condition: the payments can be read. -/
import Derived.Test.YtnpolfihbfdggaaPTwin
import Derived.Test.YtnpolfihbfdggaaEqQ
set_option linter.unusedVariables false
set_option linter.unusedSimpArgs false
set_option linter.unnecessarySimpa false
namespace Go.Proofs.Ytnpolfihbfdggaa
open Go.RowKit

theorem eqvL_drop {α : Type} {f : α → α → Bool} (l m : List α) (k : Nat) (h1 : k < l.length) (h2 : k < m.length) : eqvL f (l.drop k) (m.drop k) = (f l[k] m[k] && eqvL f (l.drop (k + 1)) (m.drop (k + 1))) := by
  rw [List.drop_eq_getElem_cons h1, List.drop_eq_getElem_cons h2, eqvL]
theorem conds_drop (cs ds : List Cd) (k : Nat) (h1 : k < List.length (α := Cd) cs) (h2 : k < List.length (α := Cd) ds) : eqvL CondT.eqv (cs.drop k) (ds.drop k) = (CondT.eqv (cs[k] : Cd) (ds[k] : Cd) && eqvL CondT.eqv (cs.drop (k + 1)) (ds.drop (k + 1))) := eqvL_drop (f := CondT.eqv) cs ds k h1 h2
theorem conds_end (cs ds : List Cd) (h : List.length (α := Cd) cs = List.length (α := Cd) ds) : eqvL CondT.eqv (cs.drop (List.length (α := Cd) cs)) (ds.drop (List.length (α := Cd) cs)) = true := by
  have e1 : cs.drop (List.length (α := Cd) cs) = [] := List.drop_length
  have e2 : ds.drop (List.length (α := Cd) cs) = [] := by rw [h]; exact List.drop_length
  have key : ∀ x y : List Cd, x = [] → y = [] → eqvL CondT.eqv x y = true := by rintro _ _ rfl rfl; rfl
  exact key _ _ e1 e2
theorem eqvL_len {α : Type} {f : α → α → Bool} : ∀ (l m : List α), l.length ≠ m.length → eqvL f l m = false
  | [], [], h => absurd rfl h
  | [], _ :: _, _ => rfl
  | _ :: _, [], _ => rfl
  | a :: l, b :: m, h => by rw [eqvL, eqvL_len l m (by simpa using h), Bool.and_false]
def condsEq (cs ds : List Cd) : Bool := eqvL CondT.eqv cs ds
theorem condsEq_iff (cs ds : List Cd) : condsEq cs ds = true ↔ cs = ds := eqvL_iff (Ty.eqv_iff CondT (by decide)) cs ds
set_option maxRecDepth 100000 in
set_option maxHeartbeats 1000000 in
theorem Equal (v u : Value) (cs ds : List Cd) (w : World) (F : Fp) (hc : Conds w F v cs) (hd : Conds w F u ds) (hF : ∀ b, F b → b < w.heap.size) :
    Calls Try.prog 44 #[v, u] w fun e w' => e = .returned (.bool (condsEq cs ds)) ∧ Ext w w' := by
  obtain ⟨A, c, xs, rfl, hlc, hcm, hA, hcell, hall⟩ := conds_open hc
  obtain ⟨B, d, ys, rfl, hld, hdm, hB, hcel2, hal2⟩ := conds_open hd
  clear hc hd
  unfold maxLen at hcm hdm
  have hgt : Try.prog.eqGuardType Try.prog.depth 44 = false := by kernel_rfl
  by_cases hln : List.length (α := Cd) cs = List.length (α := Cd) ds
  · have hb : ((List.length (α := Cd) cs : Int) == (List.length (α := Cd) ds : Int)) = true := by rw [hln]; exact beq_self_eq_true _
    have hb2 : ((List.length (α := Cd) cs : Int) != (List.length (α := Cd) ds : Int)) = false := by rw [hln]; exact bne_self_eq_false _
    have HLN := Lib.hid hln
    obtain ⟨res, hres⟩ : ∃ res, res = condsEq cs ds := ⟨_, rfl⟩
    rw [← hres]
    have HRES := Lib.hid hres
    clear hln hres
    go_enter Try.func44, Try.ntmps44
    go_wp2
    go_loopw [5, 13] (fun p i wr => ∃ k : Nat, k ≤ List.length (α := Cd) cs ∧ i = .int .i64 k ∧ Ext w wr ∧ condsEq cs ds = eqvL CondT.eqv (cs.drop k) (ds.drop k) ∧ ∃ z, p = z) (fun _ i _ => List.length (α := Cd) cs - (intOf i).toNat)
    case atStart => exact ⟨0, by omega, rfl, Ext.refl _, rfl, _, rfl⟩
    case round =>
      obtain ⟨k, hk, rfl, hx, heq, z, rfl⟩ := hrel
      by_cases hlt : k < List.length (α := Cd) cs
      · have hlt2 : k < List.length (α := Cd) ds := by have := HLN.out; omega
        obtain ⟨ad, rfl, hf, hcells⟩ := hcell (by omega)
        obtain ⟨bd, rfl, hf2, hcells2⟩ := hcel2 (by omega)
        obtain ⟨hc1, hok1⟩ := conds_at hall (hcells.keep (hx.same hF _ hf)) hlt
        obtain ⟨hc2, hok2⟩ := conds_at hal2 (hcells2.keep (hx.same hF _ hf2)) hlt2
        have hdr := conds_drop cs ds k hlt hlt2
        rw [hdr] at heq
        generalize hg1 : cs[k] = c1 at *
        generalize hg2 : ds[k] = c2 at *
        have HH1 := Lib.hid ((condT_iff (w := w) (F := F)).2 ⟨rfl, hok1⟩)
        have HH2 := Lib.hid ((condT_iff (w := w) (F := F)).2 ⟨rfl, hok2⟩)
        have HL1 := Lib.hid (condCells_len hok1)
        have HL2 := Lib.hid (condCells_len hok2)
        generalize condCells c1 = C1 at *
        generalize condCells c2 = C2 at *
        have HC1 := Lib.hid hc1
        have HC2 := Lib.hid hc2
        have HX := Lib.hid hx
        have HE := Lib.hid heq
        have k0 : (0 : Int) ≤ (k : Int) := by omega
        have k1 : (k : Int) < (List.length (α := Cd) cs : Int) := by omega
        have k2 : (k : Int) < (List.length (α := Cd) ds : Int) := by omega
        clear hc1 hc2 hx heq hg1 hg2 hdr hcells hcells2
        cases hbq : CondT.eqv c1 c2
        all_goals
          have HEQ := Lib.hid hbq
          rw [hbq] at HE
          clear hbq
        · have hr : res = false := by rw [HRES.out, HE.out]; rfl
          have HR := Lib.hid hr
          clear hr
          go_wp2
          refine startM Since (by kernel_rfl) ?_
          refine takeE 0 rfl (by kernel_rfl) (by kernel_rfl) (by kernel_rfl) rfl (fun _ _ _ _ h => h) rfl (fun K hK => ?_)
          go_big_quiet_op
          first | refine hK _ ?_ | refine ⟨_, fun _ _ => rfl, hK _ ?_⟩
          clear hK K
          refine takeE 1 rfl (by kernel_rfl) (by kernel_rfl) (by kernel_rfl) rfl (fun _ _ _ _ h => h) rfl (fun K hK => ?_)
          go_big_quiet_op
          first | refine hK _ ?_ | refine ⟨_, fun _ _ => rfl, hK _ ?_⟩
          clear hK K
          refine takeE 2 rfl (by kernel_rfl) (by kernel_rfl) (by kernel_rfl) rfl (fun _ _ _ _ h => h) rfl (fun K hK => ?_)
          go_big_quiet_op
          first | refine hK _ ?_ | refine ⟨_, fun _ _ => rfl, hK _ ?_⟩
          clear hK K
          refine takeE 3 rfl (by kernel_rfl) (by kernel_rfl) (by kernel_rfl) rfl (fun _ _ _ _ h => h) rfl (fun K hK => ?_)
          refine quiet_agg 44 (.tmp 18) rfl _ rfl C1 _ Try.underlying44 rfl (cond_size HL1.out) (fun W' h => HC1.out.keep (h.ext.block _ (HC1.out.lt (by intro e; have := HL1.out; rw [e] at this; simp at this)) (by simp))) ?_
          refine hK _ ?_
          simp only [Act.put, List.setIfInBounds_toArray, List.set_cons_succ, List.set_cons_zero]
          clear hK K
          refine takeE 4 rfl (by kernel_rfl) (by kernel_rfl) (by kernel_rfl) rfl (fun _ _ _ _ h => h) rfl (fun K hK => ?_)
          go_big_quiet_op
          first | refine hK _ ?_ | refine ⟨_, fun _ _ => rfl, hK _ ?_⟩
          clear hK K
          refine takeE 5 rfl (by kernel_rfl) (by kernel_rfl) (by kernel_rfl) rfl (fun _ _ _ _ h => h) rfl (fun K hK => ?_)
          go_big_quiet_op
          first | refine hK _ ?_ | refine ⟨_, fun _ _ => rfl, hK _ ?_⟩
          clear hK K
          refine takeE 6 rfl (by kernel_rfl) (by kernel_rfl) (by kernel_rfl) rfl (fun _ _ _ _ h => h) rfl (fun K hK => ?_)
          go_big_quiet_op
          first | refine hK _ ?_ | refine ⟨_, fun _ _ => rfl, hK _ ?_⟩
          clear hK K
          refine takeE 7 rfl (by kernel_rfl) (by kernel_rfl) (by kernel_rfl) rfl (fun _ _ _ _ h => h) rfl (fun K hK => ?_)
          refine quiet_agg 44 (.tmp 22) rfl _ rfl C2 _ Try.underlying44 rfl (cond_size HL2.out) (fun W' h => HC2.out.keep (h.ext.block _ (HC2.out.lt (by intro e; have := HL2.out; rw [e] at this; simp at this)) (by simp))) ?_
          refine hK _ ?_
          simp only [Act.put, List.setIfInBounds_toArray, List.set_cons_succ, List.set_cons_zero]
          clear hK K
          refine takeE 8 rfl (by kernel_rfl) (by kernel_rfl) (by kernel_rfl) rfl (fun _ _ _ _ h => h) rfl (fun K hK => ?_)
          refine quiet_neTy CondT 44 _ (.tmp 19) (.tmp 23) rfl (by kernel_rfl) (by decide) hgt (fun _ => rfl) (W1 := w) (W2 := w) (F1 := F) (F2 := F) C1 C2 c1 c2 rfl rfl HH1.out HH2.out ?_
          rw [HEQ.out]
          refine hK _ ?_
          simp only [Act.put, List.setIfInBounds_toArray, List.set_cons_succ, List.set_cons_zero]
          clear hK K
          refine doneM (by kernel_rfl) ?_ _
          go_wp2
          go_ret
          exact ⟨by rw [HR.out]; rfl, HX.out.drew⟩
        · go_wp2
          refine startM Since (by kernel_rfl) ?_
          refine takeE 0 rfl (by kernel_rfl) (by kernel_rfl) (by kernel_rfl) rfl (fun _ _ _ _ h => h) rfl (fun K hK => ?_)
          go_big_quiet_op
          first | refine hK _ ?_ | refine ⟨_, fun _ _ => rfl, hK _ ?_⟩
          clear hK K
          refine takeE 1 rfl (by kernel_rfl) (by kernel_rfl) (by kernel_rfl) rfl (fun _ _ _ _ h => h) rfl (fun K hK => ?_)
          go_big_quiet_op
          first | refine hK _ ?_ | refine ⟨_, fun _ _ => rfl, hK _ ?_⟩
          clear hK K
          refine takeE 2 rfl (by kernel_rfl) (by kernel_rfl) (by kernel_rfl) rfl (fun _ _ _ _ h => h) rfl (fun K hK => ?_)
          go_big_quiet_op
          first | refine hK _ ?_ | refine ⟨_, fun _ _ => rfl, hK _ ?_⟩
          clear hK K
          refine takeE 3 rfl (by kernel_rfl) (by kernel_rfl) (by kernel_rfl) rfl (fun _ _ _ _ h => h) rfl (fun K hK => ?_)
          refine quiet_agg 44 (.tmp 18) rfl _ rfl C1 _ Try.underlying44 rfl (cond_size HL1.out) (fun W' h => HC1.out.keep (h.ext.block _ (HC1.out.lt (by intro e; have := HL1.out; rw [e] at this; simp at this)) (by simp))) ?_
          refine hK _ ?_
          simp only [Act.put, List.setIfInBounds_toArray, List.set_cons_succ, List.set_cons_zero]
          clear hK K
          refine takeE 4 rfl (by kernel_rfl) (by kernel_rfl) (by kernel_rfl) rfl (fun _ _ _ _ h => h) rfl (fun K hK => ?_)
          go_big_quiet_op
          first | refine hK _ ?_ | refine ⟨_, fun _ _ => rfl, hK _ ?_⟩
          clear hK K
          refine takeE 5 rfl (by kernel_rfl) (by kernel_rfl) (by kernel_rfl) rfl (fun _ _ _ _ h => h) rfl (fun K hK => ?_)
          go_big_quiet_op
          first | refine hK _ ?_ | refine ⟨_, fun _ _ => rfl, hK _ ?_⟩
          clear hK K
          refine takeE 6 rfl (by kernel_rfl) (by kernel_rfl) (by kernel_rfl) rfl (fun _ _ _ _ h => h) rfl (fun K hK => ?_)
          go_big_quiet_op
          first | refine hK _ ?_ | refine ⟨_, fun _ _ => rfl, hK _ ?_⟩
          clear hK K
          refine takeE 7 rfl (by kernel_rfl) (by kernel_rfl) (by kernel_rfl) rfl (fun _ _ _ _ h => h) rfl (fun K hK => ?_)
          refine quiet_agg 44 (.tmp 22) rfl _ rfl C2 _ Try.underlying44 rfl (cond_size HL2.out) (fun W' h => HC2.out.keep (h.ext.block _ (HC2.out.lt (by intro e; have := HL2.out; rw [e] at this; simp at this)) (by simp))) ?_
          refine hK _ ?_
          simp only [Act.put, List.setIfInBounds_toArray, List.set_cons_succ, List.set_cons_zero]
          clear hK K
          refine takeE 8 rfl (by kernel_rfl) (by kernel_rfl) (by kernel_rfl) rfl (fun _ _ _ _ h => h) rfl (fun K hK => ?_)
          refine quiet_neTy CondT 44 _ (.tmp 19) (.tmp 23) rfl (by kernel_rfl) (by decide) hgt (fun _ => rfl) (W1 := w) (W2 := w) (F1 := F) (F2 := F) C1 C2 c1 c2 rfl rfl HH1.out HH2.out ?_
          rw [HEQ.out]
          refine hK _ ?_
          simp only [Act.put, List.setIfInBounds_toArray, List.set_cons_succ, List.set_cons_zero]
          clear hK K
          refine doneM (by kernel_rfl) ?_ _
          go_wp2
          go_roundw
          case rel => exact ⟨k + 1, by omega, by go_num, HX.out.drew, by rw [HE.out, Bool.true_and], _, rfl⟩
          case measure => simp [intOf]; omega
      · obtain rfl : k = List.length (α := Cd) cs := by omega
        have HE := Lib.hid (heq.trans (conds_end cs ds HLN.out))
        clear heq
        go_wp2
        go_ret
        exact ⟨by rw [HRES.out, HE.out]; rfl, hx⟩
  · have hb : ((List.length (α := Cd) cs : Int) == (List.length (α := Cd) ds : Int)) = false := beq_eq_false_iff_ne.2 (by omega)
    have hb2 : ((List.length (α := Cd) cs : Int) != (List.length (α := Cd) ds : Int)) = true := bne_iff_ne.2 (by omega)
    have e : condsEq cs ds = false := eqvL_len cs ds hln
    rw [e]
    clear e hln
    go_enter Try.func44, Try.ntmps44
    go_wp2
    go_ret
    exact ⟨rfl, Ext.refl _⟩
/-- Are two states one? -/
def sameM (s t : St) : Bool := s.chan == t.chan && (s.round == t.round && ((s.m0 == t.m0 && s.m1 == t.m1) && ((s.t0 == t.t0 && s.t1 == t.t1) && condsEq s.cs t.cs)))
theorem sameM_iff (s t : St) : sameM s t = true ↔ s = t := by
  obtain ⟨a, b, c, d, e, f, g⟩ := s
  obtain ⟨a', b', c', d', e', f', g'⟩ := t
  simp only [sameM, Bool.and_eq_true, beq_iff_eq, condsEq_iff, St.mk.injEq]
  constructor
  · rintro ⟨h1, h2, ⟨h3, h4⟩, ⟨h5, h6⟩, h7⟩; exact ⟨h1, h2, h3, h4, h5, h6, h7⟩
  · rintro ⟨h1, h2, h3, h4, h5, h6, h7⟩; exact ⟨h1, h2, ⟨h3, h4⟩, ⟨h5, h6⟩, h7⟩
theorem nat_beq (a b : Nat) : ((a : Int) == (b : Int)) = (a == b) := by
  rw [Bool.eq_iff_iff, beq_iff_eq, beq_iff_eq]; exact Int.ofNat_inj
theorem two_holds {w : World} {F : Fp} {a b : Nat} (ha : a < M64) (hb : b < M64) : (Ty.arr 2 (.nat .u64)).holds w F [.int .u64 (a : Int), .int .u64 (b : Int)] [a, b] := by
  unfold M64 at *
  exact ⟨rfl, [_], _, rfl, ⟨rfl, Go.WalkArith.wf_u64 (by omega)⟩, [_], [], rfl, ⟨rfl, Go.WalkArith.wf_u64 (by omega)⟩, rfl⟩
theorem two_eq {a b c d : Nat} (ha : a < M64) (hb : b < M64) (hc : c < M64) (hd : d < M64) (W : World) : (binOp .eql 24 (.agg #[.int .u64 (a : Int), .int .u64 (b : Int)]) (.agg #[.int .u64 (c : Int), .int .u64 (d : Int)])).run Try.prog W = .ok (.bool (a == c && b == d)) W := by
  have h := run_eqTy (P := Try.prog) (.arr 2 (.nat .u64)) 24 (by kernel_rfl) (by decide) W W W (fun _ => True) (fun _ => True) _ _ _ _ (two_holds ha hb) (two_holds hc hd) (fun _ => rfl)
  rw [h]
  show Result.ok (Value.bool (a == c && (b == d && true))) W = _
  rw [Bool.and_true]
set_option maxRecDepth 100000 in
set_option maxHeartbeats 2000000 in
theorem Same (s t : St) (v u : Value) (w : World) (F : Fp) (hs : StOk s) (ht : StOk t) (hc : Conds w F v s.cs) (hd : Conds w F u t.cs) (hF : ∀ b, F b → b < w.heap.size) :
    Calls Try.prog 28 #[stv s v, stv t u] w fun e w' => e = .returned (.bool (sameM s t)) ∧ Ext w w' := by
  obtain ⟨A, c, xs, rfl, hlc, hcm, hA, hcell, hall⟩ := conds_open hc
  obtain ⟨B, d, ys, rfl, hld, hdm, hB, hcel2, hal2⟩ := conds_open hd
  have hx0 : Ext w ((w.alloc (.cells (stc s (.slice A (List.length (α := Cd) s.cs) c)).toArray 36)).alloc (.cells (stc t (.slice B (List.length (α := Cd) t.cs) d)).toArray 36)) := ((Ext.refl w).alloc _).alloc _
  have heq := Equal (.slice A (List.length (α := Cd) s.cs) c) (.slice B (List.length (α := Cd) t.cs) d) s.cs t.cs _ F (hx0.holds hF hc) (hx0.holds hF hd) (fun b hb => Nat.lt_of_lt_of_le (hF b hb) hx0.size)
  have HEQ := Lib.hid heq
  have HX0 := Lib.hid hx0
  have hgd : Try.prog.eqGuardType Try.prog.depth 24 = false := by kernel_rfl
  have hgq : ∀ (x y : Operand) (a b : Array Value) (W : World), (eqGuard .eql 24 x y (.agg a) (.agg b)).run Try.prog W = .ok () W := fun x y a b W => run_eqGuard W .eql _ x y a b (.inl rfl) hgd
  have hqm := two_eq hs.m0 hs.m1 ht.m0 ht.m1
  have hqt := two_eq hs.t0 hs.t1 ht.t0 ht.t1
  have e : sameM s t = (((s.chan : Int) == (t.chan : Int)) && (((s.round : Int) == (t.round : Int)) && ((s.m0 == t.m0 && s.m1 == t.m1) && ((s.t0 == t.t0 && s.t1 == t.t1) && condsEq s.cs t.cs)))) := by rw [nat_beq, nat_beq]; rfl
  rw [e]
  clear e heq hx0 hcell hcel2 hall hal2 hc hd hgd
  generalize (s.m0 == t.m0 && s.m1 == t.m1) = bm at *
  generalize (s.t0 == t.t0 && s.t1 == t.t1) = bt at *
  cases h1 : ((s.chan : Int) == (t.chan : Int))
  · rw [Bool.false_and]
    go_enter Try.func28, Try.ntmps28
    go_wp2
    go_ret
    exact ⟨rfl, ((Ext.refl w).alloc _).alloc _⟩
  · rw [Bool.true_and]
    cases h2 : ((s.round : Int) == (t.round : Int))
    · rw [Bool.false_and]
      go_enter Try.func28, Try.ntmps28
      go_wp2
      go_ret
      exact ⟨rfl, ((Ext.refl w).alloc _).alloc _⟩
    · rw [Bool.true_and]
      cases bm
      · rw [Bool.false_and]
        go_enter Try.func28, Try.ntmps28
        go_wp2
        go_ret
        exact ⟨rfl, ((Ext.refl w).alloc _).alloc _⟩
      · rw [Bool.true_and]
        cases bt
        · rw [Bool.false_and]
          go_enter Try.func28, Try.ntmps28
          go_wp2
          go_ret
          exact ⟨rfl, ((Ext.refl w).alloc _).alloc _⟩
        · rw [Bool.true_and]
          go_enter Try.func28, Try.ntmps28
          go_wp2_with (go_at_call 44; refine HEQ.out.mono ?_; rintro e w1 ⟨rfl, hx1⟩)
          go_ret
          exact ⟨rfl, HX0.out.trans hx1⟩
end Go.Proofs.Ytnpolfihbfdggaa

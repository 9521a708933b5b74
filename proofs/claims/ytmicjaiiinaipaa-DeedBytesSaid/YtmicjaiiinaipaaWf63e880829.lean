/- Walks and plain laws, put together in build order. Conditions: what each of them names. -/
import Derived.SizedLaws
import Derived.Test.YtmicjaiiinaipaaW9f528b51bc
set_option linter.unusedVariables false
set_option linter.unusedSimpArgs false
set_option linter.unnecessarySimpa false
namespace Go.Proofs.Ytmicjaiiinaipaa
section
open Go.RowKit

theorem own_oneD {w : World} (b : UInt8) : OwnB (w.alloc (.cells #[.int .u8 (b.toNat : Int)] 5)) (.slice (some ⟨w.heap.size, 0, none⟩) 1 1) [b] :=
  ⟨rfl, .inr ⟨w.heap.size, 1, #[.int .u8 (b.toNat : Int)], rfl, Nat.zero_le _, heap_alloc_new w _, Nat.le_refl _, by simp [maxLen], rfl, rfl⟩⟩
theorem OwnTo.holds {w : World} {v : Value} {cs : List Cd} (h : OwnTo w v cs) : Conds w (fun b => v.ownBlock = some b) v cs := by
  obtain ⟨hok, h⟩ := h
  rcases h.2 with ⟨rfl, h0⟩ | ⟨g, cap, cur, rfl, _, hg, hnc, hcm, _, _⟩
  · obtain rfl : cs = [] := List.eq_nil_of_length_eq_zero h0
    exact ⟨none, 0, [], rfl, Nat.le_refl 0, by simp [maxLen], fun _ => rfl, fun h => absurd rfl h, rfl⟩
  · exact ⟨_, cap, _, rfl, hnc, hcm, by simp, fun _ => ⟨_, rfl, rfl, World.ownsRow.cells h rfl⟩, conds_iff.2 ⟨rfl, hok⟩⟩
theorem OwnTo.lt {w : World} {v : Value} {cs : List Cd} (h : OwnTo w v cs) : ∀ b, v.ownBlock = some b → b < w.heap.size := Own.lt'To h.2
theorem szROpD {n : Nat} (h : n = 39) : (Try.prog.info? 32).map (·.size) = some n := by subst h; kernel_rfl
theorem wp_strD {P : Program} {w : World} {o : Oper} {a : Act} {K : Act → World → Prop} {Q : Exit → Act → World → Prop} (src dst : TypeId) (x : Operand) (ho : o.op = .convert src dst x)
    (e : TypeId) (hs : P.underlying src = some (.slice e)) (he : P.underlying e = some (.int .u8)) (hd : P.underlying dst = some .string)
    (A : Option Addr) (c : Nat) (bs : List UInt8) (hx : a.eval x = .slice A bs.length c) (hsrc : Src w A bs.length (bv bs))
    (h : K (a.put o.dst (.string (strOf bs))) w) : o.wp P a w K Q := by
  unfold Oper.wp execOp
  simp only [ho, hx, Sem.run_bind, run_str w src dst e hs he hd A c bs hsrc, Result.andThen_ok, Sem.run_pure]
  exact h
theorem wp_bin2D {P : Program} {w : World} {o : Oper} {a : Act} {K : Act → World → Prop} {Q : Exit → Act → World → Prop} (op : BinOp) (t : TypeId) {t' : TypeId} (x y : Operand) (ho : o.op = .binOp op t x y t') (u v : Value) {r : Value} (hx : a.eval x = u) (hy : a.eval y = v)
    (hg : (eqGuard op t x y u v).run P w = .ok () w) (hb : (binOp op t u v).run P w = .ok r w) (h : K (a.put o.dst r) w) : o.wp P a w K Q := by
  unfold Oper.wp execOp
  simp only [ho, hx, hy, Sem.run_bind, hg, hb, Result.andThen_ok, Sem.run_pure]
  exact h
theorem eqD_selfD (D : List UInt8) (hD : D.length = 32) : (∀ (x y : Operand) (w : World), (eqGuard .eql 52 x y (.agg (bv D).toArray) (.agg (bv D).toArray)).run Try.prog w = .ok () w) ∧ ∀ w, (binOp .eql 52 (.agg (bv D).toArray) (.agg (bv D).toArray)).run Try.prog w = .ok (.bool true) w :=
  ⟨fun x y w => run_eqGuard w .eql 52 x y _ _ (.inl rfl) (by kernel_rfl), fun w => by
    have h := run_eqD w 52 5 32 Try.underlying52 Try.underlying5 (by kernel_rfl) D D hD hD
    rw [h]; simp⟩
set_option maxHeartbeats 1000000 in
theorem DLight (s : St) (A : Option Addr) (n c : Nat) (w : World) (hn : n ≤ 9223372036854775807) : Calls Try.prog 5 #[stv s (.slice A n c)] w fun e w' => e = .returned (.bool (decide (n ≤ 30))) ∧ Ext w w' := by
  have hx0 : Ext w (w.alloc (.cells (stc s (.slice A n c)).toArray 27)) := (Ext.refl w).alloc _
  have hb0 : Blk (w.alloc (.cells (stc s (.slice A n c)).toArray 27)) w.heap.size 27 (stc s (.slice A n c)) := Blk.new _ _ _
  have c6 : (w.alloc (.cells (stc s (.slice A n c)).toArray 27)).cell? ⟨w.heap.size, 6, none⟩ = some (.slice A n c) := hb0.cell 6
  obtain ⟨SC, hSC⟩ : ∃ SC, SC = stc s (.slice A n c) := ⟨_, rfl⟩
  have hst : stv s (.slice A n c) = .agg SC.toArray := by rw [hSC]; rfl
  rw [hst]
  rw [← hSC] at c6 hx0
  have HX0 := Lib.hid hx0
  have HE : Hid (decide ((n : Int) ≤ 30) = decide (n ≤ 30)) := Lib.hid (by rw [decide_eq_decide]; omega)
  clear hx0 hb0 hSC hst
  go_enter Try.func5, Try.ntmps5
  go_wp2
  go_ret
  exact ⟨by rw [← HE.out]; rfl, HX0.out⟩
set_option maxRecDepth 100000 in
set_option maxHeartbeats 8000000 in
theorem DeedBytesLaw (s0 : St) (hw : StWf s0) (u : Value) (o0 : Wish) (hok : CondOk o0.c) (ham : (Lit.int .u64 (o0.am : Int)).wf = true) (hid : (Lit.int .u64 (o0.id : Int)).wf = true) (F : Fp) (w : World) (hc : Conds w F u s0.cs) (hF : ∀ b, F b → b < w.heap.size) :
    Calls Try.prog 3 #[stv s0 u, .agg (wishCells o0).toArray] w fun e w' => e = .returned (.bool true) ∧ Ext w w' := by
  obtain ⟨A, c, xs, rfl, hlc, hcm, -⟩ := conds_open hc
  unfold maxLen at hcm
  have hlight := fun W => DLight s0 A (List.length (α := Cd) s0.cs) c W (by omega)
  have hocl := wishCells_len hok
  have hto := fun (hl : List.length (α := Cd) s0.cs ≤ 1099511627776) W (hx : Ext w W) => To12 s0 _ W F (hx.holds hF hc) (fun b hb => Nat.lt_of_lt_of_le (hF b hb) hx.size) hl
  have hrst := fun (hl : List.length (α := Cd) s0.cs ≤ 1099511627776) W (hx : Ext w W) (vb : Value) (ho : OwnB W vb [5]) => DRState s0 hw _ (fun b => F b ∨ vb.ownBlock = some b) vb [5] W (Ty.keep (t := .sl CondT) (fun _ _ => rfl) (fun _ h => .inl h) (hx.holds hF hc)) (Ty.keep (t := .sl .u8) (fun _ _ => rfl) (fun _ h => .inr h) ho.holds) (fun b hb => hb.elim (fun h => Nat.lt_of_lt_of_le (hF b h) hx.size) (OwnB.lt ho b)) hl (by simp)
  have hrs := fun (hl : List.length (α := Cd) s0.cs ≤ 1000) W (hx : Ext w W) => DRSum s0 hw _ F W (hx.holds hF hc) (fun b hb => Nat.lt_of_lt_of_le (hF b hb) hx.size) hl
  have hop := fun W => Op12 o0 W hok
  have hlo := fun b W ho => LayOpF o0 b 5 W hok ham hid ho
  have hro := fun W vb (ho : OwnB W vb [5]) => ROp o0 vb [5] W _ hok (wf_lt ham) (wf_lt hid) ho.holds ho.lt (by simp)
  have hmk := fun W => Ref_Make W
  have htb : (#[Value.string tabFirst, Value.string tabRounds] : Array Value) = [Value.string tabFirst, Value.string tabRounds].toArray := rfl
  rw [htb] at hmk
  generalize [Value.string tabFirst, Value.string tabRounds] = TB at *
  obtain ⟨SC, hSC⟩ : ∃ SC, SC = stc s0 (.slice A (List.length (α := Cd) s0.cs) c) := ⟨_, rfl⟩
  have hst : stv s0 (.slice A (List.length (α := Cd) s0.cs) c) = .agg SC.toArray := by rw [hSC]; rfl
  have hscl : SC.length = 7 := by rw [hSC]; rfl
  rw [hst] at hlight hrst hrs ⊢
  rw [← hSC] at hto
  generalize wishCells o0 = OC at *
  have hx0 : Ext w ((w.alloc (.cells SC.toArray 27)).alloc (.cells OC.toArray 32)).drew := (((Ext.refl w).alloc _).alloc _).drew
  have hx1 : Ext w ((w.alloc (.cells SC.toArray 27)).alloc (.cells OC.toArray 32)) := ((Ext.refl w).alloc _).alloc _
  have hb2 : Blk ((w.alloc (.cells SC.toArray 27)).alloc (.cells OC.toArray 32)) w.heap.size 27 SC := (Blk.new _ _ _).keep ((Ext.refl _).alloc _) (by simp)
  have hb3 : Blk ((w.alloc (.cells SC.toArray 27)).alloc (.cells OC.toArray 32)) (w.heap.size + 1) 32 OC := Blk.new_at (by simp) _ _
  by_cases hl : List.length (α := Cd) s0.cs ≤ 30
  · rw [decide_eq_true hl] at hlight
    have hto := hto (by omega)
    have hrst := hrst (by omega)
    have hrs := hrs (by omega)
    have hsl : (sumD s0).length = 32 := sha_length _
    have heq := eqD_selfD (sumD s0) hsl
    obtain ⟨SUM, hSUM⟩ : ∃ SUM, SUM = bv (sumD s0) := ⟨_, rfl⟩
    rw [← hSUM] at heq hrs
    obtain ⟨STS, hSTS⟩ : ∃ STS, STS = strOf ([5] ++ stateB s0) := ⟨_, rfl⟩
    obtain ⟨STO, hSTO⟩ : ∃ STO, STO = strOf ([5] ++ opB o0) := ⟨_, rfl⟩
    have HLIGHT := Lib.hid hlight
    have HX0 := Lib.hid hx0
    have HW := Lib.hid hw
    have HLEN := Lib.hid hl
    have HTO := Lib.hid (fun W (hx : Ext ((w.alloc (.cells SC.toArray 27)).alloc (.cells OC.toArray 32)) W) => hto W (hx1.trans hx))
    have HRST := Lib.hid (fun W (hx : Ext ((w.alloc (.cells SC.toArray 27)).alloc (.cells OC.toArray 32)) W) vb ho => (hrst W (hx1.trans hx) vb ho).mono fun e w' ⟨v', h1, h2, h3⟩ => (⟨v', h1, h2, Fresh.ext h3⟩ : ∃ v', e = Ending.returned v' ∧ OwnB w' v' ([5] ++ stateB s0) ∧ Ext W w'))
    have HRS := Lib.hid (fun W (hx : Ext ((w.alloc (.cells SC.toArray 27)).alloc (.cells OC.toArray 32)) W) => hrs W (hx1.trans hx))
    have HOP := Lib.hid hop
    have HLO := Lib.hid hlo
    have HRO := Lib.hid hro
    have HMK := Lib.hid hmk
    have HEQ := Lib.hid heq
    have HSUM := Lib.hid hSUM
    have HSTS := Lib.hid hSTS
    have HSTO := Lib.hid hSTO
    have HSCL := Lib.hid hscl
    have HOCL := Lib.hid hocl
    have HB2 := Lib.hid hb2
    have HB3 := Lib.hid hb3
    clear hlight hx0 hw hl hto hrst hrs hop hlo hro hmk heq hSUM hSTS hSTO hscl hocl hb2 hb3 hsl hc hF hSC hst htb ham hid hok hx1
    go_enter Try.func3, Try.ntmps3
    go_wp2_with (first
      | ((with_reducible refine wpDst 5 rfl ?_); refine wpList_load_agg _ rfl 27 (.tmp 2) rfl _ rfl SC _ Try.underlying27 rfl (szRState HSCL.out) (by exact HB2.out.cells) ?_)
      | fail)
    refine (HLIGHT.out _).mono ?_
    rintro e w1 ⟨rfl, hx1⟩
    go_wp2_with fail
    have HXA := Lib.hid hx1
    have hxd : Ext ((w.alloc (.cells SC.toArray 27)).alloc (.cells OC.toArray 32)) w1.drew := hx1.drew
    have HX2 : Hid (Ext w w1.drew) := Lib.hid ((((Ext.refl w).alloc _).alloc _).trans hxd)
    have HTO2 := Lib.hid (fun W (hx : Ext w1.drew W) => HTO.out W (hxd.trans hx))
    have HRST2 := Lib.hid (fun W (hx : Ext w1.drew W) => HRST.out W (hxd.trans hx))
    have HRS2 := Lib.hid (fun W (hx : Ext w1.drew W) => HRS.out W (hxd.trans hx))
    have HB2b := Lib.hid (HB2.out.keep hxd (by simp))
    have HB3b := Lib.hid (HB3.out.keep hxd (by simp))
    clear hxd hx1 HXA HTO HRST HRS HB2 HB3 HX0 HLIGHT
    (try simp only [World.size_alloc])
    refine stab_plain Ext ext_refl ext_trans [[0], [0, 1], [0, 1, 2], [0, 1, 3], [0, 1, 3, 4], [0, 1, 2, 3, 4, 5], [0, 1, 2, 3, 4, 5, 6], [0, 1, 7], [0, 1, 8], [0, 1, 2, 3, 4, 5, 7, 8, 9], [0, 1, 2, 3, 4, 5, 7, 8, 9, 10], [0, 1, 2, 3, 4, 5, 6, 7, 8, 9, 10, 11], [0, 1, 2, 3, 4, 5, 6, 7, 8, 9, 10, 11, 12], [0, 1, 2, 3, 4, 5, 6, 7, 8, 9, 10, 11, 12, 13], [0, 1, 2, 3, 4, 5, 6, 7, 8, 9, 10, 11, 12, 13, 14], [0, 1, 2, 3, 4, 5, 6, 7, 8, 9, 10, 11, 12, 13, 15], [0, 1, 2, 3, 4, 5, 6, 7, 8, 9, 10, 11, 12, 13, 15, 16], [0, 1, 2, 3, 4, 5, 6, 7, 8, 9, 10, 11, 12, 13, 14, 15, 16, 17], [0, 1, 2, 3, 4, 5, 6, 7, 8, 9, 10, 11, 12, 13, 14, 15, 16, 17, 18], [0, 1, 2, 3, 4, 5, 6, 7, 8, 9, 10, 11, 12, 13, 19], [0, 1, 2, 3, 4, 5, 6, 7, 8, 9, 10, 11, 12, 13, 20], [0, 1, 2, 3, 4, 5, 6, 7, 8, 9, 10, 11, 12, 13, 14, 15, 16, 17, 19, 20, 21], [0, 1, 2, 3, 4, 5, 6, 7, 8, 9, 10, 11, 12, 13, 14, 15, 16, 17, 19, 20, 21, 22], [0, 1, 2, 3, 4, 5, 6, 7, 8, 9, 10, 11, 12, 13, 14, 15, 16, 17, 18, 19, 20, 21, 22, 23], [0, 1, 2, 3, 4, 5, 6, 7, 8, 9, 10, 11, 12, 13, 14, 15, 16, 17, 18, 19, 20, 21, 22, 23, 24], [0, 1, 2, 3, 4, 5, 6, 7, 8, 9, 10, 11, 12, 13, 14, 15, 16, 17, 18, 19, 20, 21, 22, 23, 24, 25], [0, 1, 2, 3, 4, 5, 6, 7, 8, 9, 10, 11, 12, 13, 14, 15, 16, 17, 18, 19, 20, 21, 22, 23, 24, 25, 26], [0, 1, 2, 3, 4, 5, 6, 7, 8, 9, 10, 11, 12, 13, 14, 15, 16, 17, 18, 19, 20, 21, 22, 23, 24, 25, 26, 27], [0, 1, 2, 3, 4, 5, 6, 7, 8, 9, 10, 11, 12, 13, 14, 15, 16, 17, 18, 19, 20, 21, 22, 23, 24, 25, 26, 27, 28], [0, 1, 2, 3, 4, 5, 6, 7, 8, 9, 10, 11, 12, 13, 14, 15, 16, 17, 18, 19, 20, 21, 22, 23, 24, 25, 26, 27, 28, 29], [0, 1, 2, 3, 4, 5, 6, 7, 8, 9, 10, 11, 12, 13, 14, 15, 16, 17, 18, 19, 20, 21, 22, 23, 24, 25, 30], [0, 1, 2, 3, 4, 5, 6, 7, 8, 9, 10, 11, 12, 13, 14, 15, 16, 17, 18, 19, 20, 21, 22, 23, 24, 25, 26, 27, 28, 29, 30, 31], [0, 1, 2, 3, 4, 5, 6, 7, 8, 9, 10, 11, 12, 13, 14, 15, 16, 17, 18, 19, 20, 21, 22, 23, 24, 25, 26, 27, 28, 29, 30, 31, 32], [0, 1, 2, 3, 4, 5, 6, 7, 8, 9, 10, 11, 12, 13, 14, 15, 16, 17, 18, 19, 20, 21, 22, 23, 24, 25, 26, 27, 28, 29, 30, 31, 32, 33], [0, 1, 2, 3, 4, 5, 6, 7, 8, 9, 10, 11, 12, 13, 14, 15, 16, 17, 18, 19, 20, 21, 22, 23, 24, 25, 26, 27, 28, 29, 30, 31, 32, 33, 34]] (fun i v wv => match i with | 0 => v = .bool true | 1 => v = .bool true | 2 => ∃ b, v = .slice (some b) 1 1 ∧ OwnB wv (.slice (some b) 1 1) [5] | 3 => v = .agg SC.toArray | 4 => ∃ u', v = stv s0 u' ∧ OwnTo wv u' s0.cs | 5 => OwnB wv v ([5] ++ stateB s0) | 6 => v = .string STS | 7 => OwnB wv v [5] | 8 => v = .agg SC.toArray | 9 => OwnB wv v ([5] ++ stateB s0) | 10 => v = .string STS | 11 => v = .bool true | 12 => v = .bool true | 13 => v = .bool true | 14 => ∃ b, v = .slice (some b) 1 1 ∧ OwnB wv (.slice (some b) 1 1) [5] | 15 => v = .agg OC.toArray | 16 => v = .agg OC.toArray | 17 => OwnB wv v ([5] ++ opB o0) | 18 => v = .string STO | 19 => OwnB wv v [5] | 20 => v = .agg OC.toArray | 21 => OwnB wv v ([5] ++ opB o0) | 22 => v = .string STO | 23 => v = .bool true | 24 => v = .bool true | 25 => v = .bool true | 26 => v = .agg SC.toArray | 27 => ∃ u', v = stv s0 u' ∧ OwnTo wv u' s0.cs | 28 => v = .agg SUM.toArray | 29 => v = .agg TB.toArray | 30 => v = .agg SC.toArray | 31 => v = .agg SUM.toArray | 32 => v = .bool true | 33 => v = .bool true | 34 => v = .bool true | _ => True) (by kernel_rfl) (by kernel_rfl) (by kernel_rfl) ?_ ?_ ?_
    · intro i v w1 w2 h hx
      match i, h with
      | 0, h => exact h
      | 1, h => exact h
      | 2, h =>
        replace h : ∃ b, v = .slice (some b) 1 1 ∧ OwnB w1 (.slice (some b) 1 1) [5] := h
        show ∃ b, v = .slice (some b) 1 1 ∧ OwnB w2 (.slice (some b) 1 1) [5]
        obtain ⟨b, h1, h2⟩ := h
        exact ⟨b, h1, h2.ext hx⟩
      | 3, h => exact h
      | 4, h =>
        replace h : ∃ u', v = stv s0 u' ∧ OwnTo w1 u' s0.cs := h
        show ∃ u', v = stv s0 u' ∧ OwnTo w2 u' s0.cs
        obtain ⟨u', h1, h2⟩ := h
        exact ⟨u', h1, h2.1, h2.2.ext hx⟩
      | 5, h =>
        replace h : OwnB w1 v ([5] ++ stateB s0) := h
        show OwnB w2 v ([5] ++ stateB s0)
        exact h.ext hx
      | 6, h => exact h
      | 7, h =>
        replace h : OwnB w1 v [5] := h
        show OwnB w2 v [5]
        exact h.ext hx
      | 8, h => exact h
      | 9, h =>
        replace h : OwnB w1 v ([5] ++ stateB s0) := h
        show OwnB w2 v ([5] ++ stateB s0)
        exact h.ext hx
      | 10, h => exact h
      | 11, h => exact h
      | 12, h => exact h
      | 13, h => exact h
      | 14, h =>
        replace h : ∃ b, v = .slice (some b) 1 1 ∧ OwnB w1 (.slice (some b) 1 1) [5] := h
        show ∃ b, v = .slice (some b) 1 1 ∧ OwnB w2 (.slice (some b) 1 1) [5]
        obtain ⟨b, h1, h2⟩ := h
        exact ⟨b, h1, h2.ext hx⟩
      | 15, h => exact h
      | 16, h => exact h
      | 17, h =>
        replace h : OwnB w1 v ([5] ++ opB o0) := h
        show OwnB w2 v ([5] ++ opB o0)
        exact h.ext hx
      | 18, h => exact h
      | 19, h =>
        replace h : OwnB w1 v [5] := h
        show OwnB w2 v [5]
        exact h.ext hx
      | 20, h => exact h
      | 21, h =>
        replace h : OwnB w1 v ([5] ++ opB o0) := h
        show OwnB w2 v ([5] ++ opB o0)
        exact h.ext hx
      | 22, h => exact h
      | 23, h => exact h
      | 24, h => exact h
      | 25, h => exact h
      | 26, h => exact h
      | 27, h =>
        replace h : ∃ u', v = stv s0 u' ∧ OwnTo w1 u' s0.cs := h
        show ∃ u', v = stv s0 u' ∧ OwnTo w2 u' s0.cs
        obtain ⟨u', h1, h2⟩ := h
        exact ⟨u', h1, h2.1, h2.2.ext hx⟩
      | 28, h => exact h
      | 29, h => exact h
      | 30, h => exact h
      | 31, h => exact h
      | 32, h => exact h
      | 33, h => exact h
      | 34, h => exact h
      | i + 35, h => trivial
    · intro i hi o ho
      match i, hi, ho with
      | 0, _, ho =>
        obtain rfl := Option.some.inj ho
        intro s W hX hd K hK
        rw [if_pos (wanted_plain rfl)]
        clear hd
        replace hK : ∀ (v : Value) (W' : World), Ext W W' → (v = .bool true) → _ := hK
        simp only [mkOf, List.map_cons, List.map_nil, Act.put, List.setIfInBounds_toArray, List.set_cons_succ, List.set_cons_zero, Nat.reduceAdd, Nat.zero_add] at hK ⊢
        go_simp
        refine (DAwake _).mono ?_
        rintro e w' ⟨rfl, hx⟩
        exact hK _ _ hx rfl
      | 1, _, ho =>
        obtain rfl := Option.some.inj ho
        intro s W hX hd K hK
        rw [if_pos (wanted_plain rfl)]
        have d9 : (s 0) = .bool true := hd 0 (by decide) (by decide)
        clear hd
        replace hK : ∀ (v : Value) (W' : World), Ext W W' → (v = .bool true) → _ := hK
        simp only [mkOf, List.map_cons, List.map_nil, Act.put, List.setIfInBounds_toArray, List.set_cons_succ, List.set_cons_zero, Nat.reduceAdd, Nat.zero_add] at hK ⊢
        simp only [d9] at hK ⊢
        go_simp
        exact hK _ _ (Ext.refl _) rfl
      | 2, _, ho =>
        obtain rfl := Option.some.inj ho
        intro s W hX hd K hK
        have d10 : (s 1) = .bool true := hd 1 (by decide) (by decide)
        clear hd
        replace hK : ∀ (v : Value) (W' : World), Ext W W' → (∃ b, v = .slice (some b) 1 1 ∧ OwnB W' (.slice (some b) 1 1) [5]) → _ := hK
        simp only [mkOf, List.map_cons, List.map_nil, Act.put, List.setIfInBounds_toArray, List.set_cons_succ, List.set_cons_zero, Nat.reduceAdd, Nat.zero_add] at hK ⊢
        simp only [d10] at hK ⊢
        rw [if_pos (by kernel_rfl)]
        go_simp
        exact hK _ _ ((Ext.refl _).alloc _) ⟨_, rfl, own_oneD 5⟩
      | 3, _, ho =>
        obtain rfl := Option.some.inj ho
        intro s W hX hd K hK
        have d10 : (s 1) = .bool true := hd 1 (by decide) (by decide)
        clear hd
        replace hK : ∀ (v : Value) (W' : World), Ext W W' → (v = .agg SC.toArray) → _ := hK
        simp only [mkOf, List.map_cons, List.map_nil, Act.put, List.setIfInBounds_toArray, List.set_cons_succ, List.set_cons_zero, Nat.reduceAdd, Nat.zero_add] at hK ⊢
        simp only [d10] at hK ⊢
        rw [if_pos (by kernel_rfl)]
        refine wp_load_aggD 27 (.tmp 2) rfl _ rfl SC _ Try.underlying27 rfl (szRState HSCL.out) (HB2b.out.keep hX (by simp)).cells ?_
        exact hK _ _ (Ext.refl _) rfl
      | 4, _, ho =>
        obtain rfl := Option.some.inj ho
        intro s W hX hd K hK
        have d10 : (s 1) = .bool true := hd 1 (by decide) (by decide)
        have d12 : (s 3) = .agg SC.toArray := hd 3 (by decide) (by decide)
        clear hd
        replace hK : ∀ (v : Value) (W' : World), Ext W W' → (∃ u', v = stv s0 u' ∧ OwnTo W' u' s0.cs) → _ := hK
        simp only [mkOf, List.map_cons, List.map_nil, Act.put, List.setIfInBounds_toArray, List.set_cons_succ, List.set_cons_zero, Nat.reduceAdd, Nat.zero_add] at hK ⊢
        simp only [d10, d12] at hK ⊢
        rw [if_pos (by kernel_rfl)]
        go_simp
        refine (HTO2.out W hX).mono ?_
        rintro e w' ⟨u', rfl, ho, hx, _⟩
        exact hK _ _ hx ⟨u', rfl, ho⟩
      | 5, _, ho =>
        obtain rfl := Option.some.inj ho
        intro s W hX hd K hK
        have d10 : (s 1) = .bool true := hd 1 (by decide) (by decide)
        have d11 : ∃ b, (s 2) = .slice (some b) 1 1 ∧ OwnB W (.slice (some b) 1 1) [5] := hd 2 (by decide) (by decide)
        have d13 : ∃ u', (s 4) = stv s0 u' ∧ OwnTo W u' s0.cs := hd 4 (by decide) (by decide)
        clear hd
        replace hK : ∀ (v : Value) (W' : World), Ext W W' → (OwnB W' v ([5] ++ stateB s0)) → _ := hK
        simp only [mkOf, List.map_cons, List.map_nil, Act.put, List.setIfInBounds_toArray, List.set_cons_succ, List.set_cons_zero, Nat.reduceAdd, Nat.zero_add] at hK ⊢
        simp only [d10] at hK ⊢
        rw [if_pos (by kernel_rfl)]
        obtain ⟨b, hb, ho⟩ := d11
        obtain ⟨u', hu, ho2⟩ := d13
        simp only [hb, hu] at hK ⊢
        go_simp
        refine (DLayF s0 HW.out u' _ b 5 W ho2.holds ho2.lt ho (by have := HLEN.out; omega)).mono ?_
        rintro e w' ⟨v', rfl, ho', hf⟩
        exact hK _ _ (Fresh.ext hf) ho'
      | 6, _, ho =>
        obtain rfl := Option.some.inj ho
        intro s W hX hd K hK
        have d10 : (s 1) = .bool true := hd 1 (by decide) (by decide)
        have d14 : OwnB W (s 5) ([5] ++ stateB s0) := hd 5 (by decide) (by decide)
        clear hd
        replace hK : ∀ (v : Value) (W' : World), Ext W W' → (v = .string STS) → _ := hK
        simp only [mkOf, List.map_cons, List.map_nil, Act.put, List.setIfInBounds_toArray, List.set_cons_succ, List.set_cons_zero, Nat.reduceAdd, Nat.zero_add] at hK ⊢
        simp only [d10] at hK ⊢
        rw [if_pos (by kernel_rfl)]
        obtain ⟨A, c, e⟩ := d14.form
        rw [e] at d14
        simp only [e] at hK ⊢
        refine wp_strD 36 9 (.tmp 14) rfl 5 Try.underlying36 Try.underlying5 Try.underlying9 A c ([5] ++ stateB s0) (by simp [Act.eval]) (OwnB.src d14) ?_
        exact hK _ _ (Ext.refl _) (by rw [HSTS.out])
      | 7, _, ho =>
        obtain rfl := Option.some.inj ho
        intro s W hX hd K hK
        have d10 : (s 1) = .bool true := hd 1 (by decide) (by decide)
        clear hd
        replace hK : ∀ (v : Value) (W' : World), Ext W W' → (OwnB W' v [5]) → _ := hK
        simp only [mkOf, List.map_cons, List.map_nil, Act.put, List.setIfInBounds_toArray, List.set_cons_succ, List.set_cons_zero, Nat.reduceAdd, Nat.zero_add] at hK ⊢
        simp only [d10] at hK ⊢
        rw [if_pos (by kernel_rfl)]
        go_simp
        exact hK _ _ ((Ext.refl _).alloc _) (own_oneD 5)
      | 8, _, ho =>
        obtain rfl := Option.some.inj ho
        intro s W hX hd K hK
        have d10 : (s 1) = .bool true := hd 1 (by decide) (by decide)
        clear hd
        replace hK : ∀ (v : Value) (W' : World), Ext W W' → (v = .agg SC.toArray) → _ := hK
        simp only [mkOf, List.map_cons, List.map_nil, Act.put, List.setIfInBounds_toArray, List.set_cons_succ, List.set_cons_zero, Nat.reduceAdd, Nat.zero_add] at hK ⊢
        simp only [d10] at hK ⊢
        rw [if_pos (by kernel_rfl)]
        refine wp_load_aggD 27 (.tmp 2) rfl _ rfl SC _ Try.underlying27 rfl (szRState HSCL.out) (HB2b.out.keep hX (by simp)).cells ?_
        exact hK _ _ (Ext.refl _) rfl
      | 9, _, ho =>
        obtain rfl := Option.some.inj ho
        intro s W hX hd K hK
        have d10 : (s 1) = .bool true := hd 1 (by decide) (by decide)
        have d16 : OwnB W (s 7) [5] := hd 7 (by decide) (by decide)
        have d17 : (s 8) = .agg SC.toArray := hd 8 (by decide) (by decide)
        clear hd
        replace hK : ∀ (v : Value) (W' : World), Ext W W' → (OwnB W' v ([5] ++ stateB s0)) → _ := hK
        simp only [mkOf, List.map_cons, List.map_nil, Act.put, List.setIfInBounds_toArray, List.set_cons_succ, List.set_cons_zero, Nat.reduceAdd, Nat.zero_add] at hK ⊢
        simp only [d10, d17] at hK ⊢
        rw [if_pos (by kernel_rfl)]
        obtain ⟨A, c, e⟩ := d16.form
        rw [e] at d16
        simp only [e] at hK ⊢
        go_simp
        refine (HRST2.out W hX _ d16).mono ?_
        rintro e w' ⟨v', rfl, ho', hx⟩
        exact hK _ _ hx ho'
      | 10, _, ho =>
        obtain rfl := Option.some.inj ho
        intro s W hX hd K hK
        have d10 : (s 1) = .bool true := hd 1 (by decide) (by decide)
        have d18 : OwnB W (s 9) ([5] ++ stateB s0) := hd 9 (by decide) (by decide)
        clear hd
        replace hK : ∀ (v : Value) (W' : World), Ext W W' → (v = .string STS) → _ := hK
        simp only [mkOf, List.map_cons, List.map_nil, Act.put, List.setIfInBounds_toArray, List.set_cons_succ, List.set_cons_zero, Nat.reduceAdd, Nat.zero_add] at hK ⊢
        simp only [d10] at hK ⊢
        rw [if_pos (by kernel_rfl)]
        obtain ⟨A, c, e⟩ := d18.form
        rw [e] at d18
        simp only [e] at hK ⊢
        refine wp_strD 35 9 (.tmp 18) rfl 5 Try.underlying35 Try.underlying5 Try.underlying9 A c ([5] ++ stateB s0) (by simp [Act.eval]) (OwnB.src d18) ?_
        exact hK _ _ (Ext.refl _) (by rw [HSTS.out])
      | 11, _, ho =>
        obtain rfl := Option.some.inj ho
        intro s W hX hd K hK
        have d10 : (s 1) = .bool true := hd 1 (by decide) (by decide)
        have d15 : (s 6) = .string STS := hd 6 (by decide) (by decide)
        have d19 : (s 10) = .string STS := hd 10 (by decide) (by decide)
        clear hd
        replace hK : ∀ (v : Value) (W' : World), Ext W W' → (v = .bool true) → _ := hK
        simp only [mkOf, List.map_cons, List.map_nil, Act.put, List.setIfInBounds_toArray, List.set_cons_succ, List.set_cons_zero, Nat.reduceAdd, Nat.zero_add] at hK ⊢
        simp only [d10, d15, d19] at hK ⊢
        rw [if_pos (by kernel_rfl)]
        go_simp
        exact hK _ _ (Ext.refl _) (by simp)
      | 12, _, ho =>
        obtain rfl := Option.some.inj ho
        intro s W hX hd K hK
        rw [if_pos (wanted_plain rfl)]
        have d10 : (s 1) = .bool true := hd 1 (by decide) (by decide)
        have d20 : (s 11) = .bool true := hd 11 (by decide) (by decide)
        clear hd
        replace hK : ∀ (v : Value) (W' : World), Ext W W' → (v = .bool true) → _ := hK
        simp only [mkOf, List.map_cons, List.map_nil, Act.put, List.setIfInBounds_toArray, List.set_cons_succ, List.set_cons_zero, Nat.reduceAdd, Nat.zero_add] at hK ⊢
        simp only [d10, d20] at hK ⊢
        go_simp
        exact hK _ _ (Ext.refl _) rfl
      | 13, _, ho =>
        obtain rfl := Option.some.inj ho
        intro s W hX hd K hK
        rw [if_pos (wanted_plain rfl)]
        have d21 : (s 12) = .bool true := hd 12 (by decide) (by decide)
        clear hd
        replace hK : ∀ (v : Value) (W' : World), Ext W W' → (v = .bool true) → _ := hK
        simp only [mkOf, List.map_cons, List.map_nil, Act.put, List.setIfInBounds_toArray, List.set_cons_succ, List.set_cons_zero, Nat.reduceAdd, Nat.zero_add] at hK ⊢
        simp only [d21] at hK ⊢
        go_simp
        exact hK _ _ (Ext.refl _) rfl
      | 14, _, ho =>
        obtain rfl := Option.some.inj ho
        intro s W hX hd K hK
        have d22 : (s 13) = .bool true := hd 13 (by decide) (by decide)
        clear hd
        replace hK : ∀ (v : Value) (W' : World), Ext W W' → (∃ b, v = .slice (some b) 1 1 ∧ OwnB W' (.slice (some b) 1 1) [5]) → _ := hK
        simp only [mkOf, List.map_cons, List.map_nil, Act.put, List.setIfInBounds_toArray, List.set_cons_succ, List.set_cons_zero, Nat.reduceAdd, Nat.zero_add] at hK ⊢
        simp only [d22] at hK ⊢
        rw [if_pos (by kernel_rfl)]
        go_simp
        exact hK _ _ ((Ext.refl _).alloc _) ⟨_, rfl, own_oneD 5⟩
      | 15, _, ho =>
        obtain rfl := Option.some.inj ho
        intro s W hX hd K hK
        have d22 : (s 13) = .bool true := hd 13 (by decide) (by decide)
        clear hd
        replace hK : ∀ (v : Value) (W' : World), Ext W W' → (v = .agg OC.toArray) → _ := hK
        simp only [mkOf, List.map_cons, List.map_nil, Act.put, List.setIfInBounds_toArray, List.set_cons_succ, List.set_cons_zero, Nat.reduceAdd, Nat.zero_add] at hK ⊢
        simp only [d22] at hK ⊢
        rw [if_pos (by kernel_rfl)]
        refine wp_load_aggD 32 (.tmp 3) rfl _ rfl OC _ Try.underlying32 rfl (szROpD HOCL.out) (HB3b.out.keep hX (by simp)).cells ?_
        exact hK _ _ (Ext.refl _) rfl
      | 16, _, ho =>
        obtain rfl := Option.some.inj ho
        intro s W hX hd K hK
        have d22 : (s 13) = .bool true := hd 13 (by decide) (by decide)
        have d24 : (s 15) = .agg OC.toArray := hd 15 (by decide) (by decide)
        clear hd
        replace hK : ∀ (v : Value) (W' : World), Ext W W' → (v = .agg OC.toArray) → _ := hK
        simp only [mkOf, List.map_cons, List.map_nil, Act.put, List.setIfInBounds_toArray, List.set_cons_succ, List.set_cons_zero, Nat.reduceAdd, Nat.zero_add] at hK ⊢
        simp only [d22, d24] at hK ⊢
        rw [if_pos (by kernel_rfl)]
        go_simp
        refine (HOP.out _).mono ?_
        rintro e w' ⟨rfl, hx⟩
        exact hK _ _ hx rfl
      | 17, _, ho =>
        obtain rfl := Option.some.inj ho
        intro s W hX hd K hK
        have d22 : (s 13) = .bool true := hd 13 (by decide) (by decide)
        have d23 : ∃ b, (s 14) = .slice (some b) 1 1 ∧ OwnB W (.slice (some b) 1 1) [5] := hd 14 (by decide) (by decide)
        have d25 : (s 16) = .agg OC.toArray := hd 16 (by decide) (by decide)
        clear hd
        replace hK : ∀ (v : Value) (W' : World), Ext W W' → (OwnB W' v ([5] ++ opB o0)) → _ := hK
        simp only [mkOf, List.map_cons, List.map_nil, Act.put, List.setIfInBounds_toArray, List.set_cons_succ, List.set_cons_zero, Nat.reduceAdd, Nat.zero_add] at hK ⊢
        simp only [d22, d25] at hK ⊢
        rw [if_pos (by kernel_rfl)]
        obtain ⟨b, hb, ho⟩ := d23
        simp only [hb] at hK ⊢
        go_simp
        refine (HLO.out b W ho).mono ?_
        rintro e w' ⟨v', rfl, ho', hf⟩
        exact hK _ _ (Fresh.ext hf) ho'
      | 18, _, ho =>
        obtain rfl := Option.some.inj ho
        intro s W hX hd K hK
        have d22 : (s 13) = .bool true := hd 13 (by decide) (by decide)
        have d26 : OwnB W (s 17) ([5] ++ opB o0) := hd 17 (by decide) (by decide)
        clear hd
        replace hK : ∀ (v : Value) (W' : World), Ext W W' → (v = .string STO) → _ := hK
        simp only [mkOf, List.map_cons, List.map_nil, Act.put, List.setIfInBounds_toArray, List.set_cons_succ, List.set_cons_zero, Nat.reduceAdd, Nat.zero_add] at hK ⊢
        simp only [d22] at hK ⊢
        rw [if_pos (by kernel_rfl)]
        obtain ⟨A, c, e⟩ := d26.form
        rw [e] at d26
        simp only [e] at hK ⊢
        refine wp_strD 36 9 (.tmp 26) rfl 5 Try.underlying36 Try.underlying5 Try.underlying9 A c ([5] ++ opB o0) (by simp [Act.eval]) (OwnB.src d26) ?_
        exact hK _ _ (Ext.refl _) (by rw [HSTO.out])
      | 19, _, ho =>
        obtain rfl := Option.some.inj ho
        intro s W hX hd K hK
        have d22 : (s 13) = .bool true := hd 13 (by decide) (by decide)
        clear hd
        replace hK : ∀ (v : Value) (W' : World), Ext W W' → (OwnB W' v [5]) → _ := hK
        simp only [mkOf, List.map_cons, List.map_nil, Act.put, List.setIfInBounds_toArray, List.set_cons_succ, List.set_cons_zero, Nat.reduceAdd, Nat.zero_add] at hK ⊢
        simp only [d22] at hK ⊢
        rw [if_pos (by kernel_rfl)]
        go_simp
        exact hK _ _ ((Ext.refl _).alloc _) (own_oneD 5)
      | 20, _, ho =>
        obtain rfl := Option.some.inj ho
        intro s W hX hd K hK
        have d22 : (s 13) = .bool true := hd 13 (by decide) (by decide)
        clear hd
        replace hK : ∀ (v : Value) (W' : World), Ext W W' → (v = .agg OC.toArray) → _ := hK
        simp only [mkOf, List.map_cons, List.map_nil, Act.put, List.setIfInBounds_toArray, List.set_cons_succ, List.set_cons_zero, Nat.reduceAdd, Nat.zero_add] at hK ⊢
        simp only [d22] at hK ⊢
        rw [if_pos (by kernel_rfl)]
        refine wp_load_aggD 32 (.tmp 3) rfl _ rfl OC _ Try.underlying32 rfl (szROpD HOCL.out) (HB3b.out.keep hX (by simp)).cells ?_
        exact hK _ _ (Ext.refl _) rfl
      | 21, _, ho =>
        obtain rfl := Option.some.inj ho
        intro s W hX hd K hK
        have d22 : (s 13) = .bool true := hd 13 (by decide) (by decide)
        have d28 : OwnB W (s 19) [5] := hd 19 (by decide) (by decide)
        have d29 : (s 20) = .agg OC.toArray := hd 20 (by decide) (by decide)
        clear hd
        replace hK : ∀ (v : Value) (W' : World), Ext W W' → (OwnB W' v ([5] ++ opB o0)) → _ := hK
        simp only [mkOf, List.map_cons, List.map_nil, Act.put, List.setIfInBounds_toArray, List.set_cons_succ, List.set_cons_zero, Nat.reduceAdd, Nat.zero_add] at hK ⊢
        simp only [d22, d29] at hK ⊢
        rw [if_pos (by kernel_rfl)]
        obtain ⟨A, c, e⟩ := d28.form
        rw [e] at d28
        simp only [e] at hK ⊢
        go_simp
        refine (HRO.out W _ d28).mono ?_
        rintro e w' ⟨v', rfl, ho', hf⟩
        exact hK _ _ (Fresh.ext hf) ho'
      | 22, _, ho =>
        obtain rfl := Option.some.inj ho
        intro s W hX hd K hK
        have d22 : (s 13) = .bool true := hd 13 (by decide) (by decide)
        have d30 : OwnB W (s 21) ([5] ++ opB o0) := hd 21 (by decide) (by decide)
        clear hd
        replace hK : ∀ (v : Value) (W' : World), Ext W W' → (v = .string STO) → _ := hK
        simp only [mkOf, List.map_cons, List.map_nil, Act.put, List.setIfInBounds_toArray, List.set_cons_succ, List.set_cons_zero, Nat.reduceAdd, Nat.zero_add] at hK ⊢
        simp only [d22] at hK ⊢
        rw [if_pos (by kernel_rfl)]
        obtain ⟨A, c, e⟩ := d30.form
        rw [e] at d30
        simp only [e] at hK ⊢
        refine wp_strD 35 9 (.tmp 30) rfl 5 Try.underlying35 Try.underlying5 Try.underlying9 A c ([5] ++ opB o0) (by simp [Act.eval]) (OwnB.src d30) ?_
        exact hK _ _ (Ext.refl _) (by rw [HSTO.out])
      | 23, _, ho =>
        obtain rfl := Option.some.inj ho
        intro s W hX hd K hK
        have d22 : (s 13) = .bool true := hd 13 (by decide) (by decide)
        have d27 : (s 18) = .string STO := hd 18 (by decide) (by decide)
        have d31 : (s 22) = .string STO := hd 22 (by decide) (by decide)
        clear hd
        replace hK : ∀ (v : Value) (W' : World), Ext W W' → (v = .bool true) → _ := hK
        simp only [mkOf, List.map_cons, List.map_nil, Act.put, List.setIfInBounds_toArray, List.set_cons_succ, List.set_cons_zero, Nat.reduceAdd, Nat.zero_add] at hK ⊢
        simp only [d22, d27, d31] at hK ⊢
        rw [if_pos (by kernel_rfl)]
        go_simp
        exact hK _ _ (Ext.refl _) (by simp)
      | 24, _, ho =>
        obtain rfl := Option.some.inj ho
        intro s W hX hd K hK
        rw [if_pos (wanted_plain rfl)]
        have d22 : (s 13) = .bool true := hd 13 (by decide) (by decide)
        have d32 : (s 23) = .bool true := hd 23 (by decide) (by decide)
        clear hd
        replace hK : ∀ (v : Value) (W' : World), Ext W W' → (v = .bool true) → _ := hK
        simp only [mkOf, List.map_cons, List.map_nil, Act.put, List.setIfInBounds_toArray, List.set_cons_succ, List.set_cons_zero, Nat.reduceAdd, Nat.zero_add] at hK ⊢
        simp only [d22, d32] at hK ⊢
        go_simp
        exact hK _ _ (Ext.refl _) rfl
      | 25, _, ho =>
        obtain rfl := Option.some.inj ho
        intro s W hX hd K hK
        rw [if_pos (wanted_plain rfl)]
        have d33 : (s 24) = .bool true := hd 24 (by decide) (by decide)
        clear hd
        replace hK : ∀ (v : Value) (W' : World), Ext W W' → (v = .bool true) → _ := hK
        simp only [mkOf, List.map_cons, List.map_nil, Act.put, List.setIfInBounds_toArray, List.set_cons_succ, List.set_cons_zero, Nat.reduceAdd, Nat.zero_add] at hK ⊢
        simp only [d33] at hK ⊢
        go_simp
        exact hK _ _ (Ext.refl _) rfl
      | 26, _, ho =>
        obtain rfl := Option.some.inj ho
        intro s W hX hd K hK
        have d34 : (s 25) = .bool true := hd 25 (by decide) (by decide)
        clear hd
        replace hK : ∀ (v : Value) (W' : World), Ext W W' → (v = .agg SC.toArray) → _ := hK
        simp only [mkOf, List.map_cons, List.map_nil, Act.put, List.setIfInBounds_toArray, List.set_cons_succ, List.set_cons_zero, Nat.reduceAdd, Nat.zero_add] at hK ⊢
        simp only [d34] at hK ⊢
        rw [if_pos (by kernel_rfl)]
        refine wp_load_aggD 27 (.tmp 2) rfl _ rfl SC _ Try.underlying27 rfl (szRState HSCL.out) (HB2b.out.keep hX (by simp)).cells ?_
        exact hK _ _ (Ext.refl _) rfl
      | 27, _, ho =>
        obtain rfl := Option.some.inj ho
        intro s W hX hd K hK
        have d34 : (s 25) = .bool true := hd 25 (by decide) (by decide)
        have d35 : (s 26) = .agg SC.toArray := hd 26 (by decide) (by decide)
        clear hd
        replace hK : ∀ (v : Value) (W' : World), Ext W W' → (∃ u', v = stv s0 u' ∧ OwnTo W' u' s0.cs) → _ := hK
        simp only [mkOf, List.map_cons, List.map_nil, Act.put, List.setIfInBounds_toArray, List.set_cons_succ, List.set_cons_zero, Nat.reduceAdd, Nat.zero_add] at hK ⊢
        simp only [d34, d35] at hK ⊢
        rw [if_pos (by kernel_rfl)]
        go_simp
        refine (HTO2.out W hX).mono ?_
        rintro e w' ⟨u', rfl, ho, hx, _⟩
        exact hK _ _ hx ⟨u', rfl, ho⟩
      | 28, _, ho =>
        obtain rfl := Option.some.inj ho
        intro s W hX hd K hK
        have d34 : (s 25) = .bool true := hd 25 (by decide) (by decide)
        have d36 : ∃ u', (s 27) = stv s0 u' ∧ OwnTo W u' s0.cs := hd 27 (by decide) (by decide)
        clear hd
        replace hK : ∀ (v : Value) (W' : World), Ext W W' → (v = .agg SUM.toArray) → _ := hK
        simp only [mkOf, List.map_cons, List.map_nil, Act.put, List.setIfInBounds_toArray, List.set_cons_succ, List.set_cons_zero, Nat.reduceAdd, Nat.zero_add] at hK ⊢
        simp only [d34] at hK ⊢
        rw [if_pos (by kernel_rfl)]
        obtain ⟨u', hu, ho2⟩ := d36
        simp only [hu] at hK ⊢
        go_simp
        refine (DSum s0 HW.out u' _ W ho2.holds ho2.lt (by have := HLEN.out; omega)).mono ?_
        rintro e w' ⟨rfl, hx⟩
        exact hK _ _ hx (by rw [HSUM.out])
      | 29, _, ho =>
        obtain rfl := Option.some.inj ho
        intro s W hX hd K hK
        have d34 : (s 25) = .bool true := hd 25 (by decide) (by decide)
        clear hd
        replace hK : ∀ (v : Value) (W' : World), Ext W W' → (v = .agg TB.toArray) → _ := hK
        simp only [mkOf, List.map_cons, List.map_nil, Act.put, List.setIfInBounds_toArray, List.set_cons_succ, List.set_cons_zero, Nat.reduceAdd, Nat.zero_add] at hK ⊢
        simp only [d34] at hK ⊢
        rw [if_pos (by kernel_rfl)]
        go_simp
        refine (HMK.out _).mono ?_
        rintro e w' ⟨rfl, hx⟩
        exact hK _ _ hx rfl
      | 30, _, ho =>
        obtain rfl := Option.some.inj ho
        intro s W hX hd K hK
        have d34 : (s 25) = .bool true := hd 25 (by decide) (by decide)
        clear hd
        replace hK : ∀ (v : Value) (W' : World), Ext W W' → (v = .agg SC.toArray) → _ := hK
        simp only [mkOf, List.map_cons, List.map_nil, Act.put, List.setIfInBounds_toArray, List.set_cons_succ, List.set_cons_zero, Nat.reduceAdd, Nat.zero_add] at hK ⊢
        simp only [d34] at hK ⊢
        rw [if_pos (by kernel_rfl)]
        refine wp_load_aggD 27 (.tmp 2) rfl _ rfl SC _ Try.underlying27 rfl (szRState HSCL.out) (HB2b.out.keep hX (by simp)).cells ?_
        exact hK _ _ (Ext.refl _) rfl
      | 31, _, ho =>
        obtain rfl := Option.some.inj ho
        intro s W hX hd K hK
        have d34 : (s 25) = .bool true := hd 25 (by decide) (by decide)
        have d38 : (s 29) = .agg TB.toArray := hd 29 (by decide) (by decide)
        have d39 : (s 30) = .agg SC.toArray := hd 30 (by decide) (by decide)
        clear hd
        replace hK : ∀ (v : Value) (W' : World), Ext W W' → (v = .agg SUM.toArray) → _ := hK
        simp only [mkOf, List.map_cons, List.map_nil, Act.put, List.setIfInBounds_toArray, List.set_cons_succ, List.set_cons_zero, Nat.reduceAdd, Nat.zero_add] at hK ⊢
        simp only [d34, d38, d39] at hK ⊢
        rw [if_pos (by kernel_rfl)]
        go_simp
        refine (HRS2.out W hX).mono ?_
        rintro e w' ⟨rfl, hx⟩
        exact hK _ _ hx (by rw [HSUM.out])
      | 32, _, ho =>
        obtain rfl := Option.some.inj ho
        intro s W hX hd K hK
        have d34 : (s 25) = .bool true := hd 25 (by decide) (by decide)
        have d37 : (s 28) = .agg SUM.toArray := hd 28 (by decide) (by decide)
        have d40 : (s 31) = .agg SUM.toArray := hd 31 (by decide) (by decide)
        clear hd
        replace hK : ∀ (v : Value) (W' : World), Ext W W' → (v = .bool true) → _ := hK
        simp only [mkOf, List.map_cons, List.map_nil, Act.put, List.setIfInBounds_toArray, List.set_cons_succ, List.set_cons_zero, Nat.reduceAdd, Nat.zero_add] at hK ⊢
        simp only [d34, d37, d40] at hK ⊢
        rw [if_pos (by kernel_rfl)]
        refine wp_bin2D .eql 52 (.tmp 37) (.tmp 40) rfl _ _ rfl rfl (HEQ.out.1 _ _ _) (HEQ.out.2 _) ?_
        exact hK _ _ (Ext.refl _) rfl
      | 33, _, ho =>
        obtain rfl := Option.some.inj ho
        intro s W hX hd K hK
        rw [if_pos (wanted_plain rfl)]
        have d34 : (s 25) = .bool true := hd 25 (by decide) (by decide)
        have d41 : (s 32) = .bool true := hd 32 (by decide) (by decide)
        clear hd
        replace hK : ∀ (v : Value) (W' : World), Ext W W' → (v = .bool true) → _ := hK
        simp only [mkOf, List.map_cons, List.map_nil, Act.put, List.setIfInBounds_toArray, List.set_cons_succ, List.set_cons_zero, Nat.reduceAdd, Nat.zero_add] at hK ⊢
        simp only [d34, d41] at hK ⊢
        go_simp
        exact hK _ _ (Ext.refl _) rfl
      | 34, _, ho =>
        obtain rfl := Option.some.inj ho
        intro s W hX hd K hK
        rw [if_pos (wanted_plain rfl)]
        have d42 : (s 33) = .bool true := hd 33 (by decide) (by decide)
        clear hd
        replace hK : ∀ (v : Value) (W' : World), Ext W W' → (v = .bool true) → _ := hK
        simp only [mkOf, List.map_cons, List.map_nil, Act.put, List.setIfInBounds_toArray, List.set_cons_succ, List.set_cons_zero, Nat.reduceAdd, Nat.zero_add] at hK ⊢
        simp only [d42] at hK ⊢
        go_simp
        exact hK _ _ (Ext.refl _) rfl
      | i + 35, hi, _ => exact absurd hi (by simp)
    · intro s W hX hd
      have d9 : (s 0) = .bool true := hd 0 (by decide)
      have d10 : (s 1) = .bool true := hd 1 (by decide)
      have d11 : ∃ b, (s 2) = .slice (some b) 1 1 ∧ OwnB W (.slice (some b) 1 1) [5] := hd 2 (by decide)
      have d12 : (s 3) = .agg SC.toArray := hd 3 (by decide)
      have d13 : ∃ u', (s 4) = stv s0 u' ∧ OwnTo W u' s0.cs := hd 4 (by decide)
      have d14 : OwnB W (s 5) ([5] ++ stateB s0) := hd 5 (by decide)
      have d15 : (s 6) = .string STS := hd 6 (by decide)
      have d16 : OwnB W (s 7) [5] := hd 7 (by decide)
      have d17 : (s 8) = .agg SC.toArray := hd 8 (by decide)
      have d18 : OwnB W (s 9) ([5] ++ stateB s0) := hd 9 (by decide)
      have d19 : (s 10) = .string STS := hd 10 (by decide)
      have d20 : (s 11) = .bool true := hd 11 (by decide)
      have d21 : (s 12) = .bool true := hd 12 (by decide)
      have d22 : (s 13) = .bool true := hd 13 (by decide)
      have d23 : ∃ b, (s 14) = .slice (some b) 1 1 ∧ OwnB W (.slice (some b) 1 1) [5] := hd 14 (by decide)
      have d24 : (s 15) = .agg OC.toArray := hd 15 (by decide)
      have d25 : (s 16) = .agg OC.toArray := hd 16 (by decide)
      have d26 : OwnB W (s 17) ([5] ++ opB o0) := hd 17 (by decide)
      have d27 : (s 18) = .string STO := hd 18 (by decide)
      have d28 : OwnB W (s 19) [5] := hd 19 (by decide)
      have d29 : (s 20) = .agg OC.toArray := hd 20 (by decide)
      have d30 : OwnB W (s 21) ([5] ++ opB o0) := hd 21 (by decide)
      have d31 : (s 22) = .string STO := hd 22 (by decide)
      have d32 : (s 23) = .bool true := hd 23 (by decide)
      have d33 : (s 24) = .bool true := hd 24 (by decide)
      have d34 : (s 25) = .bool true := hd 25 (by decide)
      have d35 : (s 26) = .agg SC.toArray := hd 26 (by decide)
      have d36 : ∃ u', (s 27) = stv s0 u' ∧ OwnTo W u' s0.cs := hd 27 (by decide)
      have d37 : (s 28) = .agg SUM.toArray := hd 28 (by decide)
      have d38 : (s 29) = .agg TB.toArray := hd 29 (by decide)
      have d39 : (s 30) = .agg SC.toArray := hd 30 (by decide)
      have d40 : (s 31) = .agg SUM.toArray := hd 31 (by decide)
      have d41 : (s 32) = .bool true := hd 32 (by decide)
      have d42 : (s 33) = .bool true := hd 33 (by decide)
      have d4 : (s 34) = .bool true := hd 34 (by decide)
      clear hd
      simp only [mkOf, List.map_cons, List.map_nil, Act.put, List.setIfInBounds_toArray, List.set_cons_succ, List.set_cons_zero, Nat.reduceAdd, Nat.zero_add]
      (try simp only [Exit.then])
      simp only [d4]
      go_wp2_with fail
      go_ret
      exact ⟨by simp, HX2.out.trans hX⟩
  · rw [decide_eq_false hl] at hlight
    have hcs := hb2.cells
    have HLIGHT := Lib.hid hlight
    have HX1 := Lib.hid hx1
    have HSCL := Lib.hid hscl
    clear hlight hx0 hw hl hto hrst hrs hop hlo hro hmk hscl hocl hb2 hb3 hc hF hSC hst htb ham hid hok hx1
    go_enter Try.func3, Try.ntmps3
    go_wp2_with (first
      | ((with_reducible refine wpDst 5 rfl ?_); refine wpList_load_agg _ rfl 27 (.tmp 2) rfl _ rfl SC _ Try.underlying27 rfl (szRState HSCL.out) hcs ?_)
      | fail)
    refine (HLIGHT.out _).mono ?_
    rintro e w1 ⟨rfl, hx1⟩
    go_wp2_with fail
    refine (DAwake _).mono ?_
    rintro e w2 ⟨rfl, hx2⟩
    go_wp2_with fail
    go_ret
    exact ⟨rfl, (HX1.out.trans hx1).trans hx2⟩
end
section
open Go.RowKit

def WishTD : Ty := .st (.pair (.int .i64) (.pair (.nat .u64) (.pair CondT (.pair (.nat .u64) .unit))))
def StTD : Ty := .st (.pair (.nat .u32) (.pair (.nat .u64) (.pair (.arr 2 (.nat .u64)) (.pair (.arr 2 (.nat .u64)) (.pair (.sl CondT) .unit)))))
theorem agg_cellsD (cs : List Value) : (Value.agg cs.toArray).cells.toList = cs := by simp [Value.cells]
theorem two_openD {W : World} {F : Fp} {cs : List Value} {x : List Nat} (h : (Ty.arr 2 (.nat .u64)).holds W F cs x) : ∃ a b : Nat, cs = [.int .u64 (a : Int), .int .u64 (b : Int)] ∧ (Lit.int .u64 (a : Int)).wf = true ∧ (Lit.int .u64 (b : Int)).wf = true := by
  obtain ⟨hl, ha⟩ := h
  match x, hl, ha with
  | [a, b], _, ha =>
    obtain ⟨_, _, rfl, ⟨rfl, w1⟩, _, _, rfl, ⟨rfl, w2⟩, rfl⟩ := ha
    exact ⟨a, b, rfl, w1, w2⟩
theorem wish_openD {W : World} {F : Fp} {cs : List Value} {x : WishTD.Data} (h : WishTD.holds W F (Value.agg cs.toArray).cells.toList x) : ∃ o : Wish, cs = wishCells o ∧ CondOk o.c ∧ (Lit.int .u64 (o.am : Int)).wf = true ∧ (Lit.int .u64 (o.id : Int)).wf = true := by
  rw [agg_cellsD] at h
  obtain ⟨k, a, c, i, u⟩ := x
  obtain ⟨_, _, rfl, ⟨rfl, w1⟩, _, _, rfl, ⟨rfl, w2⟩, _, _, rfl, hc, _, _, rfl, ⟨rfl, w3⟩, rfl⟩ := h
  obtain ⟨rfl, hok⟩ := condT_iff.1 hc
  exact ⟨⟨k, a, c, i⟩, by simp [wishCells], hok, w2, w3⟩
theorem state_openD {W : World} {F : Fp} {cs : List Value} {x : StTD.Data} (h : StTD.holds W F (Value.agg cs.toArray).cells.toList x) : ∃ (s : St) (v : Value), cs = stc s v ∧ StWf s ∧ Conds W F v s.cs := by
  rw [agg_cellsD] at h
  obtain ⟨ch, rd, mv, tk, cd, u⟩ := x
  obtain ⟨_, _, rfl, ⟨rfl, w1⟩, _, _, rfl, ⟨rfl, w2⟩, _, _, rfl, hm, _, _, rfl, ht, _, _, rfl, hc, rfl⟩ := h
  obtain ⟨a, b, rfl, ha, hb⟩ := two_openD hm
  obtain ⟨c, d, rfl, hc', hd⟩ := two_openD ht
  obtain ⟨A, cap, xs, rfl, hrest⟩ := hc
  exact ⟨⟨ch, rd, a, b, c, d, cd⟩, .slice A (List.length (α := CondT.Data) cd) cap, by simp [stc], ⟨w1, w2, ha, hb, hc', hd⟩, ⟨A, cap, xs, rfl, hrest⟩⟩
end
section
open Go.ChangeShapes Go.WideShapes Go.ChangeAt Go.RowKit

def okZipB (P : Program) (w : World) (t : TypeId) (cs : List Value) : Bool :=
  match P.cellTypes P.depth t with
  | some ts => (ts.length == cs.length && cs.length == P.cellsOf t) && (ts.zip cs).all fun p => Cell.okWideB P w p.1 p.2
  | none => false
theorem zip_at {α β : Type} : ∀ (xs : List α) (ys : List β) (i : Nat) (y : β), xs.length = ys.length → ys[i]? = some y → ∃ x, xs[i]? = some x ∧ (x, y) ∈ xs.zip ys
  | [], [], i, y, _, h => by simp at h
  | x :: xs, z :: ys, 0, y, _, h => by
    have e : z = y := by simpa using h
    subst e
    exact ⟨x, rfl, by simp⟩
  | x :: xs, z :: ys, i + 1, y, hl, h => by
    obtain ⟨u, h1, h2⟩ := zip_at xs ys i y (by simpa using hl) (by simpa using h)
    exact ⟨u, by simpa using h1, by simp [h2]⟩
  | [], _ :: _, _, _, h, _ => by simp at h
  | _ :: _, [], _, _, h, _ => by simp at h
theorem okWide_of_zip {P : Program} {w : World} {base : Nat} {t : TypeId} {fs : Array Field} {cs : List Value} (hu : P.underlying t = some (.struct fs)) (h : okZipB P w t cs = true) : Value.okWide P w .any base t (.agg cs.toArray) := by
  unfold okZipB at h
  split at h
  · rename_i ts hts
    simp only [Bool.and_eq_true, beq_iff_eq, List.all_eq_true] at h
    obtain ⟨⟨h1, h2⟩, h3⟩ := h
    unfold Value.okWide
    simp only [hu]
    refine ⟨_, rfl, by simpa using h2, ts, hts, ⟨1, by simp [h1]⟩, fun i v hv => ?_⟩
    have hv' : cs[i]? = some v := by simpa using hv
    have hi : i < cs.length := (List.getElem?_eq_some_iff.1 hv').1
    obtain ⟨x, hx, hm⟩ := zip_at ts cs i v h1 hv'
    rw [Nat.mod_eq_of_lt (by omega)]
    exact ⟨x, hx, Cell.okWide_of_okWideB (h3 _ hm)⟩
  · cases h
theorem witness6W {H : Type} {enc : TypeId × Value → H} {C : Checked} {os : Os} {f : FuncId} {fn : Func} {s : ChangeSpec} {conds : List PathCond} {apart : Bool} (modest : Bool) (i : Input) (fuel : Nat)
    (hv : (World.plainHolding C.prog os i).variablesB C.prog = true)
    (hr : ((World.plainHolding C.prog os i).heap.toList.drop C.prog.globals.size).take ((begin C.prog (fun _ _ => 0) default).world.heap.size - C.prog.globals.size) =
      (begin C.prog (fun _ _ => 0) default).world.heap.toList.drop C.prog.globals.size)
    (hok : ∀ base, Input.okWide C.prog (World.plainHolding C.prog os i) .any base f ⟨#[], i.args, []⟩)
    (hpre : s.preB enc C.prog fn conds apart (World.plainHolding C.prog os i).memory i.args fuel = true)
    (hsz : s.sizedB enc C.prog fn apart (World.plainHolding C.prog os i).memory i.args fuel = true) :
    ∃ (w : World) (tape : Tape) (i : Input), w.os = os ∧ (w.forCall tape i).Shaped C.prog ∧ i.vars = [] ∧ Input.okWide C.prog (w.forCall tape i) .any w.heap.size f i ∧
      s.pre6 enc C.prog fn conds apart (w.forCall tape i).memory i.args ∧ ({ modest := modest } : Assume).holds C.prog (lone (Frame.enter C.prog f i.args .normal) [] (w.forCall tape i)) :=
  ⟨World.holding C.prog os i, fun _ _ => 0, ⟨#[], i.args, []⟩, rfl, World.shaped_of_B hv hr, rfl, hok _, ⟨ChangeSpec.pre_of_preB hpre, sizedMet_of_sizedB hsz⟩, by
    simp only [Assume.holds]
    exact ⟨by simp, by simp, fun _ => Modest.zero, by simp, by simp⟩⟩
end
end Go.Proofs.Ytmicjaiiinaipaa

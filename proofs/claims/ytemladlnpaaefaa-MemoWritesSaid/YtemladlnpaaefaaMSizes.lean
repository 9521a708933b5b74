/- The walk of the law MemoSizes. Conditions: the numbers are in their bounds. -/
import Derived.Test.YtemladlnpaaefaaMBytes
import Derived.Test.YtemladlnpaaefaaRightB
set_option linter.unusedVariables false
set_option linter.unusedSimpArgs false
set_option linter.unnecessarySimpa false
namespace Go.Proofs.Ytemladlnpaaefaa
open Go.RowKit

theorem wpList_strG {P : Program} {w : World} {ops : Array Oper} {rest : List Oper} {o : Oper} {a : Act} {Q : Exit → Act → World → Prop} (hgd : o.guard = none ∨ Region.wanted o (yielded ops a.tmps) = true) (src dst : TypeId) (x : Operand) (ho : o.op = .convert src dst x)
    (e : TypeId) (hs : P.underlying src = some (.slice e)) (he : P.underlying e = some (.int .u8)) (hd : P.underlying dst = some .string)
    (A : Option Addr) (c : Nat) (bs : List UInt8) (hx : a.eval x = .slice A bs.length c) (hsrc : Src w A bs.length (bv bs))
    (h : wpList P ops Q rest (a.put o.dst (.string (strOf bs))) w) : wpList P ops Q (o :: rest) a w :=
  wpList_want hgd fun K hK => by
    unfold Oper.wp execOp
    simp only [ho, hx, Sem.run_bind, run_str w src dst e hs he hd A c bs hsrc, Result.andThen_ok, Sem.run_pure]
    exact hK _ _ h
section
variable {kind : Int} {ch rd : Nat} {OC C SG : List Value} {tr : Value}
theorem memoC_cell3 (h : OC.length = 39) {i : Nat} (hi : i < 39) : (memoC kind ch rd OC tr SG)[3 + i]? = OC[i]? := by
  rw [Nat.add_comm 3 i]
  show (OC ++ tr :: SG)[i]? = OC[i]?
  rw [List.getElem?_append_left (by omega)]
theorem memoC_cell43 (h : OC.length = 39) (i : Nat) : (memoC kind ch rd OC tr SG)[43 + i]? = SG[i]? := by
  rw [Nat.add_comm 43 i]
  show (OC ++ tr :: SG)[i + 40]? = SG[i]?
  rw [List.getElem?_append_right (by omega), h, show i + 40 - 39 = i + 1 by omega]
  rfl
end
theorem wish39 {o : Wish} (hok : CondOk o.c) : (wishCells o).length = 39 := wishCells_len hok
theorem right_in (kind : Int) (ch rd : Nat) (o : Wish) (hok : CondOk o.c) (C : List Value) (hC : C.length = 1024) (key : Nat) (A B : Option Addr) (n c m d : Nat) :
    RightIn (memoC kind ch rd (wishCells o) (.slice A n c) (sigC C key (.slice B m d))) (wishCells o) C kind rd A n c key B m d o.kind o.c.2.1 where
  ml := memoC_len (wish39 hok) (sigC_len hC _ _)
  ol := wish39 hok
  cl := hC
  m0 := rfl
  m2 := rfl
  m3 := (memoC_cell3 (wish39 hok) (i := 0) (by omega)).trans rfl
  m6 := (memoC_cell3 (wish39 hok) (i := 3) (by omega)).trans rfl
  mo := memoC_op (wish39 hok)
  mt := memoC_tr (wish39 hok)
  ms := by rw [memoC_sig (wish39 hok)]; exact sigC_take hC _ _
  mkey := (memoC_cell43 (wish39 hok) 1024).trans (sigC_key hC _ _)
  mw := (memoC_cell43 (wish39 hok) 1025).trans (sigC_way hC _ _)
def zwish : Wish := ⟨0, 0, (0, 0, 0, List.replicate 32 0, 0, ()), 0⟩
theorem zwish_ok : CondOk zwish.c := ⟨by decide, by decide, by decide, rfl, by decide⟩
/-- A memo that only asks. -/
def askC (ch rd : Nat) : List Value := memoC 0 ch rd zop (.slice none 0 0) (sigC zC 0 (.slice none 0 0))
theorem ask_right (ch rd : Nat) (w : World) : Calls Try.prog 9 #[.agg (askC ch rd).toArray] w fun e w' => e = .returned (.bool ((rd : Int) == 0)) ∧ Ext w w' := by
  have h := RightAsk (askC ch rd) zop zC 0 rd none 0 0 0 none 0 0 0 0 (0, 0, (0, 0, 0, List.replicate 32 0, 0, ()), 0, ()) (zPieces, zPieces, ()) w (right_in 0 ch rd zwish zwish_ok zC List.length_replicate 0 none none 0 0 0 0) (zOp_holds w (fun _ => False)) (zSig_holds w (fun _ => False)) (by decide) (by decide) rfl ((Ty.eqv_iff WishT18 rfl _ _).2 rfl) ((Ty.eqv_iff SigT rfl _ _).2 rfl) rfl rfl rfl
  refine h.mono ?_
  rintro e w' ⟨rfl, hx⟩
  refine ⟨?_, hx⟩
  have e1 : WishT18.eqv (0, 0, (0, 0, 0, List.replicate 32 0, 0, ()), 0, ()) (0, 0, (0, 0, 0, List.replicate 32 0, 0, ()), 0, ()) = true := (Ty.eqv_iff WishT18 rfl _ _).2 rfl
  have e2 : SigT.eqv (zPieces, zPieces, ()) (zPieces, zPieces, ()) = true := (Ty.eqv_iff SigT rfl _ _).2 rfl
  rw [e1, e2]
  simp [rightM]
theorem ask_len (ch rd : Nat) : (askC ch rd).length = 1069 := memoC_len rfl (sigC_len List.length_replicate _ _)
theorem ask_one (ch rd : Nat) : ∀ u ∈ askC ch rd, u.oneCell' = true := memoC_one (wish_one zwish) (sigC_one (fun u hu => by rw [List.eq_of_mem_replicate hu]; rfl) _ _ _ _) rfl
theorem ask_bytes (ch : Nat) (hch : (Lit.int .u32 (ch : Int)).wf = true) (w : World) : Calls Try.prog 7 #[.agg (askC ch 0).toArray] w fun e w' => ∃ v, e = .returned (.tuple #[v, .int .i64 0]) ∧ OwnB w' v ([(0 : UInt8)] ++ be 4 ch) ∧ Ext w w' :=
  Bytes0 (askC ch 0) ch w (ask_len ch 0) rfl rfl hch fun W _ => ask_right ch 0 W
theorem agree_right (ch rd : Nat) (o : Wish) (hok : CondOk o.c) (C : List Value) (hC : C.length = 1024) (key : Nat) (A B : Option Addr) (n c m d : Nat) (hn : n ≠ 0) (hnl : n ≤ 140737488355328) (hml : m ≤ 140737488355328) (od : WishT18.Data) (sg : SigT.Data) {W1 W2 : World} {F1 F2 : Fp} (hod : WishT18.holds W1 F1 (wishCells o) od) (hsg : SigT.holds W2 F2 C sg) (w : World) :
    Calls Try.prog 9 #[.agg (memoC 2 ch rd (wishCells o) (.slice A n c) (sigC C key (.slice B m d))).toArray] w fun e w' => e = .returned (.bool false) ∧ Ext w w' := by
  have hn0 : ((n : Int) == 0) = false := by rw [beq_eq_false_iff_ne]; omega
  refine (RightAgree _ _ _ 2 rd A n c key B m d o.kind o.c.2.1 od sg w (right_in 2 ch rd o hok C hC key A B n c m d) hod hsg hnl hml rfl hn0).mono ?_
  rintro e w' ⟨rfl, hx⟩
  exact ⟨by simp [rightM, hn0], hx⟩
set_option maxRecDepth 100000 in
set_option maxHeartbeats 4000000 in
theorem Light (M : List Value) (A B : Option Addr) (n c m d : Nat) (w : World) (mt : M[42]? = some (.slice A n c)) (mw : M[1068]? = some (.slice B m d)) (hnl : n ≤ 9223372036854775807) (hml : m ≤ 9223372036854775807) :
    Calls Try.prog 5 #[.agg M.toArray] w fun e w' => e = .returned (.bool (decide ((n : Int) ≤ 60) && decide ((m : Int) ≤ 60))) ∧ Ext w w' := by
  have hb0 : Blk (w.alloc (.cells M.toArray 39)) w.heap.size 39 M := Blk.new _ _ _
  have hx0 : Ext w (w.alloc (.cells M.toArray 39)) := (Ext.refl w).alloc _
  have c42 := (hb0.cell 42).trans mt
  have c1068 := (hb0.cell 1068).trans mw
  clear hb0 mt mw
  by_cases h : n ≤ 60
  · have hd : decide ((n : Int) ≤ 60) = true := by rw [decide_eq_true_iff]; omega
    go_enter Try.func5, Try.ntmps5
    go_wp2
    go_ret
    exact ⟨by simp [hd], hx0⟩
  · have hd : decide ((n : Int) ≤ 60) = false := by rw [decide_eq_false_iff_not]; omega
    go_enter Try.func5, Try.ntmps5
    go_wp2
    go_ret
    exact ⟨by simp [hd], hx0⟩
set_option maxRecDepth 100000 in
set_option maxHeartbeats 4000000 in
theorem Awake18 (w : World) : Calls Try.prog 6 #[] w fun e w' => e = .returned (.bool true) ∧ Ext w w' := by
  have hby := ask_bytes 5 (by decide)
  have hs : [(0 : UInt8)] ++ be 4 5 = [0, 0, 0, 0, 5] := by decide +kernel
  generalize [(0 : UInt8)] ++ be 4 5 = BS at *
  have HV := Lib.hid hs
  clear hs
  obtain ⟨M, hM⟩ : ∃ M, M = askC 5 0 := ⟨_, rfl⟩
  rw [← hM] at hby
  have HM := Lib.hid hM
  have HBY := Lib.hid hby
  clear hM hby
  go_enter Try.func6, Try.ntmps6
  go_wp2_with (first
    | (refine wpList_build (.inl rfl) 60 _ rfl (.agg (askC 5 0).toArray) (by kernel_rfl) ?_; rw [← HM.out])
    | fail)
  refine (HBY.out _).mono ?_
  rintro e w1 ⟨v, rfl, ho, hx1⟩
  obtain ⟨A, c, hv⟩ := Own.form ho
  subst hv
  have hsrc : Src w1 A BS.length (bv BS) := OwnB.src ho
  clear ho
  go_wp2_with (first
    | (refine wpList_strG (.inr (by kernel_rfl)) 42 9 (.tmp 11) rfl 5 Try.underlying42 Try.underlying5 Try.underlying9 A c BS rfl hsrc ?_)
    | fail)
  go_ret
  refine ⟨?_, hx1⟩
  simp only []
  simp
  rw [strOf_toList]
  exact HV.out
end Go.Proofs.Ytemladlnpaaefaa

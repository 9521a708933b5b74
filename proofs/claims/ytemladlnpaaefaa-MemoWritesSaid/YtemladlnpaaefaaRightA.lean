/- The walk of memo's Right: whether a memo has just what its kind has. Conditions: the parts have their sizes. -/
import Derived.Test.YtemladlnpaaefaaTo18
import Derived.Test.YtemladlnpaaefaaEqQ
import Derived.Test.YtemladlnpaaefaaField
set_option linter.unusedVariables false
set_option linter.unusedSimpArgs false
set_option linter.unnecessarySimpa false
namespace Go.Proofs.Ytemladlnpaaefaa
open Go.RowKit

def PieceT : Ty := .arr 16 .u8
def SigT : Ty := .st (.pair (.arr 32 PieceT) (.pair (.arr 32 PieceT) .unit))
def WishT18 : Ty := .st (.pair (.int .i64) (.pair (.nat .u64) (.pair CondT (.pair (.nat .u64) .unit))))
theorem allH_rep {α : Type} {R : List Value → α → Prop} {x : Value} {a : α} {k : Nat} (h : R (List.replicate k x) a) : ∀ n, AllH R (List.replicate (n * k) x) (List.replicate n a)
  | 0 => by simp [AllH]
  | n + 1 => ⟨List.replicate k x, List.replicate (n * k) x, by rw [List.replicate_append_replicate]; congr 1; rw [Nat.add_mul]; omega, h, allH_rep h n⟩
def zC : List Value := List.replicate 1024 (.int .u8 0)
def zPieces : List (List UInt8) := List.replicate 32 (List.replicate 16 0)
theorem zSig_holds (w : World) (F : Fp) : SigT.holds w F zC (zPieces, zPieces, ()) := by
  have hp : PieceT.holds w F (List.replicate 16 (.int .u8 0)) (List.replicate 16 0) := ⟨rfl, AllH.bytes.2 rfl⟩
  have h := allH_rep (R := PieceT.holds w F) hp 32
  refine ⟨List.replicate 512 (.int .u8 0), List.replicate 512 (.int .u8 0), by rw [List.replicate_append_replicate]; rfl, ⟨rfl, h⟩, List.replicate 512 (.int .u8 0), [], (List.append_nil _).symm, ⟨rfl, h⟩, rfl⟩
theorem zOp_holds (w : World) (F : Fp) : WishT18.holds w F zop (0, 0, (0, 0, 0, List.replicate 32 0, 0, ()), 0, ()) :=
  ⟨[.int .i64 0], _, rfl, ⟨rfl, by decide⟩, [.int .u64 0], _, rfl, ⟨rfl, by decide⟩, condCells (0, 0, 0, List.replicate 32 0, 0, ()), [.int .u64 0], rfl, condT_iff.2 ⟨rfl, by decide, by decide, by decide, rfl, by decide⟩, [.int .u64 0], [], rfl, ⟨rfl, by decide⟩, rfl⟩
theorem zOp_build : True := trivial
/-- Whether a memo may be. -/
def rightM (kind : Int) (rd : Nat) (zo zs : Bool) (n key m : Nat) (ok sd : Int) : Bool :=
  if kind = 0 then ((zo && (n : Int) == 0) && (((key : Int) == 0 && (m : Int) == 0) && zs)) && ((rd : Int) == 0)
  else if kind = 1 then (((decide (ok ≥ 0) && decide (ok ≤ 5)) && decide ((n : Int) ≤ 7)) && decide ((m : Int) ≤ 8)) && (sd == 0 || sd == 1)
  else if kind = 2 then (zo && (n : Int) == 0) && decide ((m : Int) ≤ 8) else false
theorem sig_fits : (SigT.eqFits Try.prog).1 55 = true := by kernel_rfl
theorem wish_fits : (WishT18.eqFits Try.prog).1 50 = true := by kernel_rfl
theorem val_sig : ∀ cs, SigT.val cs = .agg cs.toArray := fun _ => rfl
theorem val_wish : ∀ cs, WishT18.val cs = .agg cs.toArray := fun _ => rfl
theorem guard_sig : Try.prog.eqGuardType Try.prog.depth 55 = false := by kernel_rfl
theorem guard_wish : Try.prog.eqGuardType Try.prog.depth 50 = false := by kernel_rfl
theorem deep_sig : SigT.deep ≤ 10000 := by decide
theorem deep_wish : WishT18.deep ≤ 10000 := by decide
theorem szLamp {n : Nat} (h : n = 1024) : (Try.prog.info? 55).map (·.size) = some n := by subst h; kernel_rfl
theorem ring_field : ∃ fields f d, Try.prog.underlying 58 = some (.struct fields) ∧ fields[0]? = some f ∧ f.offset = 0 ∧ Try.prog.underlying f.type = some d ∧ isAggD d = true ∧ (Try.prog.info? f.type).map (·.size) = some 1024 :=
  ⟨_, _, _, Try.underlying58, rfl, rfl, Try.underlying55, rfl, by kernel_rfl⟩
structure RightIn (M OC C : List Value) (kind : Int) (rd : Nat) (A : Option Addr) (n c : Nat) (key : Nat) (B : Option Addr) (m d : Nat) (ok sd : Int) : Prop where
  ml : M.length = 1069
  ol : OC.length = 39
  cl : C.length = 1024
  m0 : M[0]? = some (.int .i64 kind)
  m2 : M[2]? = some (.int .u64 (rd : Int))
  m3 : M[3]? = some (.int .i64 ok)
  m6 : M[6]? = some (.int .i64 sd)
  mo : (M.drop 3).take 39 = OC
  mt : M[42]? = some (.slice A n c)
  ms : (M.drop 43).take 1024 = C
  mkey : M[1067]? = some (.int .u32 (key : Int))
  mw : M[1068]? = some (.slice B m d)
set_option maxRecDepth 100000 in
set_option maxHeartbeats 16000000 in
theorem RightAsk (M OC C : List Value) (kind : Int) (rd : Nat) (A : Option Addr) (n c : Nat) (key : Nat) (B : Option Addr) (m d : Nat) (ok sd : Int) (od : WishT18.Data) (sg : SigT.Data) (w : World) {W1 W2 : World} {F1 F2 : Fp} (hin : RightIn M OC C kind rd A n c key B m d ok sd) (hod : WishT18.holds W1 F1 OC od) (hsg : SigT.holds W2 F2 C sg) (hnl : n ≤ 140737488355328) (hml : m ≤ 140737488355328) (hkd : kind = 0) (hzot : WishT18.eqv od (0, 0, (0, 0, 0, List.replicate 32 0, 0, ()), 0, ()) = true) (hzst : SigT.eqv sg (zPieces, zPieces, ()) = true) (hn0 : ((n : Int) == 0) = true) (hk0 : ((key : Int) == 0) = true) (hm0 : ((m : Int) == 0) = true) :
    Calls Try.prog 9 #[.agg M.toArray] w fun e w' => e = .returned (.bool (rightM kind rd (WishT18.eqv od (0, 0, (0, 0, 0, List.replicate 32 0, 0, ()), 0, ())) (SigT.eqv sg (zPieces, zPieces, ())) n key m ok sd)) ∧ Ext w w' := by
  obtain ⟨zo, hzo⟩ : ∃ zo, zo = WishT18.eqv od (0, 0, (0, 0, 0, List.replicate 32 0, 0, ()), 0, ()) := ⟨_, rfl⟩
  obtain ⟨zs, hzs⟩ : ∃ zs, zs = SigT.eqv sg (zPieces, zPieces, ()) := ⟨_, rfl⟩
  rw [← hzo, ← hzs]
  have HZO := Lib.hid hzo.symm
  have HZS := Lib.hid hzs.symm
  obtain ⟨ZO, hzoe⟩ : ∃ Z, Z = zop := ⟨_, rfl⟩
  obtain ⟨ZC, hzce⟩ : ∃ Z, Z = zC := ⟨_, rfl⟩
  obtain ⟨ZR, hzre⟩ : ∃ Z, Z = sigC zC 0 (.slice none 0 0) := ⟨_, rfl⟩
  have hzoh : WishT18.holds w (fun _ => False) ZO (0, 0, (0, 0, 0, List.replicate 32 0, 0, ()), 0, ()) := by rw [hzoe]; exact zOp_holds _ _
  have hzsh : SigT.holds w (fun _ => False) ZC (zPieces, zPieces, ()) := by rw [hzce]; exact zSig_holds _ _
  have hzrt : (ZR.drop 0).take 1024 = ZC := by rw [hzre, hzce]; exact sigC_take List.length_replicate 0 (.slice none 0 0)
  have HZOE := Lib.hid hzoe
  have HZRE := Lib.hid hzre
  clear hzoe hzce hzre
  have HML := Lib.hid hin.ml
  have HOL := Lib.hid hin.ol
  have HCL := Lib.hid hin.cl
  have hb0 : Blk (w.alloc (.cells M.toArray 60)) w.heap.size 60 M := Blk.new _ _ _
  have hx0 : Ext w (w.alloc (.cells M.toArray 60)) := (Ext.refl w).alloc _
  have c0 := (hb0.cell 0).trans hin.m0
  have c2 := (hb0.cell 2).trans hin.m2
  have c3 := (hb0.cell 3).trans hin.m3
  have c6 := (hb0.cell 6).trans hin.m6
  have c42 := (hb0.cell 42).trans hin.mt
  have c1067 := (hb0.cell 1067).trans hin.mkey
  have c1068 := (hb0.cell 1068).trans hin.mw
  have hco : Cells (w.alloc (.cells M.toArray 60)) ⟨w.heap.size, 3, none⟩ OC := by have h := (hb0.cells.drop 3).take 39; rw [hin.mo, addr_at] at h; exact h
  have hcs : Cells (w.alloc (.cells M.toArray 60)) ⟨w.heap.size, 43, none⟩ C := by have h := (hb0.cells.drop 43).take 1024; rw [hin.ms, addr_at] at h; exact h
  have HX0 := Lib.hid hx0
  clear hin hb0 hx0 hzo hzs
  subst hkd
  obtain rfl : zo = true := HZO.out.symm.trans hzot
  obtain rfl : zs = true := HZS.out.symm.trans hzst
  go_enter Try.func9, Try.ntmps9
  go_wp2_with (first
    | (refine wpList_load_agg _ rfl 50 (.tmp 5) rfl _ rfl OC _ Try.underlying50 rfl (op_size HOL.out) hco ?_)
    | (refine wpList_build (.inl rfl) 50 _ rfl (.agg zop.toArray) (by kernel_rfl) ?_; rw [← HZOE.out])
    | (refine wpList_eqTy (.inl rfl) WishT18 50 _ (.tmp 6) (.tmp 7) rfl wish_fits deep_wish guard_wish val_wish OC ZO od _ rfl rfl hod hzoh _ HZO.out ?_)
    | (refine wpList_loadG (.inr (by kernel_rfl)) 55 (.tmp 28) rfl _ rfl C _ Try.underlying55 rfl (szLamp HCL.out) hcs ?_)
    | (refine wpList_build (.inr (by kernel_rfl)) 58 _ rfl (.agg (sigC zC 0 (.slice none 0 0)).toArray) (by kernel_rfl) ?_; rw [← HZRE.out])
    | (refine wpList_field (.inr (by kernel_rfl)) 58 (.tmp 30) 0 rfl 0 1024 ZR ZC ring_field rfl hzrt ?_)
    | (refine wpList_eqTy (.inr (by kernel_rfl)) SigT 55 _ (.tmp 29) (.tmp 31) rfl sig_fits deep_sig guard_sig val_sig C ZC sg _ rfl rfl hsg hzsh _ HZS.out ?_)
    | fail)
  go_ret
  exact ⟨by simp_all [rightM], HX0.out⟩
end Go.Proofs.Ytemladlnpaaefaa

/- The law MemoWrites, of every memo. Conditions: the numbers are in their bounds. -/
import Derived.Test.YtemladlnpaaefaaMSizes2
import Derived.Test.YtemladlnpaaefaaMono2
import Derived.Test.YtemladlnpaaefaaRightC
import Derived.Test.YtemladlnpaaefaaRightDB
import Derived.Test.YtemladlnpaaefaaMBytes2
import Derived.Test.YtemladlnpaaefaaRMBytes
import Derived.Test.YtemladlnpaaefaaFrom18
import Derived.Test.YtemladlnpaaefaaMTwSame
import Derived.Test.YtemladlnpaaefaaMArgs
set_option linter.unusedVariables false
set_option linter.unusedSimpArgs false
set_option linter.unnecessarySimpa false
namespace Go.Proofs.Ytemladlnpaaefaa
section
open Go.RowKit

theorem szRMemoW {n : Nat} (h : n = 1069) : (Try.prog.info? 39).map (·.size) = some n := by subst h; kernel_rfl
theorem shared1w {Q : Prop} {A : World → Prop} (J : World → Prop) (h1 : (∀ w, J w → A w) → Q) (h2 : ∀ w, J w → A w) : Q := h1 h2
theorem srcN {w : World} {A : Option Addr} {n c : Nat} {bs : List UInt8} (h : OwnB w (.slice A n c) bs) (hn : bs.length = n) : Src w A n (bv bs) := by subst hn; exact OwnB.src h
/-- What the walk needs of the calls: IN, the memo as the document's; G: what the program's memo needs of its world. -/
structure WritesIn (w : World) (IN : List Value) (XX : Value → Value → List Value) (G G2 G3 : World → Value → Value → Prop) (bs : List UInt8) (er : Int) (rt : Bool) : Prop where
  il : IN.length = 1069
  xl : ∀ a b, (XX a b).length = 1069
  xo : ∀ W a b, G W a b → ∀ u ∈ XX a b, u.oneCell' = true
  ge : ∀ W W' a b, G W a b → Ext W W' → G W' a b
  to : ∀ W, Ext w W → Calls Try.prog 8 #[.agg IN.toArray] W fun e w' => ∃ a b, e = .returned (.agg (XX a b).toArray) ∧ G w' a b ∧ Ext W w'
  by1 : ∀ W a b, G W a b → Calls Try.prog 7 #[.agg (XX a b).toArray] W fun e w' => ∃ v, e = .returned (.tuple #[v, .int .i64 er]) ∧ OwnB w' v bs ∧ Ext W w'
  by2 : ∀ W, Ext w W → Calls Try.prog 10 #[.agg IN.toArray] W fun e w' => ∃ v, e = .returned (.tuple #[v, .int .i64 er]) ∧ OwnB w' v bs ∧ Ext W w'
  rt1 : ∀ W a b, G W a b → Calls Try.prog 9 #[.agg (XX a b).toArray] W fun e w' => e = .returned (.bool rt) ∧ Ext W w'
  rt2 : ∀ W, Ext w W → Calls Try.prog 11 #[.agg IN.toArray] W fun e w' => e = .returned (.bool rt) ∧ Ext W w'
  tw : ∀ W a b, G W a b → Calls Try.prog 14 #[.agg (XX a b).toArray] W fun e w' => ∃ c d, e = .returned (.agg (XX c d).toArray) ∧ G2 w' c d ∧ Ext W w'
  fr : ∀ W a b, G2 W a b → Calls Try.prog 13 #[.agg (XX a b).toArray] W fun e w' => ∃ c d, e = .returned (.agg (XX c d).toArray) ∧ G3 w' c d ∧ Ext W w'
  sm : ∀ W a b, Ext w W → G3 W a b → Calls Try.prog 12 #[.agg (XX a b).toArray, .agg IN.toArray] W fun e w' => e = .returned (.bool true) ∧ Ext W w'
set_option maxRecDepth 100000 in
set_option maxHeartbeats 8000000 in
theorem Writes1 (w : World) (IN : List Value) (XX : Value → Value → List Value) (G G2 G3 : World → Value → Value → Prop) (bs : List UInt8) (er : Int) (rt : Bool)
    (hli : ∀ W, Calls Try.prog 5 #[.agg IN.toArray] W fun e w' => e = .returned (.bool true) ∧ Ext W w') (hin : WritesIn w IN XX G G2 G3 bs er rt) :
    Calls Try.prog 4 #[.agg IN.toArray] w fun e w' => e = .returned (.bool true) ∧ Ext w w' := by
  have hb0 : Blk (w.alloc (.cells IN.toArray 39)) w.heap.size 39 IN := Blk.new _ _ _
  have hx0 : Ext w (w.alloc (.cells IN.toArray 39)) := (Ext.refl w).alloc _
  have hcin := hb0.cells
  obtain ⟨ZM, hzm, hzml⟩ : ∃ ZM : List Value, (Try.prog.info? 60).bind (fun i => i.zero.map (·.cells)) = some ZM.toArray ∧ ZM.length = 1069 := ⟨_, zMemo, ask_len 0 0⟩
  have HZM := Lib.hid hzml
  have HIL := Lib.hid hin.il
  have HB0 := Lib.hid hb0
  have HX0 := Lib.hid hx0
  have HLI := Lib.hid hli
  have HIN := Lib.hid hin
  clear hb0 hx0 hli hin hzml
  go_enter Try.func4, Try.ntmps4
  go_wp2_with (first
    | (refine wpList_load_agg _ rfl 39 (.tmp 1) rfl _ rfl IN _ Try.underlying39 rfl (szRMemoW HIL.out) hcin ?_)
    | (go_at_call 5; refine (HLI.out _).mono ?_; rintro e w1 ⟨rfl, hx1⟩; have hcin1 := (HB0.out.keep hx1 (by simp)).cells)
    | (refine wpList_load_agg _ rfl 39 (.tmp 1) rfl _ rfl IN _ Try.underlying39 rfl (szRMemoW HIL.out) hcin1 ?_)
    | fail)
  refine (HIN.out.to _ (HX0.out.trans hx1)).mono ?_
  rintro e w2 ⟨a, b, rfl, hg, hx2⟩
  have hxl := HIN.out.xl a b
  have hxo := HIN.out.xo _ _ _ hg
  have hr1 := fun W h => HIN.out.rt1 W a b h
  have htw := fun W h => HIN.out.tw W a b h
  have hb1 := fun W h => HIN.out.by1 W a b h
  obtain ⟨XC, hXC⟩ : ∃ XC, XC = XX a b := ⟨_, rfl⟩
  rw [← hXC] at hxl hxo hr1 htw hb1 ⊢
  have HXL := Lib.hid hxl
  have HR1 := Lib.hid hr1
  have HTW := Lib.hid htw
  have HBY := Lib.hid hb1
  have hx2b : Ext (w.alloc (.cells IN.toArray 39)) (w2.alloc (.cells XC.toArray 60)) := (hx1.trans hx2).alloc _
  have HBX0 : Hid (Blk (w2.alloc (.cells XC.toArray 60)) w2.heap.size 60 XC) := Blk.new _ _ _
  have HBI0 := Lib.hid (HB0.out.keep hx2b (by simp))
  have HG0 := Lib.hid (HIN.out.ge _ _ _ _ hg ((Ext.refl w2).alloc (.cells XC.toArray 60)))
  have HXW0 := Lib.hid (HX0.out.trans hx2b)
  clear hxl hr1 htw hb1 hXC hx1 hx2 hx2b hg hcin hcin1
  have hcx := HBX0.out.cells
  go_wp2_with (first
    | (refine wpList_alloc _ rfl 60 rfl _ hzm ?_)
    | (refine wpList_store_new _ rfl 60 (.tmp 3) (.tmp 13) rfl rfl ZM XC _ rfl (szMemo HXL.out) (by rw [HXL.out, HZM.out]) hxo ?_)
    | (refine wpList_load_agg _ rfl 60 (.tmp 3) rfl _ rfl XC _ Try.underlying60 rfl (szMemo HXL.out) hcx ?_)
    | fail)
  refine (HBY.out _ HG0.out).mono ?_
  rintro e w3 ⟨v1, rfl, ho1, hx3⟩
  obtain ⟨A1, c1, hv1⟩ := OwnB.form ho1
  obtain ⟨n, hn⟩ : ∃ n, bs.length = n := ⟨_, rfl⟩
  have HN := Lib.hid hn
  rw [hn] at hv1
  subst hv1
  have hci3 := (HBI0.out.keep hx3 (by simp)).cells
  clear hn
  go_wp2_with (first
    | (refine wpList_load_agg _ rfl 39 (.tmp 1) rfl _ rfl IN _ Try.underlying39 rfl (szRMemoW HIL.out) hci3 ?_)
    | fail)
  refine (HIN.out.by2 _ (HXW0.out.trans hx3)).mono ?_
  rintro e w4 ⟨v2, rfl, ho2, hx4⟩
  obtain ⟨A2, c2, hv2⟩ := OwnB.form ho2
  rw [HN.out] at hv2
  subst hv2
  have HO1 := Lib.hid (ho1.ext (hx4.trans (Ext.refl w4).drew))
  have HO2 := Lib.hid (ho2.ext (Ext.refl w4).drew)
  have hx34 := (hx3.trans hx4).trans (Ext.refl w4).drew
  have HBI := Lib.hid (HBI0.out.keep hx34 (by simp))
  have HBX := Lib.hid (HBX0.out.keep hx34 (by simp))
  have HG := Lib.hid (HIN.out.ge _ _ _ _ HG0.out hx34)
  have HXW := Lib.hid (HXW0.out.trans hx34)
  clear ho1 ho2 hx3 hx4 hx34 hcx hci3 HBI0 HBX0 HG0 HXW0
  go_wp2
  refine startM Since (by kernel_rfl) ?_
  have hxx : Ext w4.drew w4.drew := Ext.refl _
  generalize w4.drew = wb at *
  refine stepM 0 rfl (by kernel_rfl) rfl (fun K hK => ?_)
  go_simp
  refine (Awake18 _).mono ?_
  rintro e w' ⟨rfl, hx'⟩
  have hk := hx'
  replace hxx := hxx.trans hx'
  clear hx'
  refine hK _ _ (hk) ?_
  clear hK K
  refine takeE 1 rfl (by kernel_rfl) (by kernel_rfl) (by kernel_rfl) rfl (fun _ _ _ _ h => h) rfl (fun K hK => ?_)
  go_big_quiet_op
  first | refine hK _ ?_ | refine ⟨_, fun _ _ => rfl, hK _ ?_⟩
  clear hK K
  refine takeE 2 rfl (by kernel_rfl) (by kernel_rfl) (by kernel_rfl) rfl (fun _ _ _ _ h => h) rfl (fun K hK => ?_)
  refine quiet_agg 60 (.tmp 3) rfl _ rfl XC _ Try.underlying60 rfl (szMemo HXL.out) (fun W' h => (HBX.out.keep (hxx.trans h.ext) (by simp)).cells) ?_
  refine hK _ ?_
  simp only [Act.put, List.setIfInBounds_toArray, List.set_cons_succ, List.set_cons_zero]
  clear hK K
  refine takeE 4 rfl (by kernel_rfl) (by kernel_rfl) (by kernel_rfl) rfl (fun _ _ _ _ h => h) rfl (fun K hK => ?_)
  refine quiet_agg 39 (.tmp 1) rfl _ rfl IN _ Try.underlying39 rfl (szRMemoW HIL.out) (fun W' h => (HBI.out.keep (hxx.trans h.ext) (by simp)).cells) ?_
  refine hK _ ?_
  simp only [Act.put, List.setIfInBounds_toArray, List.set_cons_succ, List.set_cons_zero]
  clear hK K
  refine stepM 3 rfl (by kernel_rfl) rfl (fun K hK => ?_)
  go_simp
  refine (HR1.out _ (HIN.out.ge _ _ _ _ HG.out hxx)).mono ?_
  rintro e w' ⟨rfl, hx'⟩
  have hk := hx'
  replace hxx := hxx.trans hx'
  clear hx'
  refine hK _ _ (hk) ?_
  clear hK K
  refine stepM 5 rfl (by kernel_rfl) rfl (fun K hK => ?_)
  go_simp
  refine (HIN.out.rt2 _ (HXW.out.trans hxx)).mono ?_
  rintro e w' ⟨rfl, hx'⟩
  have hk := hx'
  replace hxx := hxx.trans hx'
  clear hx'
  refine hK _ _ (hk) ?_
  clear hK K
  refine takeE 6 rfl (by kernel_rfl) (by kernel_rfl) (by kernel_rfl) rfl (fun _ _ _ _ h => h) rfl (fun K hK => ?_)
  go_big_quiet_op
  first | refine hK _ ?_ | refine ⟨_, fun _ _ => rfl, hK _ ?_⟩
  clear hK K
  refine takeE 7 rfl (by kernel_rfl) (by kernel_rfl) (by kernel_rfl) rfl (fun _ _ _ _ h => h) rfl (fun K hK => ?_)
  go_big_quiet_op
  first | refine hK _ ?_ | refine ⟨_, fun _ _ => rfl, hK _ ?_⟩
  clear hK K
  refine takeE 8 rfl (by kernel_rfl) (by kernel_rfl) (by kernel_rfl) rfl (fun _ _ _ _ h => h) rfl (fun K hK => ?_)
  go_big_quiet_op
  first | refine hK _ ?_ | refine ⟨_, fun _ _ => rfl, hK _ ?_⟩
  clear hK K
  refine takeE 9 rfl (by kernel_rfl) (by kernel_rfl) (by kernel_rfl) rfl (fun _ _ _ _ h => h) rfl (fun K hK => ?_)
  go_big_quiet_op
  first | refine hK _ ?_ | refine ⟨_, fun _ _ => rfl, hK _ ?_⟩
  clear hK K
  refine takeE 10 rfl (by kernel_rfl) (by kernel_rfl) (by kernel_rfl) rfl (fun _ _ _ _ h => h) rfl (fun K hK => ?_)
  refine quiet_str 42 9 _ rfl 5 Try.underlying42 Try.underlying5 Try.underlying9 A1 n c1 bs rfl HN.out (fun W' h => srcN (HO1.out.ext (hxx.trans h.ext)) HN.out) ?_
  refine hK _ ?_
  simp only [Act.put, List.setIfInBounds_toArray, List.set_cons_succ, List.set_cons_zero]
  clear hK K
  refine takeE 11 rfl (by kernel_rfl) (by kernel_rfl) (by kernel_rfl) rfl (fun _ _ _ _ h => h) rfl (fun K hK => ?_)
  go_big_quiet_op
  first | refine hK _ ?_ | refine ⟨_, fun _ _ => rfl, hK _ ?_⟩
  clear hK K
  refine takeE 12 rfl (by kernel_rfl) (by kernel_rfl) (by kernel_rfl) rfl (fun _ _ _ _ h => h) rfl (fun K hK => ?_)
  refine quiet_str 42 9 _ rfl 5 Try.underlying42 Try.underlying5 Try.underlying9 A2 n c2 bs rfl HN.out (fun W' h => srcN (HO2.out.ext (hxx.trans h.ext)) HN.out) ?_
  refine hK _ ?_
  simp only [Act.put, List.setIfInBounds_toArray, List.set_cons_succ, List.set_cons_zero]
  clear hK K
  refine takeE 13 rfl (by kernel_rfl) (by kernel_rfl) (by kernel_rfl) rfl (fun _ _ _ _ h => h) rfl (fun K hK => ?_)
  go_big_quiet_op
  first | refine hK _ ?_ | refine ⟨_, fun _ _ => rfl, hK _ ?_⟩
  clear hK K
  refine takeE 14 rfl (by kernel_rfl) (by kernel_rfl) (by kernel_rfl) rfl (fun _ _ _ _ h => h) rfl (fun K hK => ?_)
  go_big_quiet_op
  first | refine hK _ ?_ | refine ⟨_, fun _ _ => rfl, hK _ ?_⟩
  clear hK K
  refine takeE 15 rfl (by kernel_rfl) (by kernel_rfl) (by kernel_rfl) rfl (fun _ _ _ _ h => h) rfl (fun K hK => ?_)
  go_big_quiet_op
  first | refine hK _ ?_ | refine ⟨_, fun _ _ => rfl, hK _ ?_⟩
  clear hK K
  refine takeE 16 rfl (by kernel_rfl) (by kernel_rfl) (by kernel_rfl) rfl (fun _ _ _ _ h => h) rfl (fun K hK => ?_)
  go_big_quiet_op
  first | refine hK _ ?_ | refine ⟨_, fun _ _ => rfl, hK _ ?_⟩
  clear hK K
  refine takeE 17 rfl (by kernel_rfl) (by kernel_rfl) (by kernel_rfl) rfl (fun _ _ _ _ h => h) rfl (fun K hK => ?_)
  go_big_quiet_op
  first | refine hK _ ?_ | refine ⟨_, fun _ _ => rfl, hK _ ?_⟩
  clear hK K
  refine takeE 18 rfl (by kernel_rfl) (by kernel_rfl) (by kernel_rfl) rfl (fun _ _ _ _ h => h) rfl (fun K hK => ?_)
  go_big_quiet_op
  first | refine hK _ ?_ | refine ⟨_, fun _ _ => rfl, hK _ ?_⟩
  clear hK K
  refine takeE 19 rfl (by kernel_rfl) (by kernel_rfl) (by kernel_rfl) rfl (fun _ _ _ _ h => h) rfl (fun K hK => ?_)
  go_big_quiet_op
  first | refine hK _ ?_ | refine ⟨_, fun _ _ => rfl, hK _ ?_⟩
  clear hK K
  refine takeE 20 rfl (by kernel_rfl) (by kernel_rfl) (by kernel_rfl) rfl (fun _ _ _ _ h => h) rfl (fun K hK => ?_)
  go_big_quiet_op
  first | refine hK _ ?_ | refine ⟨_, fun _ _ => rfl, hK _ ?_⟩
  clear hK K
  refine takeE 21 rfl (by kernel_rfl) (by kernel_rfl) (by kernel_rfl) rfl (fun _ _ _ _ h => h) rfl (fun K hK => ?_)
  refine quiet_agg 60 (.tmp 3) rfl _ rfl XC _ Try.underlying60 rfl (szMemo HXL.out) (fun W' h => (HBX.out.keep (hxx.trans h.ext) (by simp)).cells) ?_
  refine hK _ ?_
  simp only [Act.put, List.setIfInBounds_toArray, List.set_cons_succ, List.set_cons_zero]
  clear hK K
  refine takeE 24 rfl (by kernel_rfl) (by kernel_rfl) (by kernel_rfl) rfl (fun _ _ _ _ h => h) rfl (fun K hK => ?_)
  refine quiet_agg 39 (.tmp 1) rfl _ rfl IN _ Try.underlying39 rfl (szRMemoW HIL.out) (fun W' h => (HBI.out.keep (hxx.trans h.ext) (by simp)).cells) ?_
  refine hK _ ?_
  simp only [Act.put, List.setIfInBounds_toArray, List.set_cons_succ, List.set_cons_zero]
  clear hK K
  refine stepM 22 rfl (by kernel_rfl) rfl (fun K hK => ?_)
  go_simp
  refine (HTW.out _ (HIN.out.ge _ _ _ _ HG.out hxx)).mono ?_
  rintro e w' ⟨p2, q2, rfl, hg2, hx'⟩
  have hk := hx'
  replace hxx := hxx.trans hx'
  clear hx'
  refine hK _ _ (hk) ?_
  clear hK K
  refine stepM 23 rfl (by kernel_rfl) rfl (fun K hK => ?_)
  go_simp
  refine (HIN.out.fr _ _ _ hg2).mono ?_
  rintro e w' ⟨p3, q3, rfl, hg3, hx'⟩
  have hk := hx'
  replace hxx := hxx.trans hx'
  clear hx'
  refine hK _ _ (hk) ?_
  clear hK K
  refine stepM 25 rfl (by kernel_rfl) rfl (fun K hK => ?_)
  go_simp
  refine (HIN.out.sm _ _ _ (HXW.out.trans hxx) hg3).mono ?_
  rintro e w' ⟨rfl, hx'⟩
  have hk := hx'
  replace hxx := hxx.trans hx'
  clear hx'
  refine hK _ _ (hk) ?_
  clear hK K
  refine takeE 26 rfl (by kernel_rfl) (by kernel_rfl) (by kernel_rfl) rfl (fun _ _ _ _ h => h) rfl (fun K hK => ?_)
  go_big_quiet_op
  first | refine hK _ ?_ | refine ⟨_, fun _ _ => rfl, hK _ ?_⟩
  clear hK K
  refine takeE 27 rfl (by kernel_rfl) (by kernel_rfl) (by kernel_rfl) rfl (fun _ _ _ _ h => h) rfl (fun K hK => ?_)
  go_big_quiet_op
  first | refine hK _ ?_ | refine ⟨_, fun _ _ => rfl, hK _ ?_⟩
  clear hK K
  refine doneM (by kernel_rfl) ?_ _
  go_wp2
  go_ret
  exact ⟨rfl, HXW.out.trans hxx⟩
end
section
open Go.RowKit

theorem RightAll (M OC C : List Value) (kind : Int) (rd : Nat) (A : Option Addr) (n c : Nat) (key : Nat) (B : Option Addr) (m d : Nat) (ok sd : Int) (od : WishT18.Data) (sg : SigT.Data) (w : World) {W1 W2 : World} {F1 F2 : Fp} (hin : RightIn M OC C kind rd A n c key B m d ok sd) (hod : WishT18.holds W1 F1 OC od) (hsg : SigT.holds W2 F2 C sg) (hnl : n ≤ 140737488355328) (hml : m ≤ 140737488355328) :
    Calls Try.prog 9 #[.agg M.toArray] w fun e w' => e = .returned (.bool (rightM kind rd (WishT18.eqv od (0, 0, (0, 0, 0, List.replicate 32 0, 0, ()), 0, ())) (SigT.eqv sg (zPieces, zPieces, ())) n key m ok sd)) ∧ Ext w w' := by
  by_cases h0 : kind = 0
  · exact Right0 M OC C kind rd A n c key B m d ok sd od sg w hin hod hsg hnl hml h0
  by_cases h1 : kind = 1
  · exact Right1 M OC C kind rd A n c key B m d ok sd od sg w hin hod hsg hnl hml h1
  by_cases h2 : kind = 2
  · exact Right2 M OC C kind rd A n c key B m d ok sd od sg w hin hod hsg hnl hml h2
  exact RightX M OC C kind rd A n c key B m d ok sd od sg w hin hod hsg hnl hml h0 h1 h2
theorem RRightAll (M OC C : List Value) (kind : Int) (rd : Nat) (A : Option Addr) (n c : Nat) (key : Nat) (B : Option Addr) (m d : Nat) (ok sd : Int) (od : WishT18.Data) (sg : SigT.Data) (w : World) {W1 W2 : World} {F1 F2 : Fp} (hin : RightIn M OC C kind rd A n c key B m d ok sd) (hod : WishT18.holds W1 F1 OC od) (hsg : SigT.holds W2 F2 C sg) (hnl : n ≤ 140737488355328) (hml : m ≤ 140737488355328) :
    Calls Try.prog 11 #[.agg M.toArray] w fun e w' => e = .returned (.bool (rightM kind rd (WishT18.eqv od (0, 0, (0, 0, 0, List.replicate 32 0, 0, ()), 0, ())) (SigT.eqv sg (zPieces, zPieces, ())) n key m ok sd)) ∧ Ext w w' := by
  by_cases h0 : kind = 0
  · exact RRight0 M OC C kind rd A n c key B m d ok sd od sg w hin hod hsg hnl hml h0
  by_cases h1 : kind = 1
  · exact RRight1 M OC C kind rd A n c key B m d ok sd od sg w hin hod hsg hnl hml h1
  by_cases h2 : kind = 2
  · exact RRight2 M OC C kind rd A n c key B m d ok sd od sg w hin hod hsg hnl hml h2
  exact RRightX M OC C kind rd A n c key B m d ok sd od sg w hin hod hsg hnl hml h0 h1 h2
theorem pieces_bytes {w : World} {F : Fp} : ∀ {l : List (List UInt8)} {cs : List Value}, AllH (PieceT.holds w F) cs l → ∃ B : List UInt8, cs = bv B
  | [], _, h => ⟨[], h⟩
  | p :: l, _, h => by
    obtain ⟨c1, c2, rfl, h1, h2⟩ := h
    obtain ⟨B, rfl⟩ := pieces_bytes h2
    exact ⟨p ++ B, by rw [bv_append, AllH.bytes.1 h1.2]⟩
theorem sig_bytes {w : World} {F : Fp} {C : List Value} {sg : SigT.Data} (h : SigT.holds w F C sg) : ∃ B : List UInt8, C = bv B := by
  obtain ⟨c1, _, rfl, ⟨_, h1⟩, c2, _, rfl, ⟨_, h2⟩, rfl⟩ := h
  obtain ⟨B1, rfl⟩ := pieces_bytes h1
  obtain ⟨B2, rfl⟩ := pieces_bytes h2
  exact ⟨B1 ++ B2, by rw [bv_append, List.append_nil]⟩
/-- A memo's parts, with their bounds. -/
structure MemoIs (W : World) (F : Fp) (kind : Int) (ch rd : Nat) (o : Wish) (tr : Value) (hs : List Hp) (BB : List UInt8) (key : Nat) (u : Value) (ds : List Dg) (od : WishT18.Data) (sg : SigT.Data) : Prop where
  ok : CondOk o.c
  am : (Lit.int .u64 (o.am : Int)).wf = true
  id : (Lit.int .u64 (o.id : Int)).wf = true
  len : BB.length = 1024
  ch : (Lit.int .u32 (ch : Int)).wf = true
  rd : (Lit.int .u64 (rd : Int)).wf = true
  key : (Lit.int .u32 (key : Int)).wf = true
  hops : Hops W F tr hs
  ways : Ways W F u ds
  wish : WishT18.holds W F (wishCells o) od
  sig : SigT.holds W F (bv BB) sg
theorem memo_open2 {W : World} {F : Fp} {cs : List Value} {x : MemoT.Data} (h : MemoT.holds W F (Value.agg cs.toArray).cells.toList x) :
    ∃ (kind : Int) (ch rd : Nat) (o : Wish) (tr : Value) (hs : List Hp) (BB : List UInt8) (key : Nat) (u : Value) (ds : List Dg) (od : WishT18.Data) (sg : SigT.Data), cs = memoC kind ch rd (wishCells o) tr (sigC (bv BB) key u) ∧ MemoIs W F kind ch rd o tr hs BB key u ds od sg := by
  rw [agg_cells18] at h
  obtain ⟨kind, ch, rd, od, hs, ⟨sg, key, ds, u1⟩, u2⟩ := x
  obtain ⟨_, _, rfl, ⟨rfl, _⟩, _, _, rfl, ⟨rfl, hch⟩, _, _, rfl, ⟨rfl, hrd⟩, c1, _, rfl, ho, c2, _, rfl, hh, c3, _, rfl, hsg, rfl⟩ := h
  obtain ⟨C, _, rfl, hC, _, c4, rfl, ⟨rfl, hkey⟩, c5, _, rfl, hd, rfl⟩ := hsg
  obtain ⟨o, rfl, hok, ham, hid⟩ : ∃ o : Wish, c1 = wishCells o ∧ CondOk o.c ∧ (Lit.int .u64 (o.am : Int)).wf = true ∧ (Lit.int .u64 (o.id : Int)).wf = true := by
    obtain ⟨k, a, c, i, u⟩ := od
    obtain ⟨_, _, rfl, ⟨rfl, w1⟩, _, _, rfl, ⟨rfl, w2⟩, _, _, rfl, hc, _, _, rfl, ⟨rfl, w3⟩, rfl⟩ := ho
    obtain ⟨rfl, hok⟩ := condT_iff.1 hc
    exact ⟨⟨k, a, c, i⟩, by simp [wishCells], hok, w2, w3⟩
  obtain ⟨tr, rfl⟩ := sl_cell hh
  obtain ⟨u, rfl⟩ := sl_cell hd
  have hl := Ty.len SigT hC
  obtain ⟨BB, rfl⟩ := sig_bytes hC
  exact ⟨kind, ch, rd, o, tr, hs, BB, key, u, ds, od, sg, by simp [memoC, sigC], hok, ham, hid, by rw [bv_length] at hl; exact hl, hch, hrd, hkey, hh, hd, ho, hC⟩
set_option maxRecDepth 100000 in
set_option maxHeartbeats 4000000 in
theorem WritesLong (w : World) (IN : List Value) (hil : IN.length = 1069)
    (hli : ∀ W, Calls Try.prog 5 #[.agg IN.toArray] W fun e w' => e = .returned (.bool false) ∧ Ext W w') :
    Calls Try.prog 4 #[.agg IN.toArray] w fun e w' => e = .returned (.bool true) ∧ Ext w w' := by
  have hb0 : Blk (w.alloc (.cells IN.toArray 39)) w.heap.size 39 IN := Blk.new _ _ _
  have hx0 : Ext w (w.alloc (.cells IN.toArray 39)) := (Ext.refl w).alloc _
  have hcin := hb0.cells
  have HIL := Lib.hid hil
  have HX0 := Lib.hid hx0
  have HLI := Lib.hid hli
  clear hb0 hx0 hli hil
  go_enter Try.func4, Try.ntmps4
  go_wp2_with (first
    | (refine wpList_load_agg _ rfl 39 (.tmp 1) rfl _ rfl IN _ Try.underlying39 rfl (szRMemoW HIL.out) hcin ?_)
    | (go_at_call 5; refine (HLI.out _).mono ?_; rintro e w1 ⟨rfl, hx1⟩)
    | (go_at_call 6; refine (Awake18 _).mono ?_; rintro e w9 ⟨rfl, hx9⟩)
    | fail)
  go_ret
  exact ⟨rfl, (HX0.out.trans hx1).trans hx9⟩
section
variable {kind : Int} {ch rd : Nat} {o : Wish} {hs : List Hp} {BB : List UInt8} {key : Nat} {ds : List Dg}
theorem Wbytes {u tr : Value} {w : World} {rt : Bool} (hok : CondOk o.c) (ham : (Lit.int .u64 (o.am : Int)).wf = true) (hid : (Lit.int .u64 (o.id : Int)).wf = true) (hB : BB.length = 1024) (hkey : (Lit.int .u32 (key : Int)).wf = true)
    (hch : (Lit.int .u32 (ch : Int)).wf = true) (hrd : (Lit.int .u64 (rd : Int)).wf = true) (ht : OwnH 64 w tr hs) (hu : OwnD 90 w u ds) (hl1 : List.length (α := Hp) hs ≤ 1000) (hl2 : List.length (α := Dg) ds ≤ 1000) (hk : rt = true → kind = 0 ∨ kind = 1 ∨ kind = 2)
    (hr : ∀ W, Ext w W → Calls Try.prog 9 #[.agg (memoC kind ch rd (wishCells o) tr (sigC (bv BB) key u)).toArray] W fun e w' => e = .returned (.bool rt) ∧ Ext W w') :
    Calls Try.prog 7 #[.agg (memoC kind ch rd (wishCells o) tr (sigC (bv BB) key u)).toArray] w fun e w' => ∃ v, e = .returned (.tuple #[v, .int .i64 (if rt then 0 else 1)]) ∧ OwnB w' v (if rt then memoB kind ch rd o hs BB key ds else []) ∧ Ext w w' := by
  have hl := memoC_len (kind := kind) (ch := ch) (rd := rd) (tr := tr) (wish39 hok) (sigC_len (show (bv BB).length = 1024 by rw [bv_length]; exact hB) key u)
  cases rt
  · refine (BytesBad _ w hl hr).mono ?_
    rintro e w' ⟨rfl, hx⟩
    exact ⟨_, rfl, Own.nil _ _ _, hx⟩
  · rcases hk rfl with rfl | rfl | rfl
    · exact Bytes0 _ ch w hl rfl rfl hch hr
    · exact Bytes1 ch rd o tr hs BB key u ds w hok ham hid hB hkey hch hrd ⟨ht.holds, ht.lt⟩ ⟨hu.holds, hu.lt⟩ hl1 hl2 hr
    · exact Bytes2 ch rd o tr hs BB key u ds w hok ham hid hB hkey hch hrd ⟨ht.holds, ht.lt⟩ ⟨hu.holds, hu.lt⟩ hl1 hl2 hr
theorem Rbytes {u tr : Value} {w : World} {F : Fp} {rt : Bool} (hok : CondOk o.c) (ham : (Lit.int .u64 (o.am : Int)).wf = true) (hid : (Lit.int .u64 (o.id : Int)).wf = true) (hB : BB.length = 1024) (hkey : (Lit.int .u32 (key : Int)).wf = true)
    (hch : (Lit.int .u32 (ch : Int)).wf = true) (hrd : (Lit.int .u64 (rd : Int)).wf = true) (ht : Hops w F tr hs) (hu : Ways w F u ds) (hF : ∀ b, F b → b < w.heap.size) (hl1 : List.length (α := Hp) hs ≤ 1000) (hl2 : List.length (α := Dg) ds ≤ 1000) (hk : rt = true → kind = 0 ∨ kind = 1 ∨ kind = 2)
    (hr : ∀ W, Ext w W → Calls Try.prog 11 #[.agg (memoC kind ch rd (wishCells o) tr (sigC (bv BB) key u)).toArray] W fun e w' => e = .returned (.bool rt) ∧ Ext W w') :
    Calls Try.prog 10 #[.agg (memoC kind ch rd (wishCells o) tr (sigC (bv BB) key u)).toArray] w fun e w' => ∃ v, e = .returned (.tuple #[v, .int .i64 (if rt then 0 else 1)]) ∧ OwnB w' v (if rt then memoB kind ch rd o hs BB key ds else []) ∧ Ext w w' := by
  have hl := memoC_len (kind := kind) (ch := ch) (rd := rd) (tr := tr) (wish39 hok) (sigC_len (show (bv BB).length = 1024 by rw [bv_length]; exact hB) key u)
  cases rt
  · refine (RBytesBad _ w hl hr).mono ?_
    rintro e w' ⟨rfl, hx⟩
    exact ⟨_, rfl, Own.nil _ _ _, hx⟩
  · rcases hk rfl with rfl | rfl | rfl
    · exact RBytes0 _ ch w hl rfl rfl hch hr
    · exact RBytes1 ch rd o tr hs BB key u ds w F hok (wf_lt ham) (wf_lt hid) hB hkey hch (wf_lt hrd) ht hu hF hl1 hl2 hr
    · exact RBytes2 ch rd o tr hs BB key u ds w F hok (wf_lt ham) (wf_lt hid) hB hkey hch (wf_lt hrd) ht hu hF hl1 hl2 hr
end
theorem right_kind {kind : Int} {rd : Nat} {zo zs : Bool} {n key m : Nat} {ok sd : Int} (h : rightM kind rd zo zs n key m ok sd = true) : kind = 0 ∨ kind = 1 ∨ kind = 2 := by
  by_cases h0 : kind = 0
  · exact .inl h0
  by_cases h1 : kind = 1
  · exact .inr (.inl h1)
  by_cases h2 : kind = 2
  · exact .inr (.inr h2)
  simp [rightM, h0, h1, h2] at h
theorem WritesAll {W : World} {F : Fp} {kind : Int} {ch rd : Nat} {o : Wish} {tr : Value} {hs : List Hp} {BB : List UInt8} {key : Nat} {u : Value} {ds : List Dg} {od : WishT18.Data} {sg : SigT.Data} (hm : MemoIs W F kind ch rd o tr hs BB key u ds od sg) (hF : ∀ b, F b → b < W.heap.size) :
    Calls Try.prog 4 #[.agg (memoC kind ch rd (wishCells o) tr (sigC (bv BB) key u)).toArray] W fun e w' => e = .returned (.bool true) ∧ Ext W w' := by
  have hC : (bv BB).length = 1024 := by rw [bv_length]; exact hm.len
  have hone : ∀ u ∈ bv BB, u.oneCell' = true := bv_one BB
  have hol := wish39 hm.ok
  have hoo := wish_one o
  obtain ⟨A, c, xs, htr, hlc, hcm, _, _, _⟩ := hops_open hm.hops
  obtain ⟨B, d, ys, hu, hld, hdm, _, _, _⟩ := ways_open hm.ways
  unfold maxLen at hcm hdm
  have hin42 : (memoC kind ch rd (wishCells o) tr (sigC (bv BB) key u))[42]? = some (.slice A (List.length (α := Hp) hs) c) := by rw [← htr]; exact memoC_tr hol
  have hin1068 : (memoC kind ch rd (wishCells o) tr (sigC (bv BB) key u))[1068]? = some (.slice B (List.length (α := Dg) ds) d) := by rw [← hu]; exact (memoC_cell43 hol 1025).trans (sigC_way hC _ _)
  have hinl := memoC_len (kind := kind) (ch := ch) (rd := rd) (tr := tr) hol (sigC_len hC key u)
  have hli := fun W' => Light (memoC kind ch rd (wishCells o) tr (sigC (bv BB) key u)) A B (List.length (α := Hp) hs) c (List.length (α := Dg) ds) d W' hin42 hin1068 (by omega) (by omega)
  by_cases hl : List.length (α := Hp) hs ≤ 60 ∧ List.length (α := Dg) ds ≤ 60
  case neg =>
    have hlv : (decide (((List.length (α := Hp) hs : Nat) : Int) ≤ 60) && decide (((List.length (α := Dg) ds : Nat) : Int) ≤ 60)) = false := by
      rw [Bool.and_eq_false_iff, decide_eq_false_iff_not, decide_eq_false_iff_not]; omega
    rw [hlv] at hli
    exact WritesLong W _ hinl hli
  have hlv : (decide (((List.length (α := Hp) hs : Nat) : Int) ≤ 60) && decide (((List.length (α := Dg) ds : Nat) : Int) ≤ 60)) = true := by
    rw [Bool.and_eq_true, decide_eq_true_iff, decide_eq_true_iff]; omega
  rw [hlv] at hli
  obtain ⟨hl1, hl2⟩ := hl
  obtain ⟨rt, hrt⟩ : ∃ rt, rt = rightM kind rd (WishT18.eqv od (0, 0, (0, 0, 0, List.replicate 32 0, 0, ()), 0, ())) (SigT.eqv sg (zPieces, zPieces, ())) (List.length (α := Hp) hs) key (List.length (α := Dg) ds) o.kind o.c.2.1 := ⟨_, rfl⟩
  have hkk : rt = true → kind = 0 ∨ kind = 1 ∨ kind = 2 := fun h => right_kind (hrt.symm.trans h)
  have hR1 : ∀ W' a b, OwnH 64 W' a hs ∧ OwnD 90 W' b ds → ∀ V, Calls Try.prog 9 #[.agg (memoC kind ch rd (wishCells o) a (sigC (bv BB) key b)).toArray] V fun e w' => e = .returned (.bool rt) ∧ Ext V w' := by
    rintro W' a b ⟨ha, hb⟩ V
    obtain ⟨A2, c2, rfl⟩ := ha.2.form
    obtain ⟨B2, d2, rfl⟩ := hb.2.form
    rw [hrt]
    exact RightAll _ _ _ kind rd A2 _ c2 key B2 _ d2 o.kind o.c.2.1 od sg V (right_in kind ch rd o hm.ok (bv BB) hC key A2 B2 _ c2 _ d2) hm.wish hm.sig (by omega) (by omega)
  have hR2 : ∀ V, Calls Try.prog 11 #[.agg (memoC kind ch rd (wishCells o) tr (sigC (bv BB) key u)).toArray] V fun e w' => e = .returned (.bool rt) ∧ Ext V w' := by
    intro V
    rw [hrt, htr, hu]
    exact RRightAll _ _ _ kind rd A _ c key B _ d o.kind o.c.2.1 od sg V (right_in kind ch rd o hm.ok (bv BB) hC key A B _ c _ d) hm.wish hm.sig (by omega) (by omega)
  clear hrt
  refine Writes1 W _ (fun a b => memoC kind ch rd (wishCells o) a (sigC (bv BB) key b)) (fun W' a b => OwnH 64 W' a hs ∧ OwnD 90 W' b ds) (fun W' a b => OwnH 64 W' a hs ∧ OwnD 90 W' b ds) (fun W' a b => OwnH 80 W' a hs ∧ OwnD 24 W' b ds) (if rt then memoB kind ch rd o hs BB key ds else []) (if rt then 0 else 1) rt hli ?_
  have lift : ∀ {e1 e2 : TypeId} {W' : World} {a b : Value}, OwnH e1 W' a hs → OwnD e2 W' b ds → Hops W' (fun g => a.ownBlock = some g ∨ b.ownBlock = some g) a hs ∧ Ways W' (fun g => a.ownBlock = some g ∨ b.ownBlock = some g) b ds ∧ ∀ g, (a.ownBlock = some g ∨ b.ownBlock = some g) → g < W'.heap.size := fun ha hb =>
    ⟨Ty.keep (fun _ _ => rfl) (fun _ h => .inl h) _ ha.holds, Ty.keep (fun _ _ => rfl) (fun _ h => .inr h) _ hb.holds, fun g h => h.elim (ha.lt g) (hb.lt g)⟩
  refine ⟨hinl, fun a b => memoC_len hol (sigC_len hC key b), ?_, fun W1 W2 a b h hx => ⟨h.1.ext hx, h.2.ext hx⟩, ?_, ?_, ?_, fun W' a b h => hR1 W' a b h W', fun W' _ => hR2 W', ?_, ?_, ?_⟩
  · rintro W' a b ⟨ha, hb⟩
    obtain ⟨A2, c2, rfl⟩ := ha.2.form
    obtain ⟨B2, d2, rfl⟩ := hb.2.form
    exact memoC_one hoo (sigC_one hone _ _ _ _) rfl
  · intro V hV
    refine (To18 kind ch rd (wishCells o) tr hs (bv BB) key u ds V F hol hoo (fun W => Op12 o W hm.ok) hC hone (hV.holds hF hm.ways) (hV.holds hF hm.hops) (fun b hb => Nat.lt_of_lt_of_le (hF b hb) hV.size) (by omega) (by omega)).mono ?_
    rintro e w' ⟨a, b, rfl, h1, h2, hx, _⟩
    exact ⟨a, b, rfl, ⟨h1, h2⟩, hx⟩
  · rintro V a b ⟨ha, hb⟩
    exact Wbytes hm.ok hm.am hm.id hm.len hm.key hm.ch hm.rd ha hb (by omega) (by omega) hkk (fun W' _ => hR1 V a b ⟨ha, hb⟩ W')
  · intro V hV
    exact Rbytes hm.ok hm.am hm.id hm.len hm.key hm.ch hm.rd (hV.holds hF hm.hops) (hV.holds hF hm.ways) (fun b hb => Nat.lt_of_lt_of_le (hF b hb) hV.size) (by omega) (by omega) hkk (fun W' _ => hR2 W')
  · rintro V a b ⟨ha, hb⟩
    obtain ⟨k1, k2, k3⟩ := lift ha hb
    refine (Twin18 kind ch rd (wishCells o) a hs (bv BB) key b ds V _ hol hoo hC hone k2 k1 k3 (by omega) (by omega)).mono ?_
    rintro e w' ⟨a2, b2, rfl, h1, h2, hx⟩
    exact ⟨a2, b2, rfl, ⟨h1, h2⟩, hx⟩
  · rintro V a b ⟨ha, hb⟩
    obtain ⟨k1, k2, k3⟩ := lift ha hb
    refine (From18 kind ch rd o a hs (bv BB) key b ds V _ hm.ok hC hone k2 k1 k3 (by omega) (by omega)).mono ?_
    rintro e w' ⟨a2, b2, rfl, h1, h2, hx, _⟩
    exact ⟨a2, b2, rfl, ⟨h1, h2⟩, hx⟩
  · rintro V a b hV ⟨ha, hb⟩
    obtain ⟨k1, k2, k3⟩ := lift ha hb
    have hh := hV.holds hF hm.hops
    have hw := hV.holds hF hm.ways
    have f1 : Hops V (fun g => (a.ownBlock = some g ∨ b.ownBlock = some g) ∨ F g) a hs := Ty.keep (fun _ _ => rfl) (fun _ h => .inl h) _ k1
    have f2 : Ways V (fun g => (a.ownBlock = some g ∨ b.ownBlock = some g) ∨ F g) b ds := Ty.keep (fun _ _ => rfl) (fun _ h => .inl h) _ k2
    have f3 : Hops V (fun g => (a.ownBlock = some g ∨ b.ownBlock = some g) ∨ F g) tr hs := Ty.keep (fun _ _ => rfl) (fun _ h => .inr h) _ hh
    have f4 : Ways V (fun g => (a.ownBlock = some g ∨ b.ownBlock = some g) ∨ F g) u ds := Ty.keep (fun _ _ => rfl) (fun _ h => .inr h) _ hw
    have f5 : ∀ g, ((a.ownBlock = some g ∨ b.ownBlock = some g) ∨ F g) → g < V.heap.size := fun g h => h.elim (k3 g) (fun h => Nat.lt_of_lt_of_le (hF g h) hV.size)
    refine RSame18 kind ch rd (wishCells o) a tr hs _ _ od V _ hol hm.wish (sigC_len hC key b) (sigC_len hC key u) f1 f3 f5 (fun W' hx => ?_)
    exact RSame05 (bv BB) key b u ds sg W' _ hC hm.sig (hx.holds f5 f2) (hx.holds f5 f4) (fun g h => Nat.lt_of_lt_of_le (f5 g h) hx.size)
end
end Go.Proofs.Ytemladlnpaaefaa

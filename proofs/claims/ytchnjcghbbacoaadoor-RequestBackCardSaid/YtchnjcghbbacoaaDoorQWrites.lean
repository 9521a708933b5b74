/- The walk of the law RequestWrites. Conditions: the request's numbers are in their bounds; the turns lie in their variable. -/
import Derived.Test.YtchnjcghbbacoaaDoorQTo
import Derived.Test.YtchnjcghbbacoaaDoorQText
import Derived.Test.YtchnjcghbbacoaaDoorField
set_option linter.unusedVariables false
set_option linter.unusedSimpArgs false
set_option linter.unnecessarySimpa false
namespace Go.Proofs.YtchnjcghbbacoaaDoor
open Go.RowKit

/-- A text and an error are a request's. -/
def TextIs (rt : Bool) (B : List UInt8) (X : ByteArray) (c : Int) : Prop := (rt = false ∧ X = ⟨#[]⟩ ∧ c = 1) ∨ (rt = true ∧ c = 0 ∧ ∃ l, Fives (bitsP B) l ∧ X = ⟨(textR l).toArray⟩)
theorem TextSaid.open {rt : Bool} {B : List UInt8} {e : Ending} (h : TextSaid rt B e) : ∃ X c, e = .returned (.tuple #[.string X, .int .i64 c]) ∧ TextIs rt B X c := by
  rcases h with ⟨h, rfl⟩ | ⟨h, l, hl, rfl⟩
  · exact ⟨_, _, rfl, .inl ⟨h, rfl, rfl⟩⟩
  · exact ⟨_, _, rfl, .inr ⟨h, rfl, l, hl, rfl⟩⟩
theorem TextIs.unique {rt : Bool} {B : List UInt8} {X Y : ByteArray} {c d : Int} (h : TextIs rt B X c) (k : TextIs rt B Y d) : Y = X ∧ d = c ∧ (rt = (c == 0)) := by
  rcases h with ⟨h, rfl, rfl⟩ | ⟨h, rfl, l, hl, rfl⟩
  · rcases k with ⟨_, rfl, rfl⟩ | ⟨k, _⟩
    · exact ⟨rfl, rfl, by rw [h]; rfl⟩
    · rw [h] at k; cases k
  · rcases k with ⟨k, _⟩ | ⟨_, rfl, m, hm, rfl⟩
    · rw [h] at k; cases k
    · rw [hl.unique hm]; exact ⟨rfl, rfl, by rw [h]; rfl⟩
set_option maxRecDepth 100000 in
set_option maxHeartbeats 8000000 in
theorem QWrites (r : Rq) (w : World) (hok : RqOk r) (hg : Cells w ⟨0, 0, none⟩ turnsC) :
    Calls Tryd.prog 3 #[.agg (rqC r).toArray] w fun e w' => e = .returned (.bool true) ∧ Ext w w' := by
  have HB0 := Lib.hid (show Blk (w.alloc (.cells (rqC r).toArray 25)) w.heap.size 25 (rqC r) from Blk.new _ _ _)
  have HX0 := Lib.hid (show Ext w (w.alloc (.cells (rqC r).toArray 25)) from (Ext.refl w).alloc _)
  have h35 := (HB0.out.cell 35).trans (rqC_note hok)
  have HSZ := Lib.hid (szRqR (rqC_length hok))
  have HTO := Lib.hid (fun W => QTo r W hok)
  have HTX := Lib.hid (fun W h => QText r W hok h)
  have HRX := Lib.hid (show r.2.2.2.2.size ≤ 5000 → ∀ W, Calls Tryd.prog 8 #[.agg (rqC r).toArray] W fun e w' => TextSaid (rightR r) (bytesR r) e ∧ Ext W w' from fun h W => QRText r W hok (by omega))
  have HRg := Lib.hid (fun W => QRight r W hok)
  have hn := hok.note
  have HG := Lib.hid (show ∀ W, Ext w W → Cells W ⟨0, 0, none⟩ turnsC from fun W h => hg.keep (h.block 0 (hg.lt (by decide)) (by simp)))
  clear hok hg
  generalize rqC r = C at *
  generalize rightR r = rt at *
  generalize bytesR r = BR at *
  generalize r.2.2.2.2 = note at *
  go_enter Tryd.func3, Tryd.ntmps3
  by_cases h5 : 5000 < note.size
  · clear HRX HTX HTO HRg HSZ
    go_wp2_with fail
    refine (QAwake _ (HG.out _ HX0.out)).mono ?_
    rintro e w1 ⟨rfl, hx1⟩
    go_wp2
    go_ret
    exact ⟨rfl, HX0.out.trans hx1⟩
  have HRX := Lib.hid (HRX.out (by omega))
  have h5' : note.size ≤ 5000 := by omega
  clear h5
  go_wp2_with (first
    | ((with_reducible refine wpDst 13 rfl ?_); refine wpList_load_agg _ rfl _ _ rfl _ rfl C _ Tryd.underlying25 rfl HSZ.out HB0.out.cells ?_)
    | fail)
  refine (HTO.out _).mono ?_
  rintro e w1 ⟨rfl, hx1⟩
  have HX1 := Lib.hid (HX0.out.trans hx1)
  have HB1 := Lib.hid (HB0.out.keep hx1 (by simp))
  clear hx1 HX0 HB0 h35
  go_wp2_with fail
  refine (HTX.out _ (HG.out _ HX1.out)).mono ?_
  rintro e w2 ⟨hs2, hx2⟩
  obtain ⟨X, c, rfl, hX⟩ := TextSaid.open hs2
  have HTI := Lib.hid hX
  have HX2 := Lib.hid (HX1.out.trans hx2)
  have HB2 := Lib.hid (HB1.out.keep hx2 (by simp))
  clear hs2 hx2 hX HX1 HB1 HTX
  go_wp2_with (first
    | ((with_reducible refine wpDst 19 rfl ?_); refine wpList_load_agg _ rfl _ _ rfl _ rfl C _ Tryd.underlying25 rfl HSZ.out HB2.out.cells ?_)
    | fail)
  refine (HRX.out _).mono ?_
  rintro e w3 ⟨hs3, hx3⟩
  obtain ⟨Y, d, rfl, hY⟩ := TextSaid.open hs3
  obtain ⟨rfl, rfl, hrt⟩ := HTI.out.unique hY
  have HX3 := Lib.hid (HX2.out.trans hx3)
  have HB3 := Lib.hid (HB2.out.keep hx3 (by simp))
  have HRT := Lib.hid hrt
  clear hs3 hx3 hY HX2 HB2 HRX hrt HTI
  go_wp2_with fail
  refine (QAwake _ (HG.out _ HX3.out)).mono ?_
  rintro e w4 ⟨rfl, hx4⟩
  have HX4 := Lib.hid (HX3.out.trans hx4)
  have HB4 := Lib.hid (HB3.out.keep hx4 (by simp))
  clear hx4 HX3 HB3
  go_wp2_with (first
    | ((with_reducible refine wpDst 35 rfl ?_); go_must (refine wpList_loadG (.inr (by kernel_rfl)) _ _ rfl _ rfl C _ Tryd.underlying25 rfl HSZ.out HB4.out.cells ?_))
    | fail)
  refine (HTO.out _).mono ?_
  rintro e w5 ⟨rfl, hx5⟩
  have HX5 := Lib.hid (HX4.out.trans hx5)
  clear hx5 HX4 HB4
  go_wp2_with fail
  refine (HRg.out _).mono ?_
  rintro e w6 ⟨rfl, hx6⟩
  rw [HRT.out]
  have HX6 := Lib.hid (HX5.out.trans hx6)
  clear hx6 HX5
  go_wp2
  go_ret
  exact ⟨by simp, HX6.out⟩
end Go.Proofs.YtchnjcghbbacoaaDoor

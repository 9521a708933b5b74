/- Walk of the law's worth. Conditions: the numbers are in their bounds. -/
import Derived.Test.YtnpolfihbfdggaaPTo12
import Derived.Test.YtnpolfihbfdggaaPRef02
import Derived.Test.YtnpolfihbfdggaaPFree
set_option linter.unusedVariables false
set_option linter.unusedSimpArgs false
set_option linter.unnecessarySimpa false
namespace Go.Proofs.Ytnpolfihbfdggaa
open Go.RowKit

def worthM (s : St) (p0 p1 : Nat) (side : Int) : Nat × Bool :=
  ((sumM 0 [(freeM s p0 p1 side).1, (heldM s.cs side).1, pick2 s.t0 s.t1 side]).1, decide ((freeM s p0 p1 side).2 = 0) && (decide ((heldM s.cs side).2 = 0) && decide ((sumM 0 [(freeM s p0 p1 side).1, (heldM s.cs side).1, pick2 s.t0 s.t1 side]).2 = 0)))
theorem sumM_lt : ∀ (l : List Nat) (n : Nat), n < M64 → (sumM n l).1 < M64 := fun l n h => by
  rcases sumM_cases l n h with ⟨m, hm, e⟩ | e
  · rw [e]; exact hm
  · rw [e]; show 0 < M64; decide
theorem heldM_lt (cs : List Cd) (side : Int) : (heldM cs side).1 < M64 := sumM_lt _ _ (by decide)
theorem freeM_lt (s : St) (p0 p1 : Nat) (side : Int) : (freeM s p0 p1 side).1 < M64 := by
  unfold freeM
  split
  · split
    · split
      · rcases subL_cases [pick2 s.m0 s.m1 side, pick2 s.t0 s.t1 side, (heldM s.cs side).1] (sumM 0 [pick2 p0 p1 side, pick2 s.m1 s.m0 side]).1 (sumM_lt _ _ (by decide)) with ⟨m, hm, e⟩ | e
        · rw [e]; exact hm
        · rw [e]; show 0 < M64; decide
      · show 0 < M64; decide
    · show 0 < M64; decide
  · show 0 < M64; decide
theorem wf64 {n : Nat} (h : n < M64) : (Lit.int .u64 (n : Int)).wf = true := by unfold M64 at h; exact Go.WalkArith.wf_u64 (by omega)
theorem nums3 {w : World} {a b c : Nat} (ha : a < M64) (hb : b < M64) (hc : c < M64) (e : TypeId) :
    (Ty.sl (.nat .u64)).holds (w.alloc (.cells #[.int .u64 (a : Int), .int .u64 (b : Int), .int .u64 (c : Int)] e)) (fun b => b = w.heap.size) [.slice (some ⟨w.heap.size, 0, none⟩) 3 3] [a, b, c] :=
  sl_made (cs := [.int .u64 (a : Int), .int .u64 (b : Int), .int .u64 (c : Int)]) rfl rfl rfl (by decide) ⟨[_], _, rfl, ⟨rfl, wf64 ha⟩, [_], _, rfl, ⟨rfl, wf64 hb⟩, [_], _, rfl, ⟨rfl, wf64 hc⟩, rfl⟩
set_option maxRecDepth 100000 in
set_option maxHeartbeats 1000000 in
theorem WorthW (side : Int) (k : Nat) (hsd : side = 0 ∧ k = 4 ∨ side = 1 ∧ k = 5) (w : World) (SC PC : List Value) (fa ha tk su : Nat) (fe he se : Int) (hS : SC[k]? = some (.int .u64 (tk : Int))) (hsl : SC.length = 7) (hpl : PC.length = 2) (hfl : fa < M64) (hhl : ha < M64) (htl : tk < M64)
    (hsu : sumM 0 [fa, ha, tk] = (su, se))
    (hfr : ∀ W, Ext w W → Calls Try.prog 23 #[.agg SC.toArray, .agg PC.toArray, .int .i64 side] W fun e w' => e = .returned (numErr (fa, fe)) ∧ Ext W w')
    (hhd : ∀ W, Ext w W → Calls Try.prog 21 #[.agg SC.toArray, .int .i64 side] W fun e w' => e = .returned (numErr (ha, he)) ∧ Ext W w') :
    Calls Try.prog 19 #[.agg SC.toArray, .agg PC.toArray, .int .i64 side] w fun e w' => e = .returned (.tuple #[.int .u64 (su : Int), .bool (decide (fe = 0) && (decide (he = 0) && decide (se = 0)))]) ∧ Ext w w' := by
  have hb0 : Blk ((w.alloc (.cells SC.toArray 36)).alloc (.cells PC.toArray 24)) w.heap.size 36 SC := (Blk.new _ _ _).keep ((Ext.refl _).alloc _) (by simp)
  have hb1 : Blk ((w.alloc (.cells SC.toArray 36)).alloc (.cells PC.toArray 24)) (w.heap.size + 1) 24 PC := Blk.new_at (by simp) _ _
  have hx0 : Ext w ((w.alloc (.cells SC.toArray 36)).alloc (.cells PC.toArray 24)) := ((Ext.refl w).alloc _).alloc _
  have hcc : ∀ W, Ext ((w.alloc (.cells SC.toArray 36)).alloc (.cells PC.toArray 24)) W → W.cell? ⟨w.heap.size, k, none⟩ = some (.int .u64 (tk : Int)) := fun W h => ((hb0.keep h (by simp)).cell k).trans hS
  have hsm : ∀ (W : World) (e : TypeId), Calls Try.prog 37 #[.slice (some ⟨W.heap.size, 0, none⟩) 3 3] (W.alloc (.cells #[.int .u64 (fa : Int), .int .u64 (ha : Int), .int .u64 (tk : Int)] e)) fun e' w' => e' = .returned (.tuple #[.int .u64 (su : Int), .int .i64 se]) ∧ (W.alloc (.cells #[.int .u64 (fa : Int), .int .u64 (ha : Int), .int .u64 (tk : Int)] e)) = w' := fun W e => by
    have h := RSum _ _ _ _ (nums3 (w := W) hfl hhl htl e)
    rw [hsu] at h
    exact h
  simp only [numErr] at hfr hhd
  have hcs := hb0.cells
  have hcp := hb1.cells
  have HSL := Lib.hid hsl
  have HPL := Lib.hid hpl
  have HFR := Lib.hid hfr
  have HHD := Lib.hid hhd
  have HSM := Lib.hid hsm
  have HB0 := Lib.hid hb0
  have HX0 := Lib.hid hx0
  have HCC := Lib.hid hcc
  clear hfr hhd hsm hb0 hb1 hx0 hcc hsl hpl hS hsu
  have hband0 : bits .and .i64 0 1 = 0 := by decide +kernel
  have hband1 : bits .and .i64 1 1 = 1 := by decide +kernel
  rcases hsd with ⟨rfl, rfl⟩ | ⟨rfl, rfl⟩
  all_goals
    go_enter Try.func19, Try.ntmps19
    go_wp2_with (first
      | (refine wpList_load_agg _ rfl 36 (.tmp 3) rfl _ rfl SC _ Try.underlying36 rfl (state_size HSL.out) hcs ?_)
      | (refine wpList_load_agg _ rfl 24 (.tmp 4) rfl _ rfl PC _ Try.underlying24 rfl (by rw [HPL.out]; kernel_rfl) hcp ?_)
      | fail)
    refine (HFR.out _ HX0.out).mono ?_
    rintro e w1 ⟨rfl, hx1⟩
    have hcs1 := (HB0.out.keep hx1 (by simp)).cells
    go_wp2_with (first
      | (refine wpList_load_agg _ rfl 36 (.tmp 3) rfl _ rfl SC _ Try.underlying36 rfl (state_size HSL.out) hcs1 ?_)
      | fail)
    refine (HHD.out _ (HX0.out.trans hx1)).mono ?_
    rintro e w2 ⟨rfl, hx2⟩
    have hc4 := HCC.out w2 (hx1.trans hx2)
    clear hcs hcs1 hcp
    by_cases hf : fe = 0
    all_goals by_cases hh : he = 0
    all_goals by_cases hs : se = 0
    all_goals
      have bf : (fe == 0) = decide (fe = 0) := rfl
      have bh : (he == 0) = decide (he = 0) := rfl
      have bs : (se == 0) = decide (se = 0) := rfl
      simp only [hf, hh, hs, decide_true, decide_false, Bool.and_true, Bool.and_false, Bool.true_and, Bool.false_and] at bf bh bs ⊢
      go_wp2_with (first
        | (go_at_call 37; refine (HSM.out _ _).mono ?_; rintro e w3 ⟨rfl, rfl⟩)
        | fail)
      go_ret2
      refine ⟨?_, (HX0.out.trans (hx1.trans hx2)).alloc _⟩
      simp only [hf, hh, hs, decide_true, decide_false, Bool.and_true, Bool.and_false, Bool.true_and, Bool.false_and]
      rfl

set_option maxRecDepth 100000 in
theorem Worth (s : St) (v : Value) (p0 p1 : Nat) (side : Int) (hsd : side = 0 ∨ side = 1) (w : World) (F : Fp) (hs : StOk s) (hp0 : p0 < M64) (hp1 : p1 < M64) (hc : Conds w F v s.cs) (hF : ∀ b, F b → b < w.heap.size) (hlen : List.length (α := Cd) s.cs ≤ 4398046511104) :
    Calls Try.prog 19 #[.agg (stc s v).toArray, .agg (ptc p0 p1).toArray, .int .i64 side] w fun e w' => e = .returned (.tuple #[.int .u64 ((worthM s p0 p1 side).1 : Int), .bool (worthM s p0 p1 side).2]) ∧ Ext w w' := by
  have hfr : ∀ W, Ext w W → Calls Try.prog 23 #[.agg (stc s v).toArray, .agg (ptc p0 p1).toArray, .int .i64 side] W fun e w' => e = .returned (numErr (freeM s p0 p1 side)) ∧ Ext W w' := fun W h =>
    Free s v p0 p1 side W F hs hp0 hp1 (h.holds hF hc) (fun b hb => Nat.lt_of_lt_of_le (hF b hb) h.size) hlen
  have hhd : ∀ W, Ext w W → Calls Try.prog 21 #[.agg (stc s v).toArray, .int .i64 side] W fun e w' => e = .returned (numErr (heldM s.cs side)) ∧ Ext W w' := fun W h =>
    Held s v side W F (h.holds hF hc) (fun b hb => Nat.lt_of_lt_of_le (hF b hb) h.size) hlen
  have htl : pick2 s.t0 s.t1 side < M64 := by unfold pick2; split <;> first | exact hs.t0 | exact hs.t1
  refine WorthW side (4 + side.toNat) (by rcases hsd with rfl | rfl <;> simp) w (stc s v) (ptc p0 p1) _ _ (pick2 s.t0 s.t1 side) _ _ _ _ (by rcases hsd with rfl | rfl <;> rfl) rfl rfl (freeM_lt s p0 p1 side) (heldM_lt s.cs side) htl rfl hfr hhd
end Go.Proofs.Ytnpolfihbfdggaa

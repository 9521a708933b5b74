/- The walk of the law MemoSizes, its own code. Conditions: the numbers are in their bounds. -/
import Derived.Test.YtemladlnpaaefaaMSizes
set_option linter.unusedVariables false
set_option linter.unusedSimpArgs false
set_option linter.unnecessarySimpa false
namespace Go.Proofs.Ytemladlnpaaefaa
open Go.RowKit

theorem szRMemo {n : Nat} (h : n = 1069) : (Try.prog.info? 39).map (·.size) = some n := by subst h; kernel_rfl
theorem memoC_set0 {kind k2 : Int} {ch rd : Nat} {OC SG : List Value} {tr : Value} : (memoC kind ch rd OC tr SG).set 0 (.int .i64 k2) = memoC k2 ch rd OC tr SG := rfl
set_option maxRecDepth 100000 in
set_option maxHeartbeats 8000000 in
theorem Sizes1 (ch0 rd0 : Nat) (kind : Int) (ch rd : Nat) (o : Wish) (tr : Value) (hs : List Hp) (C : List Value) (key : Nat) (u : Value) (ds : List Dg) (od : WishT18.Data) (sg : SigT.Data) (w : World) (F : Fp) (hch0 : (Lit.int .u32 (ch0 : Int)).wf = true) (hok : CondOk o.c)
    (hC : C.length = 1024) (hone : ∀ u ∈ C, u.oneCell' = true) (hh : Hops w F tr hs) (hc : Ways w F u ds) (hF : ∀ b, F b → b < w.heap.size) {W1 W2 : World} {F1 F2 : Fp} (hod : WishT18.holds W1 F1 (wishCells o) od) (hsg : SigT.holds W2 F2 C sg) :
    Calls Try.prog 3 #[.int .u32 (ch0 : Int), .int .u64 (rd0 : Int), .agg (memoC kind ch rd (wishCells o) tr (sigC C key u)).toArray] w fun e w' => e = .returned (.bool true) ∧ Ext w w' := by
  obtain ⟨i1, z1, hi1, hz1, hi2, hi3, hi4⟩ := partsHop
  have hol := wish39 hok
  have hoo := wish_one o
  have HTO := Lib.hid (fun (W : World) (h : Ext w W) (h1 : List.length (α := Dg) ds ≤ 60) (h2 : List.length (α := Hp) hs ≤ 60) => To18 kind ch rd (wishCells o) tr hs C key u ds W F hol hoo (fun W => Op12 o W hok) hC hone (h.holds hF hc) (h.holds hF hh) (fun b hb => Nat.lt_of_lt_of_le (hF b hb) h.size) (by omega) (by omega))
  obtain ⟨A, c, xs, htr, hlc, hcm, _, _, _⟩ := hops_open hh
  obtain ⟨B, d, ys, hu, hld, hdm, _, _, _⟩ := ways_open hc
  clear hh hc
  unfold maxLen at hcm hdm
  have hin42 : (memoC kind ch rd (wishCells o) tr (sigC C key u))[42]? = some (.slice A (List.length (α := Hp) hs) c) := by rw [← htr]; exact memoC_tr hol
  have hin1068 : (memoC kind ch rd (wishCells o) tr (sigC C key u))[1068]? = some (.slice B (List.length (α := Dg) ds) d) := by rw [← hu]; exact (memoC_cell43 hol 1025).trans (sigC_way hC _ _)
  have hinl := memoC_len (kind := kind) (ch := ch) (rd := rd) (tr := tr) hol (sigC_len hC key u)
  have hli := fun W => Light (memoC kind ch rd (wishCells o) tr (sigC C key u)) A B (List.length (α := Hp) hs) c (List.length (α := Dg) ds) d W hin42 hin1068 (by omega) (by omega)
  have hto := HTO.out
  generalize memoC kind ch rd (wishCells o) tr (sigC C key u) = IN at *
  obtain ⟨n, hn⟩ : ∃ n, n = List.length (α := Hp) hs := ⟨_, rfl⟩
  obtain ⟨m, hm⟩ : ∃ m, m = List.length (α := Dg) ds := ⟨_, rfl⟩
  rw [← hn, ← hm] at hli hto
  have hb0 : Blk (w.alloc (.cells IN.toArray 39)) w.heap.size 39 IN := Blk.new _ _ _
  have hx0 : Ext w (w.alloc (.cells IN.toArray 39)) := (Ext.refl w).alloc _
  have hcin := hb0.cells
  have HB0 := Lib.hid hb0
  have HX0 := Lib.hid hx0
  have HIL := Lib.hid hinl
  have HLI := Lib.hid hli
  have HT := Lib.hid hto
  have HOL := Lib.hid hol
  have HN := Lib.hid hn
  have HM := Lib.hid hm
  clear hb0 hx0 hinl hli hto hol hin42 hin1068 HTO hn hm hlc hcm hld hdm htr hu
  by_cases hl : n ≤ 60 ∧ m ≤ 60
  case neg =>
    have hlv : (decide ((n : Int) ≤ 60) && decide ((m : Int) ≤ 60)) = false := by
      rw [Bool.and_eq_false_iff, decide_eq_false_iff_not, decide_eq_false_iff_not]; omega
    have hli := HLI.out
    rw [hlv] at hli
    go_enter Try.func3, Try.ntmps3
    go_wp2_with (first
      | (refine wpList_load_agg _ rfl 39 (.tmp 5) rfl _ rfl IN _ Try.underlying39 rfl (szRMemo HIL.out) hcin ?_)
      | (go_at_call 5; refine (hli _).mono ?_; rintro e w1 ⟨rfl, hx1⟩)
      | (go_at_call 6; refine (Awake18 _).mono ?_; rintro e w9 ⟨rfl, hx9⟩)
      | fail)
    go_ret
    exact ⟨rfl, (HX0.out.trans hx1).trans hx9⟩
  have hlv : (decide ((n : Int) ≤ 60) && decide ((m : Int) ≤ 60)) = true := by
    rw [Bool.and_eq_true, decide_eq_true_iff, decide_eq_true_iff]; omega
  have hli := HLI.out
  rw [hlv] at hli
  have hby := ask_bytes ch0 hch0
  have hlb : ([(0 : UInt8)] ++ be 4 ch0).length = 5 := by simp [be_length]
  have hra := ask_right ch0 rd0
  have hal := ask_len ch0 rd0
  have hao := ask_one ch0 rd0
  obtain ⟨M1, hM1⟩ : ∃ M, M = askC ch0 0 := ⟨_, rfl⟩
  obtain ⟨M2, hM2⟩ : ∃ M, M = askC ch0 rd0 := ⟨_, rfl⟩
  rw [← hM1] at hby
  rw [← hM2] at hra hal hao
  have HM1 := Lib.hid hM1
  have HM2 := Lib.hid hM2
  have HBY := Lib.hid hby
  have HRA := Lib.hid hra
  have HAL := Lib.hid hal
  have HLB := Lib.hid hlb
  obtain ⟨ZM, hzm, hzml⟩ : ∃ ZM : List Value, (Try.prog.info? 60).bind (fun i => i.zero.map (·.cells)) = some ZM.toArray ∧ ZM.length = 1069 := ⟨_, zMemo, ask_len 0 0⟩
  have HZM := Lib.hid hzml
  clear hM1 hM2 hby hra hal hlb hzml hlv
  go_enter Try.func3, Try.ntmps3
  go_wp2_with (first
    | (refine wpList_load_agg _ rfl 39 (.tmp 5) rfl _ rfl IN _ Try.underlying39 rfl (szRMemo HIL.out) hcin ?_)
    | (go_at_call 5; refine (hli _).mono ?_; rintro e w1 ⟨rfl, hx1⟩)
    | (refine wpList_build (.inl rfl) 60 _ rfl (.agg (askC ch0 0).toArray) (by kernel_rfl) ?_; rw [← HM1.out])
    | fail)
  refine (HBY.out _).mono ?_
  rintro e w2 ⟨v1, rfl, ho1, hx2⟩
  obtain ⟨A1, c1, hv1⟩ := Own.form ho1
  rw [HLB.out] at hv1
  subst hv1
  have hx2' := (HX0.out.trans hx1).trans hx2
  have hcin2 := (((HB0.out.keep hx1 (by simp)).keep hx2 (by simp)).keep ((Ext.refl w2).alloc (.cells M2.toArray 60)) (by simp)).cells
  have hbm : Blk (w2.alloc (.cells M2.toArray 60)) w2.heap.size 60 M2 := Blk.new _ _ _
  have hxm : Ext w (w2.alloc (.cells M2.toArray 60)) := hx2'.alloc _
  have hgm : w.heap.size < w2.heap.size := by have h1 := HB0.out.lt; have h2 := hx1.size; have h3 := hx2.size; omega
  have HBM := Lib.hid hbm
  have HXM := Lib.hid hxm
  clear hcin hx2' hx1 hx2 ho1 hbm hxm
  go_wp2_with (first
    | (refine wpList_build (.inl rfl) 60 _ rfl (.agg (askC ch0 rd0).toArray) (by kernel_rfl) ?_; rw [← HM2.out])
    | (refine wpList_alloc _ rfl 60 rfl _ hzm ?_)
    | (refine wpList_store_new _ rfl 60 (.tmp 9) (.tmp 25) rfl rfl ZM M2 _ rfl (szMemo HAL.out) (by rw [HAL.out, HZM.out]) hao ?_)
    | (refine wpList_load_agg _ rfl 39 (.tmp 5) rfl _ rfl IN _ Try.underlying39 rfl (szRMemo HIL.out) hcin2 ?_)
    | fail)
  refine (HT.out _ HXM.out (by omega) (by omega)).mono ?_
  rintro e w3 ⟨tr', v, rfl, hot, hov, hx3, hft, hfv⟩
  have hbm3 := HBM.out.keep hx3 (by simp)
  have hgm3 := hbm3.lt
  have hx3' := HXM.out.trans hx3
  obtain ⟨A3, c3, htr3⟩ := hot.2.form
  obtain ⟨A4, c4, hv4⟩ := hov.2.form
  have hmv := hov.holds
  obtain ⟨_, d4, _, hv5, hl5, hm5, _, _, _⟩ := ways_open hmv
  have hyl := memoC_len (kind := kind) (ch := ch) (rd := rd) (tr := tr') HOL.out (sigC_len hC key v)
  have hyo : ∀ u ∈ memoC kind ch rd (wishCells o) tr' (sigC C key v), u.oneCell' = true := by rw [htr3, hv4]; exact memoC_one hoo (sigC_one hone _ _ _ _) rfl
  have hyt : (memoC kind ch rd (wishCells o) tr' (sigC C key v))[42]? = some tr' := memoC_tr HOL.out
  have hy0 : (memoC kind ch rd (wishCells o) tr' (sigC C key v))[0]? = some (.int .i64 kind) := rfl
  have hys : ∀ x, ((memoC kind ch rd (wishCells o) tr' (sigC C key v)).set 0 (.int .i64 2)).set 42 x = memoC 2 ch rd (wishCells o) x (sigC C key v) := fun x => by rw [memoC_set0, memoC_set HOL.out]
  generalize memoC kind ch rd (wishCells o) tr' (sigC C key v) = Y at *
  have hby3 : Blk (w3.alloc (.cells Y.toArray 60)) w3.heap.size 60 Y := Blk.new _ _ _
  have hct : (w3.alloc (.cells Y.toArray 60)).cell? ⟨w3.heap.size, 42, none⟩ = some tr' := (hby3.cell 42).trans hyt
  obtain ⟨D, hDE⟩ : ∃ D, D = hopC (0, 0, 0, ()) := ⟨_, rfl⟩
  have hone3 : ∀ u ∈ D, u.oneCell' = true := by rw [hDE]; exact hopC_one _
  have hDl : D.length = 3 := by rw [hDE]; rfl
  have hxa : Ext w3 ((w3.alloc (.cells Y.toArray 60)).alloc (.cells D.toArray 64)) := ((Ext.refl w3).alloc _).alloc _
  have how : Own w3 64 3 tr' n (hs.flatMap hopC) := by have h := hot.2; rw [← HN.out] at h; exact h
  have hbyx : Blk ((w3.alloc (.cells Y.toArray 60)).alloc (.cells D.toArray 64)) w3.heap.size 60 Y := hby3.keep ((Ext.refl _).alloc _) (by simp)
  have hbmx : Blk ((w3.alloc (.cells Y.toArray 60)).alloc (.cells D.toArray 64)) w2.heap.size 60 M2 := hbm3.keep hxa (by simp)
  have hft3 : ∀ b, tr'.ownBlock = some b → w2.heap.size + 1 ≤ b ∧ b < w3.heap.size := fun b hb => ⟨by have h := (hft b hb).1; simpa using h, hot.lt b hb⟩
  have HDL := Lib.hid hDl
  have HDE := Lib.hid hDE
  have HYL := Lib.hid hyl
  have HYS := Lib.hid hys
  have HY0 := Lib.hid hy0
  have HYT := Lib.hid hyt
  have HXA := Lib.hid hxa
  have HOW := Lib.hid how
  have HBY3 := Lib.hid hbyx
  have HBM3 := Lib.hid hbmx
  have HFT := Lib.hid hft3
  have HX3 := Lib.hid hx3'
  have HV4 := Lib.hid hv4
  have HMB : Hid (List.length (α := Dg) ds ≤ 60) := by have := HM.out; exact Lib.hid (by omega)
  clear hDl hDE hyl hys hy0 hyt hxa how hbyx hbmx hft3 hx3' hv4 hot hft hfv hbm3 hby3 hx3 htr3 hmv hv5 hl5 hm5 hcin2
  have hn60 : n ≤ 60 := hl.1
  go_wp2_with (first
    | (refine wpList_alloc _ rfl 60 rfl _ hzm ?_)
    | (refine wpList_store_new _ rfl 60 (.tmp 10) (.tmp 27) rfl rfl ZM Y _ rfl (szMemo HYL.out) (by rw [HYL.out, HZM.out]) hyo ?_)
    | (refine wpList_build (.inl rfl) 64 _ rfl (.agg (hopC (0, 0, 0, ())).toArray) (by kernel_rfl) ?_; rw [← HDE.out])
    | (refine wpList_one _ rfl 51 (.tmp 30) rfl 64 D Try.underlying51 rfl (szHb HDL.out) zHb (by rw [HDL.out]; decide) (by rw [HDL.out]; decide) ?_)
    | (at_builtin
       go_must (refine wpList_app _ rfl (.tmp 29) (.tmp 31) _ _ rfl 64 64 i1 z1 3 24 Try.underlying51 Try.underlying51 hi1 hz1 hi2 hi3 hi4 (by decide) tr' _ _ rfl (HOW.out.ext HXA.out) _ 1 1 D rfl (by rw [HDL.out]) (src_at rfl D _ 1) hone3 (by unfold maxLen; omega) (by omega) ?_)
       intro v7 w7 ho7 hm7
       obtain ⟨A7, c7, hv7⟩ := Own.form ho7
       subst hv7
       have hne1 : some w3.heap.size ≠ tr'.ownBlock := fun e => by have := (HFT.out _ e.symm).2; omega
       have hne2 : some w2.heap.size ≠ tr'.ownBlock := fun e => by have := (HFT.out _ e.symm).1; omega
       have HB7 := Lib.hid (HBY3.out.keep hm7.grown hne1)
       have s0 : w7.cell? ⟨w3.heap.size, 0, none⟩ = some (.int .i64 kind) := (HB7.out.cell 0).trans HY0.out
       have f0 : w7.frozen? ⟨w3.heap.size, 0, none⟩ = false := HB7.out.free 0
       have HB8 := Lib.hid (HB7.out.set 0 (.int .i64 2))
       have s42 : (w7.setCell ⟨w3.heap.size, 0, none⟩ (.int .i64 2)).cell? ⟨w3.heap.size, 42, none⟩ = some tr' := (HB8.out.cell 42).trans (by rw [List.getElem?_set_ne (by omega)]; exact HYT.out)
       have f42 : (w7.setCell ⟨w3.heap.size, 0, none⟩ (.int .i64 2)).frozen? ⟨w3.heap.size, 42, none⟩ = false := HB8.out.free 42
       have hb9 := HB8.out.set 42 (Value.slice A7 (n + 1) c7)
       rw [HYS.out] at hb9
       have hxm7 : w3.grownBy w7 tr'.ownBlock := grown_then (HXA.out.any _) hm7.grown (.inl rfl)
       have hx7 : Ext w w7 := grown_then HX3.out hxm7 (.inr fun b hb => by have := (HFT.out b hb).1; omega)
       have hbm9 : Blk ((w7.setCell ⟨w3.heap.size, 0, none⟩ (.int .i64 2)).setCell ⟨w3.heap.size, 42, none⟩ (Value.slice A7 (n + 1) c7)) w2.heap.size 60 M2 := ((HBM3.out.keep hm7.grown hne2).keep (only_set 0 _) (by simp; omega)).keep (only_set 42 _) (by simp; omega)
       have hx9 : Ext w ((w7.setCell ⟨w3.heap.size, 0, none⟩ (.int .i64 2)).setCell ⟨w3.heap.size, 42, none⟩ (Value.slice A7 (n + 1) c7)) := grown_then (grown_then hx7 (only_set 0 _) (.inr (by rintro b ⟨⟩; omega))) (only_set 42 _) (.inr (by rintro b ⟨⟩; omega))
       have hr9 := fun W => agree_right ch rd o hok C hC key A7 A4 (n + 1) c7 (List.length (α := Dg) ds) c4 (by omega) (by omega) (by have := HMB.out; omega) od sg hod hsg W
       rw [← HV4.out] at hr9
       have hl9 := memoC_len (kind := 2) (ch := ch) (rd := rd) (tr := Value.slice A7 (n + 1) c7) HOL.out (sigC_len hC key v)
       generalize memoC 2 ch rd (wishCells o) (Value.slice A7 (n + 1) c7) (sigC C key v) = Y2 at *
       have hcy := hb9.cells
       have HL9 := Lib.hid hl9
       have HBB := Lib.hid (fun W => BytesBad Y2 W hl9 (fun W' _ => hr9 W'))
       have HBM9 := Lib.hid hbm9
       have HX9 := Lib.hid hx9
       clear hb9 hxm7 hx7 hbm9 hx9 hr9 hl9)
    | (refine wpList_load_agg _ rfl 60 (.tmp 10) rfl _ rfl Y2 _ Try.underlying60 rfl (szMemo HL9.out) hcy ?_)
    | fail)
  refine (HBB.out _).mono ?_
  rintro e w10 ⟨rfl, hx10⟩
  have hbm10 := HBM9.out.keep hx10 (by simp)
  have HX10 := Lib.hid (HX9.out.trans hx10)
  go_wp2_with (first
    | (go_at_call 6; refine (Awake18 _).mono ?_; rintro e w11 ⟨rfl, hx11⟩; have hcm11 := (hbm10.keep hx11 (by simp)).cells)
    | (refine wpList_loadG (.inr (by kernel_rfl)) 60 (.tmp 9) rfl _ rfl M2 _ Try.underlying60 rfl (szMemo HAL.out) hcm11 ?_)
    | (go_at_call 9; refine (HRA.out _).mono ?_; rintro e w12 ⟨rfl, hx12⟩)
    | fail)
  go_ret
  exact ⟨by simp, (HX10.out.trans hx11).trans hx12⟩
end Go.Proofs.Ytemladlnpaaefaa

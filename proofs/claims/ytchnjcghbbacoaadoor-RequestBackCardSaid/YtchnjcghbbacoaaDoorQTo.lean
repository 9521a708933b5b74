/- The walks of law 25's to and awake. Conditions: the request's numbers are in their bounds; the turns lie in their variable. -/
import Derived.Test.YtchnjcghbbacoaaDoorQParse
import Derived.Test.YtchnjcghbbacoaaDoorQRText
set_option linter.unusedVariables false
set_option linter.unusedSimpArgs false
set_option linter.unnecessarySimpa false
namespace Go.Proofs.YtchnjcghbbacoaaDoor
open Go.RowKit

theorem szArr {n : Nat} (h : n = 32) : (Tryd.prog.info? 23).map (·.size) = some n := by subst h; kernel_rfl
set_option maxRecDepth 100000 in
set_option maxHeartbeats 4000000 in
theorem QTo (r : Rq) (w : World) (hok : RqOk r) : Calls Tryd.prog 6 #[.agg (rqC r).toArray] w fun e w' => e = .returned (.agg (rqC r).toArray) ∧ Ext w w' := by
  obtain ⟨fields, hfu, hfp⟩ := rq_fields
  have HF := Lib.hid (show fillL ([(0, 1), (1, 1), (2, 1), (3, 32), (35, 1)].toArray[·]?) (rqC zR) [(0, [Value.int .u8 (r.1.toNat : Int)]), (1, [Value.int .u64 (r.2.1 : Int)]), (2, [Value.int .u64 (r.2.2.1 : Int)]), (3, bv r.2.2.2.1), (4, [Value.string r.2.2.2.2])] = some (rqC r) by
    have h : ∀ (a b c : Value) (d : List Value) (e : Value), d.length = 32 → fillL ([(0, 1), (1, 1), (2, 1), (3, 32), (35, 1)].toArray[·]?) (rqC zR) [(0, [a]), (1, [b]), (2, [c]), (3, d), (4, [e])] = some (a :: b :: c :: (d ++ [e])) := by
      intro a b c d e hd
      simp [fillL, hd, rqC, zR, List.take_left', List.drop_left']
    exact h _ _ _ _ _ (by rw [bv_length, hok.hash]))
  have hzr := zR_zero
  have HZO := Lib.hid (rqC_one zR)
  have HZL := Lib.hid (rqC_length zR_ok)
  obtain ⟨ZR, hZR⟩ : ∃ ZR, ZR = rqC zR := ⟨_, rfl⟩
  rw [← hZR] at hzr HZO HZL HF
  clear hZR
  have HHL := Lib.hid hok.hash
  have HCL := Lib.hid (rqC_length hok)
  have HCO := Lib.hid (rqC_one r)
  have hb1 : Blk ((w.alloc (.cells (rqC r).toArray 25)).alloc (.cells ZR.toArray 31)) w.heap.size 25 (rqC r) := (Blk.new w _ (rqC r)).keep ((Ext.refl _).alloc _) (by simp)
  have hb2 : Blk ((w.alloc (.cells (rqC r).toArray 25)).alloc (.cells ZR.toArray 31)) (w.heap.size + 1) 31 ZR := Blk.fresh (by simp) _ _
  have hx : Ext w ((w.alloc (.cells (rqC r).toArray 25)).alloc (.cells ZR.toArray 31)) := ((Ext.refl w).alloc _).alloc _
  have c0 := (hb1.cell 0).trans (show (rqC r)[0]? = some (.int .u8 (r.1.toNat : Int)) from rfl)
  have c1 := (hb1.cell 1).trans (show (rqC r)[1]? = some (.int .u64 (r.2.1 : Int)) from rfl)
  have c2 := (hb1.cell 2).trans (show (rqC r)[2]? = some (.int .u64 (r.2.2.1 : Int)) from rfl)
  have c35 := (hb1.cell 35).trans (rqC_note hok)
  have hch : Cells ((w.alloc (.cells (rqC r).toArray 25)).alloc (.cells ZR.toArray 31)) ⟨w.heap.size, 3, none⟩ (bv r.2.2.2.1) := by
    have h := (hb1.cells.drop 3).take 32
    rw [rqC_hash hok, addr_atQ] at h
    exact h
  have HCH := Lib.hid hch
  have HB2 := Lib.hid hb2
  have HX := Lib.hid hx
  clear hb1 hb2 hx hch hok
  obtain ⟨C, hC⟩ : ∃ C, C = rqC r := ⟨_, rfl⟩
  rw [← hC] at HF HCL HCO c0 c1 c2 c35 HCH HB2 HX ⊢
  clear hC
  obtain ⟨to, am, ex, hash, note⟩ := r
  dsimp only at *
  go_enter Tryd.func6, Tryd.ntmps6
  go_wp2_with (first
    | ((with_reducible refine wpDst 2 rfl ?_); refine wpList_alloc _ rfl 31 rfl _ hzr ?_)
    | ((with_reducible refine wpDst 10 rfl ?_); refine wpList_load_agg _ rfl 23 (.tmp 9) rfl _ rfl (bv hash) _ Tryd.underlying23 rfl (szArr (by rw [bv_length]; exact HHL.out)) HCH.out ?_)
    | ((with_reducible refine wpDst 13 rfl ?_); go_must (refine wpList_build_st (.inl rfl) 31 #[(0, .tmp 4), (1, .tmp 6), (2, .tmp 8), (3, .tmp 10), (4, .tmp 12)] rfl fields ZR C _ [(0, [Value.int .u8 (to.toNat : Int)]), (1, [Value.int .u64 (am : Int)]), (2, [Value.int .u64 (ex : Int)]), (3, bv hash), (4, [Value.string note])] hfu hzr hfp (by simp [Act.eval, Value.cells]) HF.out ?_))
    | ((with_reducible refine wpSto 2 13 rfl ?_); refine wpList_store_row _ rfl 31 (.tmp 2) (.tmp 13) rfl (w.heap.size + 1) (by first | rfl | simp [Act.eval, Act.put]) ZR C 31 rfl (by exact HB2.out) (szRq HCL.out) (by rw [HCL.out, HZL.out]) HCO.out ?_)
    | fail)
  have hc9 := Blk.cells (t := 31) (setRow_at (cs' := C.toArray) HB2.out)
  (try simp only [Exit.inBlock, Exit.then])
  refine bodyPost_ret (results_agg rfl _ _ _ _ _ rfl Tryd.underlying31 rfl (szRq HCL.out) hc9) rfl ?_
  exact ⟨rfl, setRow_grownQ HX.out _ _ (by omega)⟩
theorem parsed_toll1 {r : Rq} {x : Int} (h : Parsed headK r x) : x = 9 := by
  have hl : ∀ l : List Nat, headK = headK ++ l.map letter → l = [] := fun l e => by
    have := congrArg List.length e
    rw [List.length_append, List.length_map] at this
    exact List.length_eq_zero_iff.1 (by omega)
  cases h with
  | limit h => exact absurd h (by decide)
  | word _ h => exact absurd h (by decide)
  | form body b _ e hb _ =>
    have := congrArg List.length e
    rw [List.length_append] at this
    obtain rfl := List.length_eq_zero_iff.1 (show body.length = 0 by omega)
    cases hb
  | short => rfl
  | sign l _ e _ h6 _ => obtain rfl := hl l e; exact absurd h6 (by decide)
  | odd l p _ e _ h6 _ _ => obtain rfl := hl l e; exact absurd h6 (by decide)
  | tail l p _ e _ h6 _ _ => obtain rfl := hl l e; exact absurd h6 (by decide)
theorem parsed_toll2 {r : Rq} {x : Int} (h : Parsed [116, 111, 108, 108, 50] r x) : x = 40 := by
  have hl : ∀ l : List UInt8, [116, 111, 108, 108, 50] ≠ headK ++ l := fun l e => by
    have := congrArg (List.take 5) e
    rw [show List.take 5 (headK ++ l) = headK from List.take_left' rfl] at this
    exact absurd this (by decide)
  cases h with
  | limit h => exact absurd h (by decide)
  | word => rfl
  | form body b _ e => exact absurd e (hl _)
  | short l _ e => exact absurd e (hl _)
  | sign l _ e => exact absurd e (hl _)
  | odd l p _ e => exact absurd e (hl _)
  | tail l p _ e => exact absurd e (hl _)
set_option maxRecDepth 100000 in
set_option maxHeartbeats 4000000 in
theorem QAwake (w : World) (hg : Cells w ⟨0, 0, none⟩ turnsC) : Calls Tryd.prog 5 #[] w fun e w' => e = .returned (.bool true) ∧ Ext w w' := by
  have hzr := zR_zero
  have HZL := Lib.hid (rqC_length zR_ok)
  obtain ⟨ZR, hZR⟩ : ∃ ZR, ZR = rqC zR := ⟨_, rfl⟩
  rw [← hZR] at hzr HZL
  clear hZR
  have HG := Lib.hid hg
  clear hg
  go_enter Tryd.func5, Tryd.ntmps5
  go_wp2_with fail
  refine (QParse _ _ (by decide) HG.out).mono ?_
  rintro e w1 ⟨r1, x1, rfl, hp1, hok1, hx1⟩
  obtain rfl := parsed_toll1 hp1
  have HL1 := Lib.hid (rqC_length hok1)
  have HO1 := Lib.hid (rqC_one r1)
  have HX1 := Lib.hid hx1
  generalize rqC r1 = C1 at *
  clear hp1 hok1 hx1
  go_wp2_with (first
    | ((with_reducible refine wpDst 1 rfl ?_); refine wpList_alloc _ rfl 31 rfl _ hzr ?_)
    | ((with_reducible refine wpSto 1 7 rfl ?_); refine wpList_storeN rfl 31 (.tmp 1) (.tmp 7) rfl w1 rfl ZR C1 31 rfl rfl (szRq HL1.out) (by rw [HL1.out, HZL.out]) HO1.out ?_)
    | fail)
  have HX2 := Lib.hid (Ext.alloc HX1.out (.cells C1.toArray 31))
  refine (QParse _ _ (by decide) (HG.out.keep (HX2.out.block 0 (HG.out.lt (by decide)) (by simp)))).mono ?_
  rintro e w2 ⟨r2, x2, rfl, hp2, hok2, hx2⟩
  obtain rfl := parsed_toll2 hp2
  have HL2 := Lib.hid (rqC_length hok2)
  have HO2 := Lib.hid (rqC_one r2)
  have HX3 := Lib.hid (HX2.out.trans hx2)
  generalize rqC r2 = C2 at *
  clear hp2 hok2 hx2 HX1 HX2
  go_wp2_with (first
    | ((with_reducible refine wpDst 3 rfl ?_); refine wpList_alloc _ rfl 31 rfl _ hzr ?_)
    | ((with_reducible refine wpSto 3 11 rfl ?_); refine wpList_storeN rfl 31 (.tmp 3) (.tmp 11) rfl w2 rfl ZR C2 31 rfl rfl (szRq HL2.out) (by rw [HL2.out, HZL.out]) HO2.out ?_)
    | fail)
  go_ret
  exact ⟨rfl, Ext.alloc HX3.out _⟩
end Go.Proofs.YtchnjcghbbacoaaDoor

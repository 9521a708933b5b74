/- Walk of the pact's Sound. Conditions: the state's numbers and what was put in are in their bounds. -/
import Derived.Test.YtnpolfihbfdggaaPFree
set_option linter.unusedVariables false
set_option linter.unusedSimpArgs false
set_option linter.unnecessarySimpa false
namespace Go.Proofs.Ytnpolfihbfdggaa
open Go.RowKit

/-- A state's cells. -/
def stc (s : St) (v : Value) : List Value := [.int .u32 (s.chan : Int), .int .u64 (s.round : Int), .int .u64 (s.m0 : Int), .int .u64 (s.m1 : Int), .int .u64 (s.t0 : Int), .int .u64 (s.t1 : Int), v]
theorem Blk.new_at {w : World} {G : Nat} (hG : w.heap.size = G) (t : TypeId) (cs : List Value) : Blk (w.alloc (.cells cs.toArray t)) G t cs := by subst hG; exact Blk.new w t cs
def ptc (p0 p1 : Nat) : List Value := [.int .u64 (p0 : Int), .int .u64 (p1 : Int)]
theorem freeM_cases (s : St) (p0 p1 : Nat) (side : Int) (hs : side = 0 ∨ side = 1) : (∃ m, m < M64 ∧ freeM s p0 p1 side = (m, 0)) ∨ freeM s p0 p1 side = (0, 11) ∨ freeM s p0 p1 side = (0, 12) := by
  unfold freeM
  rw [if_pos hs]
  unfold heldM
  rcases sumM_cases (ams s.cs side) 0 (by unfold M64; omega) with ⟨h, hh, e1⟩ | e1
  · rw [e1, if_pos rfl]
    rcases sumM_cases [pick2 p0 p1 side, pick2 s.m1 s.m0 side] 0 (by unfold M64; omega) with ⟨m, hm, e2⟩ | e2
    · rw [e2, if_pos rfl]
      rcases subL_cases [pick2 s.m0 s.m1 side, pick2 s.t0 s.t1 side, h] m hm with ⟨x, hx, e3⟩ | e3
      · exact .inl ⟨x, hx, e3⟩
      · exact .inr (.inr e3)
    · rw [e2, if_neg (by decide)]; exact .inr (.inl rfl)
  · rw [e1, if_neg (by decide)]; exact .inr (.inl rfl)
theorem bad_step (cs : List Cd) (k : Nat) (h : k < cs.length) : badM cs k (cs.drop k) = if (cs[k].2.1 ≠ 0 ∧ cs[k].2.1 ≠ 1) ∨ cs[k].2.2.1 = 0 then 1 else if findM cs cs[k].1 ≠ k then 7 else badM cs (k + 1) (cs.drop (k + 1)) := by
  rw [List.drop_eq_getElem_cons h, badM]
set_option maxRecDepth 100000 in
set_option maxHeartbeats 2000000 in
theorem Sound (s : St) (v : Value) (p0 p1 : Nat) (w : World) (F : Fp) (hs : StOk s) (hp0 : p0 < M64) (hp1 : p1 < M64) (hc : Conds w F v s.cs) (hF : ∀ b, F b → b < w.heap.size) (hlen : s.cs.length ≤ 4398046511104) :
    Calls Try.prog 25 #[stv s v, .agg #[.int .u64 (p0 : Int), .int .u64 (p1 : Int)]] w fun e w' => e = .returned (.int .i64 (soundM s p0 p1)) ∧ Ext w w' := by
  have hc0 := hc
  obtain ⟨cs, hcs⟩ : ∃ cs, cs = s.cs := ⟨_, rfl⟩
  have hlen2 := hlen
  rw [← hcs] at hc hlen2
  obtain ⟨A, c, xs, rfl, hlc, hcm, hA, hcell, hall⟩ := conds_open hc
  clear hc
  unfold maxLen at hcm
  have hrb := hs.round
  unfold M64 at hrb
  have HCS := Lib.hid hcs
  have HC0 := Lib.hid hc0
  clear hcs hc0 hlen
  by_cases hbig : 200 < s.round ∨ 8 < s.cs.length
  · have e : soundM s p0 p1 = 8 := by unfold soundM; rw [if_pos hbig]
    rw [e]
    rw [← HCS.out] at hbig
    clear e
    by_cases h1 : 200 < s.round
    · clear hbig
      go_enter Try.func25, Try.ntmps25
      go_wp2
      go_ret
      exact ⟨rfl, ((Ext.refl w).alloc _).alloc _⟩
    · have h2 : 8 < cs.length := by omega
      have d1 : decide (200 < (s.round : Int)) = false := by simp; omega
      clear hbig h1
      go_enter Try.func25, Try.ntmps25
      go_wp2
      go_ret
      exact ⟨rfl, ((Ext.refl w).alloc _).alloc _⟩
  · have e : soundM s p0 p1 = if badM cs 0 cs ≠ 0 then badM cs 0 cs else if (freeM s p0 p1 0).2 ≠ 0 then (freeM s p0 p1 0).2 else (freeM s p0 p1 1).2 := by unfold soundM; rw [if_neg hbig, HCS.out]
    rw [e]
    have hr2 : s.round ≤ 200 := by omega
    have hl8 : cs.length ≤ 8 := by rw [HCS.out]; omega
    obtain ⟨res, hres⟩ : ∃ res, res = if badM cs 0 cs ≠ 0 then badM cs 0 cs else if (freeM s p0 p1 0).2 ≠ 0 then (freeM s p0 p1 0).2 else (freeM s p0 p1 1).2 := ⟨_, rfl⟩
    rw [← hres]
    have hf0 := freeM_cases s p0 p1 0 (by simp)
    have hf1 := freeM_cases s p0 p1 1 (by simp)
    have HRES := Lib.hid hres
    have HF0 := Lib.hid hf0
    have HF1 := Lib.hid hf1
    have hx0 : Ext w ((w.alloc (.cells #[.int .u32 (s.chan : Int), .int .u64 (s.round : Int), .int .u64 (s.m0 : Int), .int .u64 (s.m1 : Int), .int .u64 (s.t0 : Int), .int .u64 (s.t1 : Int), .slice A cs.length c] 36)).alloc (.cells #[.int .u64 (p0 : Int), .int .u64 (p1 : Int)] 24)) := ((Ext.refl w).alloc _).alloc _
    have hbS : Blk ((w.alloc (.cells #[.int .u32 (s.chan : Int), .int .u64 (s.round : Int), .int .u64 (s.m0 : Int), .int .u64 (s.m1 : Int), .int .u64 (s.t0 : Int), .int .u64 (s.t1 : Int), .slice A cs.length c] 36)).alloc (.cells #[.int .u64 (p0 : Int), .int .u64 (p1 : Int)] 24)) w.heap.size 36 (stc s (.slice A cs.length c)) := (Blk.new w 36 [_, _, _, _, _, _, _]).keep ((Ext.refl _).alloc _) (by simp)
    have hbP : Blk ((w.alloc (.cells #[.int .u32 (s.chan : Int), .int .u64 (s.round : Int), .int .u64 (s.m0 : Int), .int .u64 (s.m1 : Int), .int .u64 (s.t0 : Int), .int .u64 (s.t1 : Int), .slice A cs.length c] 36)).alloc (.cells #[.int .u64 (p0 : Int), .int .u64 (p1 : Int)] 24)) (w.heap.size + 1) 24 (ptc p0 p1) := Blk.new_at (w := w.alloc (.cells #[.int .u32 (s.chan : Int), .int .u64 (s.round : Int), .int .u64 (s.m0 : Int), .int .u64 (s.m1 : Int), .int .u64 (s.t0 : Int), .int .u64 (s.t1 : Int), .slice A cs.length c] 36)) (by simp) _ (ptc p0 p1)
    have hssz : (Try.prog.info? 36).map (·.size) = some (stc s (.slice A cs.length c)).length := by kernel_rfl
    have hpsz : (Try.prog.info? 24).map (·.size) = some (ptc p0 p1).length := by kernel_rfl
    generalize hZ : condCells (0, 0, 0, List.replicate 32 0, 0, ()) = Z
    have hz : (Try.prog.info? 44).bind (fun i => i.zero.map (·.cells)) = some Z.toArray := by rw [← hZ]; exact cond_zero
    have hzl : Z.length = 36 := by rw [← hZ]; rfl
    have HZL := Lib.hid hzl
    have d1 : decide (200 < (s.round : Int)) = false := by simp; omega
    clear hZ hzl hres hf0 hf1 e hbig
    go_enter Try.func25, Try.ntmps25
    go_wp2
    go_loopw [5, 6, 23] (fun q p i wr => ∃ k : Nat, k ≤ cs.length ∧ i = .int .i64 k ∧ Ext w wr ∧ Blk wr w.heap.size 36 (stc s (.slice A cs.length c)) ∧ Blk wr (w.heap.size + 1) 24 (ptc p0 p1) ∧ badM cs 0 cs = badM cs k (cs.drop k) ∧ (∃ z, q = z) ∧ ∃ z, p = z) (fun _ _ i _ => cs.length - (intOf i).toNat)
    case atStart => exact ⟨0, by omega, rfl, hx0, hbS, hbP, rfl, ⟨_, rfl⟩, _, rfl⟩
    case round =>
      clear hx0 hbS hbP
      obtain ⟨k, hk, rfl, hx, hbS, hbP, hbad, ⟨z1, rfl⟩, z2, rfl⟩ := hrel
      by_cases hlt : k < cs.length
      · obtain ⟨ad, rfl, hf, hcells⟩ := hcell (by omega)
        obtain ⟨hcc, hok⟩ := conds_at hall (hcells.keep (hx.same hF _ hf)) hlt
        have hst := bad_step cs k hlt
        rw [hst] at hbad
        generalize hck : cs[k] = ck at *
        have hcl := condCells_len hok
        have HCL := Lib.hid hcl
        have hone := condCells_one ck
        have h0 : (condCells ck)[0]? = some (.int .u64 (ck.1 : Int)) := rfl
        have h1 : (condCells ck)[1]? = some (.int .i64 ck.2.1) := rfl
        have h2 : (condCells ck)[2]? = some (.int .u64 (ck.2.2.1 : Int)) := rfl
        generalize hC : condCells ck = C at *
        have HX := Lib.hid hx
        have HBS := Lib.hid hbS
        have HBP := Lib.hid hbP
        have HBAD := Lib.hid hbad
        have hfind : ∀ W, Ext w W → Calls Try.prog 20 #[.agg (stc s (.slice (some ad) cs.length c)).toArray, .int .u64 (ck.1 : Int)] W fun e w' => e = .returned (.int .i64 (findM cs ck.1)) ∧ Ext W w' := fun W h => by
          have := Find s (.slice (some ad) cs.length c) ck.1 W F (h.holds hF HC0.out) (fun b hb => Nat.lt_of_lt_of_le (hF b hb) h.size)
          rw [← HCS.out] at this
          exact this
        have HFIND := Lib.hid hfind
        clear hx hbS hbP hbad hst hcl hcells hck hC hfind
        have his := Is ck.2.1
        by_cases hsd : ck.2.1 = 0 ∨ ck.2.1 = 1
        · rw [show decide (ck.2.1 = 0 ∨ ck.2.1 = 1) = true from decide_eq_true hsd] at his
          have HIS := Lib.hid his
          clear his
          by_cases ham : ck.2.2.1 = 0
          · rw [if_pos (.inr ham)] at HBAD
            have hr1 : res = 1 := by rw [HRES.out, HBAD.out]; rfl
            have HR1 := Lib.hid hr1
            have ha0 : ((ck.2.2.1 : Int) == 0) = true := by rw [ham]; rfl
            clear hr1 ham hsd
            go_wp2_with (first
              | (refine wpList_load_agg _ rfl 44 (.tmp 26) rfl _ rfl C _ Try.underlying44 rfl (cond_size HCL.out) hcc ?_)
              | (refine wpList_alloc _ rfl 44 rfl _ hz ?_)
              | (refine wpList_store_new _ rfl 44 (.tmp 6) (.tmp 27) rfl rfl Z C _ rfl (cond_size HCL.out) (by rw [HCL.out, HZL.out]) hone ?_)
              | (go_at_call 41; refine (HIS.out _).mono ?_; rintro e w' ⟨rfl, rfl⟩)
              | fail)
            go_ret
            exact ⟨by rw [HR1.out]; rfl, HX.out.alloc _⟩
          · rw [if_neg (by omega)] at HBAD
            have ha0 : ((ck.2.2.1 : Int) == 0) = false := by simpa using ham
            by_cases hfk : findM cs ck.1 = k
            · rw [if_neg (by simp [hfk])] at HBAD
              rw [hfk] at HFIND
              have HFK := Lib.hid hfk
              clear hfk ham hsd
              have hcst : Cells (wr.alloc (.cells C.toArray 44)) ⟨w.heap.size, 0, none⟩ (stc s (.slice (some ad) cs.length c)) := (HBS.out.keep ((Ext.refl _).alloc _) (by simp)).cells
              generalize hST : stc s (.slice (some ad) cs.length c) = SC at *
              go_wp2_with (first
                | (refine wpList_load_agg _ rfl 44 (.tmp 26) rfl _ rfl C _ Try.underlying44 rfl (cond_size HCL.out) hcc ?_)
                | (refine wpList_alloc _ rfl 44 rfl _ hz ?_)
                | (refine wpList_store_new _ rfl 44 (.tmp 6) (.tmp 27) rfl rfl Z C _ rfl (cond_size HCL.out) (by rw [HCL.out, HZL.out]) hone ?_)
                | (go_at_call 41; refine (HIS.out _).mono ?_; rintro e w' ⟨rfl, rfl⟩)
                | (refine wpList_load_agg _ rfl 36 (.tmp 2) rfl _ rfl SC _ Try.underlying36 rfl hssz hcst ?_)
                | (go_at_call 20; refine (HFIND.out _ (HX.out.alloc _)).mono ?_; rintro e w1 ⟨rfl, hx1⟩)
                | fail)
              have hxa : Ext wr w1 := ((Ext.refl wr).alloc (.cells C.toArray 44)).trans hx1
              go_roundw
              case rel => exact ⟨k + 1, by omega, by go_num, HX.out.trans hxa, HBS.out.keep hxa (by simp), HBP.out.keep hxa (by simp), HBAD.out, ⟨_, rfl⟩, _, rfl⟩
              case measure => simp [intOf]; omega
            · rw [if_pos hfk] at HBAD
              have hr7 : res = 7 := by rw [HRES.out, HBAD.out]; rfl
              have HR7 := Lib.hid hr7
              have hfb : (findM cs ck.1 == (k : Int)) = false := by simpa using hfk
              have hfb2 : (findM cs ck.1 != (k : Int)) = true := by simpa using hfk
              clear hfk ham hsd hr7
              have hcst : Cells (wr.alloc (.cells C.toArray 44)) ⟨w.heap.size, 0, none⟩ (stc s (.slice (some ad) cs.length c)) := (HBS.out.keep ((Ext.refl _).alloc _) (by simp)).cells
              generalize hST : stc s (.slice (some ad) cs.length c) = SC at *
              go_wp2_with (first
                | (refine wpList_load_agg _ rfl 44 (.tmp 26) rfl _ rfl C _ Try.underlying44 rfl (cond_size HCL.out) hcc ?_)
                | (refine wpList_alloc _ rfl 44 rfl _ hz ?_)
                | (refine wpList_store_new _ rfl 44 (.tmp 6) (.tmp 27) rfl rfl Z C _ rfl (cond_size HCL.out) (by rw [HCL.out, HZL.out]) hone ?_)
                | (go_at_call 41; refine (HIS.out _).mono ?_; rintro e w' ⟨rfl, rfl⟩)
                | (refine wpList_load_agg _ rfl 36 (.tmp 2) rfl _ rfl SC _ Try.underlying36 rfl hssz hcst ?_)
                | (go_at_call 20; refine (HFIND.out _ (HX.out.alloc _)).mono ?_; rintro e w1 ⟨rfl, hx1⟩)
                | fail)
              go_ret
              exact ⟨by rw [HR7.out]; rfl, (HX.out.alloc _).trans hx1⟩
        · rw [show decide (ck.2.1 = 0 ∨ ck.2.1 = 1) = false from decide_eq_false hsd] at his
          have HIS := Lib.hid his
          rw [if_pos (by omega)] at HBAD
          have hr1 : res = 1 := by rw [HRES.out, HBAD.out]; rfl
          have HR1 := Lib.hid hr1
          clear hr1 hsd his
          go_wp2_with (first
          | (refine wpList_load_agg _ rfl 44 (.tmp 26) rfl _ rfl C _ Try.underlying44 rfl (cond_size HCL.out) hcc ?_)
          | (refine wpList_alloc _ rfl 44 rfl _ hz ?_)
          | (refine wpList_store_new _ rfl 44 (.tmp 6) (.tmp 27) rfl rfl Z C _ rfl (cond_size HCL.out) (by rw [HCL.out, HZL.out]) hone ?_)
          | (go_at_call 41; refine (HIS.out _).mono ?_; rintro e w' ⟨rfl, rfl⟩)
            | fail)
          go_ret
          exact ⟨by rw [HR1.out]; rfl, HX.out.alloc _⟩
      · obtain rfl : k = cs.length := by omega
        rw [List.drop_length, badM] at hbad
        have hr : res = if (freeM s p0 p1 0).2 ≠ 0 then (freeM s p0 p1 0).2 else (freeM s p0 p1 1).2 := by rw [HRES.out, hbad]; simp
        have HR := Lib.hid hr
        clear hr hbad
        have HX := Lib.hid hx
        have HBS := Lib.hid hbS
        have HBP := Lib.hid hbP
        have hfree : ∀ (sd : Int) (W : World), Ext w W → Calls Try.prog 23 #[.agg (stc s (.slice A cs.length c)).toArray, .agg (ptc p0 p1).toArray, .int .i64 sd] W fun e w' => e = .returned (numErr (freeM s p0 p1 sd)) ∧ Ext W w' := fun sd W h =>
          Free s (.slice A cs.length c) p0 p1 sd W F hs hp0 hp1 (h.holds hF HC0.out) (fun b hb => Nat.lt_of_lt_of_le (hF b hb) h.size) (by rw [← HCS.out]; omega)
        have HFREE := Lib.hid hfree
        clear hx hbS hbP hfree
        go_wp2
        obtain ⟨wo, rfl⟩ : ∃ wo : World, wo = wr := ⟨_, rfl⟩
        go_loopw [8, 9, 10, 47] (fun a b d i wr => ∃ k : Nat, k ≤ 2 ∧ i = .int .i64 k ∧ Ext wo wr ∧ (1 ≤ k → (freeM s p0 p1 0).2 = 0) ∧ (2 ≤ k → (freeM s p0 p1 1).2 = 0) ∧ (∃ z, a = z) ∧ (∃ z, b = z) ∧ ∃ z, d = z) (fun _ _ _ i _ => 2 - (intOf i).toNat)
        case atStart => exact ⟨0, by omega, rfl, Ext.refl _, by omega, by omega, ⟨_, rfl⟩, ⟨_, rfl⟩, _, rfl⟩
        case round =>
          obtain ⟨k, hk, rfl, hxr, hk1, hk2, ⟨za, rfl⟩, ⟨zb, rfl⟩, zd, rfl⟩ := hrel
          have hcst : Cells wr ⟨w.heap.size, 0, none⟩ (stc s (.slice A cs.length c)) := (HBS.out.keep hxr (by simp)).cells
          have hcpt : Cells wr ⟨w.heap.size + 1, 0, none⟩ (ptc p0 p1) := (HBP.out.keep hxr (by simp)).cells
          have hkk : k = 0 ∨ k = 1 ∨ k = 2 := by omega
          rcases hkk with rfl | rfl | rfl
          · skip
            have hfr := HFREE.out 0 wr (HX.out.trans hxr)
            rcases HF0.out with ⟨m, hm, e⟩ | e
            · rw [e] at hfr
              simp only [numErr] at hfr
              have HFR := Lib.hid hfr
              have HE := Lib.hid e
              clear e hfr
              go_wp2_with (first
                | (refine wpList_index (.inl rfl) 92 (.tmp 46) (.tmp 47) rfl [Value.int .i64 0, Value.int .i64 1] 0 2 .i64 41 _ _ rfl rfl Try.underlying92 (by omega) Try.underlying41 rfl (by kernel_rfl) rfl ?_)
                | (refine wpList_load_agg _ rfl 36 (.tmp 2) rfl _ rfl (stc s (.slice A cs.length c)) _ Try.underlying36 rfl hssz hcst ?_)
                | (refine wpList_load_agg _ rfl 24 (.tmp 3) rfl _ rfl (ptc p0 p1) _ Try.underlying24 rfl hpsz hcpt ?_)
                | (go_at_call 23; refine HFR.out.mono ?_; rintro e w1 ⟨rfl, hx1⟩)
                | fail)
              go_roundw
              case rel => exact ⟨1, by omega, rfl, hxr.trans hx1, fun _ => by rw [HE.out], by omega, ⟨_, rfl⟩, ⟨_, rfl⟩, _, rfl⟩
              case measure => simp [intOf]
            · obtain ⟨z, hz0, hz1⟩ : ∃ z : Int, freeM s p0 p1 0 = (0, z) ∧ (z = 11 ∨ z = 12) := by
                rcases e with e | e
                · exact ⟨11, e, .inl rfl⟩
                · exact ⟨12, e, .inr rfl⟩
              rw [hz0] at hfr
              simp only [numErr] at hfr
              have HFR := Lib.hid hfr
              have hres : res = z := by rw [HR.out, hz0]; rw [if_pos (by simp; omega)]
              have HRZ := Lib.hid hres
              have hzb : (z != 0) = true := by simp; omega
              clear e hfr hres hz0 hz1
              go_wp2_with (first
                | (refine wpList_index (.inl rfl) 92 (.tmp 46) (.tmp 47) rfl [Value.int .i64 0, Value.int .i64 1] 0 2 .i64 41 _ _ rfl rfl Try.underlying92 (by omega) Try.underlying41 rfl (by kernel_rfl) rfl ?_)
                | (refine wpList_load_agg _ rfl 36 (.tmp 2) rfl _ rfl (stc s (.slice A cs.length c)) _ Try.underlying36 rfl hssz hcst ?_)
                | (refine wpList_load_agg _ rfl 24 (.tmp 3) rfl _ rfl (ptc p0 p1) _ Try.underlying24 rfl hpsz hcpt ?_)
                | (go_at_call 23; refine HFR.out.mono ?_; rintro e w1 ⟨rfl, hx1⟩)
                | fail)
              go_ret
              exact ⟨by rw [HRZ.out]; rfl, HX.out.trans (hxr.trans hx1)⟩
          · skip
            have hfr := HFREE.out 1 wr (HX.out.trans hxr)
            rcases HF1.out with ⟨m, hm, e⟩ | e
            · rw [e] at hfr
              simp only [numErr] at hfr
              have HFR := Lib.hid hfr
              have HE := Lib.hid e
              clear e hfr
              go_wp2_with (first
                | (refine wpList_index (.inl rfl) 92 (.tmp 46) (.tmp 47) rfl [Value.int .i64 0, Value.int .i64 1] 1 2 .i64 41 _ _ rfl rfl Try.underlying92 (by omega) Try.underlying41 rfl (by kernel_rfl) rfl ?_)
                | (refine wpList_load_agg _ rfl 36 (.tmp 2) rfl _ rfl (stc s (.slice A cs.length c)) _ Try.underlying36 rfl hssz hcst ?_)
                | (refine wpList_load_agg _ rfl 24 (.tmp 3) rfl _ rfl (ptc p0 p1) _ Try.underlying24 rfl hpsz hcpt ?_)
                | (go_at_call 23; refine HFR.out.mono ?_; rintro e w1 ⟨rfl, hx1⟩)
                | fail)
              go_roundw
              case rel => exact ⟨2, by omega, rfl, hxr.trans hx1, fun h => hk1 (by omega), fun _ => by rw [HE.out], ⟨_, rfl⟩, ⟨_, rfl⟩, _, rfl⟩
              case measure => simp [intOf]
            · obtain ⟨z, hz0, hz1⟩ : ∃ z : Int, freeM s p0 p1 1 = (0, z) ∧ (z = 11 ∨ z = 12) := by
                rcases e with e | e
                · exact ⟨11, e, .inl rfl⟩
                · exact ⟨12, e, .inr rfl⟩
              rw [hz0] at hfr
              simp only [numErr] at hfr
              have HFR := Lib.hid hfr
              have hres : res = z := by rw [HR.out, (hk1 (by omega)), hz0]; simp
              have HRZ := Lib.hid hres
              have hzb : (z != 0) = true := by simp; omega
              clear e hfr hres hz0 hz1
              go_wp2_with (first
                | (refine wpList_index (.inl rfl) 92 (.tmp 46) (.tmp 47) rfl [Value.int .i64 0, Value.int .i64 1] 1 2 .i64 41 _ _ rfl rfl Try.underlying92 (by omega) Try.underlying41 rfl (by kernel_rfl) rfl ?_)
                | (refine wpList_load_agg _ rfl 36 (.tmp 2) rfl _ rfl (stc s (.slice A cs.length c)) _ Try.underlying36 rfl hssz hcst ?_)
                | (refine wpList_load_agg _ rfl 24 (.tmp 3) rfl _ rfl (ptc p0 p1) _ Try.underlying24 rfl hpsz hcpt ?_)
                | (go_at_call 23; refine HFR.out.mono ?_; rintro e w1 ⟨rfl, hx1⟩)
                | fail)
              go_ret
              exact ⟨by rw [HRZ.out]; rfl, HX.out.trans (hxr.trans hx1)⟩
          · have hres : res = 0 := by rw [HR.out, hk1 (by omega), hk2 (by omega)]; rfl
            have HRZ := Lib.hid hres
            clear hres hk1 hk2
            go_wp2
            go_ret
            exact ⟨by rw [HRZ.out]; rfl, HX.out.trans hxr⟩
end Go.Proofs.Ytnpolfihbfdggaa

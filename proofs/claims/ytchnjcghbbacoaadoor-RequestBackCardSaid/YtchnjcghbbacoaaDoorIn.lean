/- Walks of octet.In, and the plain state that they work on. -/
import Derived.Test.YtchnjcghbbacoaaDoorRef1
import Derived.Test.YtchnjcghbbacoaaDoorDrop
import Derived.RegionTactic
import Derived.Deep.RegionHeldLaw
import Derived.Laws.Bits64b
set_option linter.unusedVariables false
set_option linter.unusedSimpArgs false
set_option linter.unnecessarySimpa false
namespace Go.Proofs.YtchnjcghbbacoaaDoor
open Go.RowKit

/-! ### The plain state: what is left, what is wrong -/
abbrev InS := List UInt8 × Int
def failM (e : Int) (s : InS) : InS := if s.2 = 0 ∧ e ≠ 0 then ([], e) else s
def cutM (n : Nat) (s : InS) : List UInt8 × InS := if s.2 ≠ 0 then ([], s) else if s.1.length < n then ([], ([], 9)) else (s.1.take n, (s.1.drop n, s.2))
def numM (n : Nat) (s : InS) : Nat × InS := (beNum (cutM n s).1, (cutM n s).2)
def sumM (s : InS) : List UInt8 × InS := ((cutM 32 s).1 ++ List.replicate (32 - (cutM 32 s).1.length) 0, (cutM 32 s).2)
def manyM (most : Int) (s : InS) : Int × InS := if most < ((numM 1 s).1 : Int) then (0, failM 8 (numM 1 s).2) else ((numM 1 s).1, (numM 1 s).2)
def blobM (most : Int) (s : InS) : List UInt8 × InS :=
  if (numM 4 s).2.2 = 0 ∧ (most < 0 ∨ min most 4096 < ((numM 4 s).1 : Int)) then ([], failM 8 (numM 4 s).2) else cutM (numM 4 s).1 (numM 4 s).2
def endM (s : InS) : InS := if 0 < s.1.length then failM 10 s else s

/-- The object in memory: its block, the block of its bytes. -/
def InAt (w : World) (g q : Nat) (s : InS) : Prop := q ≠ g ∧ q < w.heap.size ∧ (Lit.int .i64 s.2).wf = true ∧ (s.2 ≠ 0 → s.1 = []) ∧ ∃ vl, Blk w g 90 [vl, .int .i64 s.2] ∧ (Ty.sl .u8).holds w (fun b => b = q) [vl] s.1
theorem InAt.keep {w w' : World} {g q : Nat} {s : InS} {row : Option Nat} (h : InAt w g q s) (hg : w.grownBy w' row) (h1 : some g ≠ row) (h2 : some q ≠ row) : InAt w' g q s := by
  obtain ⟨h0, hq, hw, he, vl, hb, hl⟩ := h
  exact ⟨h0, Nat.lt_of_lt_of_le hq hg.size, hw, he, vl, hb.keep hg h1, Ty.keep (by rintro b rfl; exact hg.block _ hq h2) (fun _ h => h) _ hl⟩
theorem InAt.ext {w w' : World} {g q : Nat} {s : InS} (h : InAt w g q s) (hg : Ext w w') : InAt w' g q s := h.keep hg (by simp) (by simp)
theorem InAt.lt {w : World} {g q : Nat} {s : InS} (h : InAt w g q s) : g < w.heap.size := by obtain ⟨_, _, _, _, vl, hb, _⟩ := h; exact hb.lt

section
variable (g q : Nat) (s : InS) (w : World)

set_option maxHeartbeats 400000 in
theorem In_Bad (h : InAt w g q s) : Calls Tryd.prog 47 #[.pointer (some ⟨g, 0, none⟩)] w fun e w' => e = .returned (.int .i64 s.2) ∧ w = w' := by
  obtain ⟨h0, hq, hw, he, vl, hb, hl⟩ := h
  have hc1 := hb.cell 1
  simp only [List.getElem?_cons_succ, List.getElem?_cons_zero] at hc1
  go_enter Tryd.func47, Tryd.ntmps47
  go_wp2
  go_ret
  exact ⟨rfl, rfl⟩
set_option maxHeartbeats 400000 in
theorem In_Left (h : InAt w g q s) : Calls Tryd.prog 49 #[.pointer (some ⟨g, 0, none⟩)] w fun e w' => e = .returned (.int .i64 s.1.length) ∧ w = w' := by
  obtain ⟨h0, hq, hw, he, vl, hb, hl⟩ := h
  obtain ⟨A, c, xs, hv, _⟩ := hl
  cases hv
  have hc0 := hb.cell 0
  simp only [List.getElem?_cons_zero] at hc0
  go_enter Tryd.func49, Tryd.ntmps49
  go_wp2
  go_ret
  exact ⟨rfl, rfl⟩
set_option maxHeartbeats 400000 in
theorem In_Fail (e : Int) (hew : (Lit.int .i64 e).wf = true) (h : InAt w g q s) : Calls Tryd.prog 48 #[.pointer (some ⟨g, 0, none⟩), .int .i64 e] w fun r w' => r = .returned (.tuple #[]) ∧ InAt w' g q (failM e s) ∧ w.grownBy w' (some g) := by
  obtain ⟨bs, bad⟩ := s
  have hh := h
  obtain ⟨h0, hq, hw, he, vl, hb, hl⟩ := h
  have hc0 := hb.cell 0
  have hc1 := hb.cell 1
  have hf0 := hb.free 0
  have hf1 := hb.free 1
  simp only [List.getElem?_cons_succ, List.getElem?_cons_zero] at hc0 hc1
  by_cases hbad : bad = 0
  · subst hbad
    by_cases hz : e = 0
    · subst hz
      go_enter Tryd.func48, Tryd.ntmps48
      go_wp2
      go_end0
      exact ⟨rfl, by simpa [failM] using hh, World.grownBy.refl _ _⟩
    · have hz1 : (e == (0 : Int)) = false := by simp [hz]
      have hz2 : (e != (0 : Int)) = true := by simp [hz]
      have hm : failM e (bs, 0) = ([], e) := by simp [failM, hz]
      have HM := Lib.hid hm
      have hfin : InAt ((w.setCell ⟨g, 0, none⟩ (.slice none 0 0)).setCell ⟨g, 1, none⟩ (.int .i64 e)) g q ([], e) :=
        ⟨h0, by simpa using hq, hew, fun _ => rfl, .slice none 0 0, by have := (hb.set 0 (.slice none 0 0)).set 1 (.int .i64 e); simpa using this, ⟨none, 0, [], rfl, by simp, by simp [maxLen], fun _ => rfl, fun h => absurd rfl h, rfl⟩⟩
      have hgr : w.grownBy ((w.setCell ⟨g, 0, none⟩ (.slice none 0 0)).setCell ⟨g, 1, none⟩ (.int .i64 e)) (some g) := (only_set 0 _).trans (only_set 1 _)
      have HFIN := Lib.hid hfin
      have HGR := Lib.hid hgr
      clear hm hz hfin hgr
      go_enter Tryd.func48, Tryd.ntmps48
      go_wp2
      go_end0
      exact ⟨rfl, by rw [HM.out]; exact HFIN.out, HGR.out⟩
  · have hz1 : (bad == (0 : Int)) = false := by simp [hbad]
    have hm : failM e (bs, bad) = (bs, bad) := by simp [failM, hbad]
    have HM := Lib.hid hm
    clear hm hbad
    go_enter Tryd.func48, Tryd.ntmps48
    go_wp2
    go_end0
    exact ⟨rfl, by rw [HM.out]; exact hh, World.grownBy.refl _ _⟩

set_option maxHeartbeats 400000 in
theorem In_cut (n : Nat) (hn : n < 9223372036854775808) (h : InAt w g q s) : Calls Tryd.prog 45 #[.pointer (some ⟨g, 0, none⟩), .int .i64 n] w fun r w' => ∃ v, r = .returned v ∧ (Ty.sl .u8).holds w' (fun b => b = q) [v] (cutM n s).1 ∧ InAt w' g q (cutM n s).2 ∧ w.grownBy w' (some g) := by
  obtain ⟨bs, bad⟩ := s
  have hh := h
  obtain ⟨h0, hq, hw, he, vl, hb, hl⟩ := h
  by_cases hbad : bad = 0
  · subst hbad
    obtain ⟨A, c, xs, hv, hlc, hc, hA, hcell, hall⟩ := hl
    cases hv
    have hl : (Ty.sl .u8).holds w (fun b => b = q) [.slice A bs.length c] bs := ⟨A, c, xs, rfl, hlc, hc, hA, hcell, hall⟩
    have hc0 := hb.cell 0
    have hf0 := hb.free 0
    simp only [List.getElem?_cons_zero] at hc0
    by_cases hlt : bs.length < n
    · have hm : cutM n (bs, 0) = ([], failM 9 (bs, 0)) := by simp [cutM, hlt, failM]
      have HM := Lib.hid hm
      clear hm
      go_enter Tryd.func45, Tryd.ntmps45
      go_wp2_with fail
      refine (In_Bad g q _ _ hh).mono ?_
      rintro e w1 ⟨rfl, rfl⟩
      go_wp2_with fail
      refine (In_Fail g q _ _ 9 rfl hh).mono ?_
      rintro e w1 ⟨rfl, hi, hg⟩
      go_wp2
      go_ret
      exact ⟨_, rfl, by rw [HM.out]; exact ⟨none, 0, [], rfl, by simp, by simp [maxLen], fun _ => rfl, fun h => absurd rfl h, rfl⟩, by rw [HM.out]; exact hi, hg⟩
    · have hm : cutM n (bs, 0) = (bs.take n, (bs.drop n, 0)) := by simp [cutM, hlt]
      have HM := Lib.hid hm
      have hd := holds_drop hl (n := n) (by omega)
      have ht := holds_take hl (n := n) (by omega)
      have HD := Lib.hid hd
      have HT := Lib.hid ht
      have HLD := Lib.hid (List.length_drop : (bs.drop n).length = bs.length - n)
      clear hm hd ht
      unfold maxLen at hc
      go_enter Tryd.func45, Tryd.ntmps45
      go_wp2_with fail
      refine (In_Bad g q _ _ hh).mono ?_
      rintro e w1 ⟨rfl, rfl⟩
      have H0 : ∀ u, w.grownBy (w.setCell ⟨g, 0, none⟩ u) (some g) := fun u => only_set 0 u
      have H1 : ∀ u, (Ty.sl .u8).holds w (fun b => b = q) [u] (bs.drop n) → InAt (w.setCell ⟨g, 0, none⟩ u) g q (bs.drop n, 0) := fun u hu =>
        ⟨h0, by simpa using hq, hw, fun h => absurd rfl h, u, by simpa using hb.set 0 u, Ty.keep (by rintro b rfl; exact (H0 u).block _ hq (by simpa using h0)) (fun _ h => h) _ hu⟩
      have H2 : ∀ u v, (Ty.sl .u8).holds w (fun b => b = q) [v] (bs.take n) → (Ty.sl .u8).holds (w.setCell ⟨g, 0, none⟩ u) (fun b => b = q) [v] (bs.take n) := fun u v hv => Ty.keep (by rintro b rfl; exact (H0 u).block _ hq (by simpa using h0)) (fun _ h => h) _ hv
      have H1 := Lib.hid H1
      have H2 := Lib.hid H2
      go_wp2
      · have hcn : c = n := by assumption
        subst hcn
        go_ret
        exact ⟨_, rfl, by rw [HM.out]; exact H2.out _ _ HT.out, by rw [HM.out]; exact H1.out _ (by have := HD.out; rwa [if_pos rfl, Nat.sub_self] at this), H0 _⟩
      · have hcn : ¬c = n := by assumption
        go_ret
        exact ⟨_, rfl, by rw [HM.out]; exact H2.out _ _ HT.out, by rw [HM.out]; exact H1.out _ (by have := HD.out; rwa [if_neg hcn] at this), H0 _⟩
  · have hm : cutM n (bs, bad) = ([], (bs, bad)) := by simp [cutM, hbad]
    have HM := Lib.hid hm
    clear hm
    have hz1 : (bad == (0 : Int)) = false := by simp [hbad]
    go_enter Tryd.func45, Tryd.ntmps45
    go_wp2_with fail
    refine (In_Bad g q _ _ hh).mono ?_
    rintro e w1 ⟨rfl, rfl⟩
    go_wp2
    go_ret
    exact ⟨_, rfl, by rw [HM.out]; exact ⟨none, 0, [], rfl, by simp, by simp [maxLen], fun _ => rfl, fun h => absurd rfl h, rfl⟩, by rw [HM.out]; exact hh, World.grownBy.refl _ _⟩

theorem be_or (n : Nat) (b : UInt8) : (n * 256) ||| b.toNat = n * 256 + b.toNat := by
  have := Nat.shiftLeft_add_eq_or_of_lt (i := 8) (b := b.toNat) b.toNat_lt n
  rw [Nat.shiftLeft_eq] at this
  exact this.symm
theorem cutM_len (n : Nat) (s : InS) : (cutM n s).1.length ≤ n := by
  unfold cutM
  split
  · simp
  split
  · simp
  · simp; omega

set_option maxHeartbeats 400000 in
theorem In_num (n : Nat) (hn : n ≤ 8) (h : InAt w g q s) : Calls Tryd.prog 44 #[.pointer (some ⟨g, 0, none⟩), .int .i64 n] w fun r w' => r = .returned (.int .u64 (numM n s).1) ∧ InAt w' g q (numM n s).2 ∧ w.grownBy w' (some g) := by
  go_enter Tryd.func44, Tryd.ntmps44
  go_wp2_with fail
  refine (In_cut g q s _ n (by omega) h).mono ?_
  rintro e w1 ⟨v, rfl, hv, hi, hg⟩
  have hl := cutM_len n s
  have hi : InAt w1 g q (numM n s).2 := hi
  have e1 : beNum (cutM n s).1 = (numM n s).1 := rfl
  generalize (cutM n s).1 = bs at *
  have E1 := Lib.hid e1
  clear e1
  obtain ⟨A, c, xs, hv', hlc, hc, hA, hcell, hall⟩ := hv
  cases hv'
  unfold maxLen at hc
  go_wp2
  go_loopw [5, 12] (fun m i wr => wr = w1 ∧ ∃ k : Nat, k ≤ bs.length ∧ i = .int .i64 k ∧ m = .int .u64 ((beNum (bs.take k) : Nat) : Int)) (fun _ i _ => bs.length - (intOf i).toNat)
  case atStart => exact ⟨rfl, 0, by omega, rfl, rfl⟩
  case round =>
    obtain ⟨rfl, k, hk, rfl, rfl⟩ := hrel
    by_cases hlt : k < bs.length
    · obtain ⟨ad, rfl, hFa, hcells⟩ := hcell (by rintro rfl; simp at hlt)
      have hx := AllH.u8_at hall hlt
      have hcx := hcells k _ hx
      have hst := beNum_step bs k hlt
      have hbd := beNum_lt (bs.take k)
      have hor := be_or (beNum (bs.take k)) bs[k]
      rw [← hst] at hor
      have hb1 := bs[k].toNat_lt
      have hlow : beNum (bs.take k) < 256 ^ 7 := Nat.lt_of_lt_of_le hbd (Nat.pow_le_pow_right (by omega) (by simp; omega))
      generalize hM : beNum (bs.take k) = M at *
      have HM := Lib.hid hM
      clear hM
      clear hx hbd
      go_wp2
      go_roundw
      case rel =>
        refine ⟨trivial, k + 1, by omega, by go_num, ?_⟩
        have h1 : M * 256 < 18446744073709551616 := by omega
        rw [show (M : Int) * 256 = ((M * 256 : Nat) : Int) from (Int.natCast_mul M 256).symm, bits_or_u64_nat _ _ h1 (by omega), hor]
      case measure => simp [intOf]; omega
    · obtain rfl : k = bs.length := by omega
      rw [List.take_length, E1.out]
      go_wp2
      go_ret
      exact ⟨rfl, hi, hg⟩
theorem numM_lt (n : Nat) (s : InS) : (numM n s).1 < 256 ^ n := Nat.lt_of_lt_of_le (beNum_lt _) (Nat.pow_le_pow_right (by omega) (cutM_len n s))

set_option maxHeartbeats 400000 in
theorem In_One (h : InAt w g q s) : Calls Tryd.prog 32 #[.pointer (some ⟨g, 0, none⟩)] w fun r w' => r = .returned (.int .u8 (numM 1 s).1) ∧ InAt w' g q (numM 1 s).2 ∧ w.grownBy w' (some g) := by
  have hl : (numM 1 s).1 < 256 := numM_lt 1 s
  go_enter Tryd.func32, Tryd.ntmps32
  go_wp2_with fail
  refine (In_num g q s _ 1 (by omega) h).mono ?_
  rintro e w1 ⟨rfl, hi, hg⟩
  go_wp2
  go_ret
  exact ⟨rfl, hi, hg⟩
set_option maxHeartbeats 400000 in
theorem In_Four (h : InAt w g q s) : Calls Tryd.prog 46 #[.pointer (some ⟨g, 0, none⟩)] w fun r w' => r = .returned (.int .u32 (numM 4 s).1) ∧ InAt w' g q (numM 4 s).2 ∧ w.grownBy w' (some g) := by
  have hl : (numM 4 s).1 < 4294967296 := numM_lt 4 s
  go_enter Tryd.func46, Tryd.ntmps46
  go_wp2_with fail
  refine (In_num g q s _ 4 (by omega) h).mono ?_
  rintro e w1 ⟨rfl, hi, hg⟩
  go_wp2
  go_ret
  exact ⟨rfl, hi, hg⟩
set_option maxHeartbeats 400000 in
theorem In_Eight (h : InAt w g q s) : Calls Tryd.prog 33 #[.pointer (some ⟨g, 0, none⟩)] w fun r w' => r = .returned (.int .u64 (numM 8 s).1) ∧ InAt w' g q (numM 8 s).2 ∧ w.grownBy w' (some g) := by
  go_enter Tryd.func33, Tryd.ntmps33
  go_wp2_with fail
  refine (In_num g q s _ 8 (by omega) h).mono ?_
  rintro e w1 ⟨rfl, hi, hg⟩
  go_wp2
  go_ret
  exact ⟨rfl, hi, hg⟩

/-- What an In's call leaves of the rest. -/
theorem grown_new {w w' : World} {g : Nat} {o : Obj} (h : (w.alloc o).grownBy w' (some g)) : w.grownBy w' (some g) := grown_then (((Ext.refl w).alloc o).any _) h (.inl rfl)
set_option maxRecDepth 100000 in
set_option maxHeartbeats 400000 in
theorem In_Sum (h : InAt w g q s) : Calls Tryd.prog 34 #[.pointer (some ⟨g, 0, none⟩)] w fun r w' => r = .returned (.agg (bv (sumM s).1).toArray) ∧ InAt w' g q (sumM s).2 ∧ w.grownBy w' (some g) := by
  have hu8 : (Tryd.prog.info? 5).map (·.size) = some 1 := by kernel_rfl
  have hlg := h.lt
  have hlen := cutM_len 32 s
  have hz := zero32
  have hzl : (bv (List.replicate 32 0)).length = 32 := by rw [bv_length, List.length_replicate]
  generalize hZ : bv (List.replicate 32 0) = Z at hz hzl
  have hb0 : (((w.alloc (.cells Z.toArray 48)).alloc (.cells Z.toArray 48)).drew).heap[w.heap.size + 1]? = some (.cells Z.toArray 48 (0, 0)) := by
    have := heap_alloc_new (w.alloc (.cells Z.toArray 48)) (.cells Z.toArray 48)
    rwa [show (w.alloc (.cells Z.toArray 48)).heap.size = w.heap.size + 1 by simp] at this
  have hsz : w.heap.size + 1 < (((w.alloc (.cells Z.toArray 48)).alloc (.cells Z.toArray 48)).drew).heap.size := by
    show w.heap.size + 1 < ((w.alloc (.cells Z.toArray 48)).alloc (.cells Z.toArray 48)).heap.size
    simp
  have hne : some (w.heap.size + 1) ≠ some g := by simp; omega
  have hmin : (cutM 32 s).1.length = min (cutM 32 s).1.length 32 := by omega
  have hfit : 0 + (cutM 32 s).1.length ≤ Z.length := by rw [hzl]; omega
  have HZ := Lib.hid hZ
  have HZL := Lib.hid hzl
  have HM := Lib.hid hmin
  have HFI := Lib.hid hfit
  clear hZ hzl hmin hfit
  go_enter Tryd.func34, Tryd.ntmps34
  go_wp2_with (first
    | (refine wpList_alloc _ rfl 48 rfl _ hz ?_)
    | fail)
  go_region_held_law (fun _ => True) (trivial)
    (first
      | (go_at_call 45
         refine (In_cut g q s _ 32 (by omega) ((h.ext (((Ext.refl _).alloc _).alloc _)).ext (Ext.refl _).drew)).mono ?_
         rintro e w1 ⟨v, rfl, hv, hi, hg⟩
         obtain ⟨A, c, xs, hv', hlc, hc, hA, hcell, hall⟩ := hv
         cases hv'
         have hsrc := src_bytes (w := w1) (F := fun b => b = q) (A := A) (c := c) (l := (cutM 32 s).1) ⟨A, c, xs, rfl, hlc, hc, hA, hcell, hall⟩
         have hg1 := grown_new (grown_new (grown_then ((Ext.refl _).drew.any _) hg (.inl rfl)))
         have hb1 := (hg.block _ hsz hne).trans hb0)
      | (refine step_copyB rfl (.tmp 4) (.tmp 6) 40 40 rfl 5 Tryd.underlying40 hu8 (w.heap.size + 1) 0 32 32 rfl A (cutM 32 s).1.length c rfl (cutM 32 s).1 rfl hsrc Z 48 hb1 (cutM 32 s).1.length HM.out HFI.out ?_; intro w2 hb2 hg2))
  have hsz0 : w.heap.size < (((w.alloc (.cells Z.toArray 48)).alloc (.cells Z.toArray 48)).drew).heap.size := Nat.lt_of_succ_lt hsz
  have hbR : w2.heap[w.heap.size]? = some (.cells Z.toArray 48 (0, 0)) := by
    rw [hg2.block _ (Nat.lt_of_lt_of_le hsz0 hg.size) (by simp), hg.block _ hsz0 (by simp; omega)]
    show ((w.alloc (.cells Z.toArray 48)).alloc (.cells Z.toArray 48)).heap[w.heap.size]? = _
    rw [heap_alloc_old _ _ (by simp), heap_alloc_new]
  have hl3 : (sumM s).1.length = 32 := by show ((cutM 32 s).1 ++ List.replicate (32 - (cutM 32 s).1.length) 0).length = 32; rw [List.length_append, List.length_replicate]; omega
  have hc3 : Cells w2 ⟨w.heap.size + 1, 0, none⟩ (bv (sumM s).1) := by
    have := Cells.of_block hb2
    rw [← HZ.out] at this
    have e : (List.take 0 (bv (List.replicate 32 0)) ++ bv ((cutM 32 s).1.take (cutM 32 s).1.length) ++ List.drop (0 + (cutM 32 s).1.length) (bv (List.replicate 32 0))) = bv (sumM s).1 := by
      show _ = bv ((cutM 32 s).1 ++ List.replicate (32 - (cutM 32 s).1.length) 0)
      rw [bv_append, List.take_zero, List.nil_append, List.take_length, Nat.zero_add]
      congr 1
      rw [bv, ← List.map_drop, List.drop_replicate]
      rfl
    rw [e] at this
    exact this
  have hgA : w.grownBy w1 (some g) := grown_new (grown_new (grown_then ((Ext.refl _).drew.any _) hg (.inl rfl)))
  have hl3' : (bv (sumM s).1).length = 32 := by rw [bv_length]; exact hl3
  have hi2 : InAt w2 g q (sumM s).2 := hi.keep hg2 (by simp; omega) (by have := h.2.1; simp; omega)
  have hgB : w.grownBy w2 (some g) := grown_then hgA hg2 (.inr (by rintro _ ⟨⟩; omega))
  go_wp2_with (first
    | (refine wpList_load_agg _ rfl 48 (.tmp 3) rfl _ rfl (bv (sumM s).1) _ Tryd.underlying48 rfl (by rw [hl3']; kernel_rfl) hc3 ?_)
    | (refine wpList_store_row _ rfl 48 (.tmp 2) (.tmp 8) rfl _ rfl Z (bv (sumM s).1) _ rfl hbR (by rw [hl3']; kernel_rfl) (by rw [hl3', HZL.out]) (bv_one _) ?_)
    | fail)
  have hc4 : Cells (w2.setRow w.heap.size (bv (sumM s).1).toArray) ⟨w.heap.size, 0, none⟩ (bv (sumM s).1) := by have := Cells.of_block (setRow_at (cs' := (bv (sumM s).1).toArray) hbR); simpa using this
  (try simp only [Exit.inBlock, Exit.then])
  refine bodyPost_ret (results_agg rfl _ _ _ _ _ rfl Tryd.underlying48 rfl (by rw [hl3']; kernel_rfl) hc4) rfl ?_
  exact ⟨rfl, hi2.keep (setRow_only _) (by simp; omega) (by have := h.2.1; simp; omega), grown_then hgB (setRow_only _) (.inr (by rintro _ ⟨⟩; omega))⟩

theorem manyM_big {most : Int} {s : InS} (h : most < ((numM 1 s).1 : Int)) : manyM most s = (0, failM 8 (numM 1 s).2) := if_pos h
theorem manyM_ok {most : Int} {s : InS} (h : ¬ most < ((numM 1 s).1 : Int)) : manyM most s = (((numM 1 s).1 : Int), (numM 1 s).2) := if_neg h
set_option maxHeartbeats 400000 in
theorem In_End (h : InAt w g q s) : Calls Tryd.prog 36 #[.pointer (some ⟨g, 0, none⟩)] w fun r w' => r = .returned (.int .i64 (endM s).2) ∧ InAt w' g q (endM s) ∧ w.grownBy w' (some g) := by
  by_cases hb : 0 < s.1.length
  · have e : endM s = failM 10 s := if_pos hb
    rw [e]
    go_enter Tryd.func36, Tryd.ntmps36
    go_wp2_with fail
    refine (In_Left g q s _ h).mono ?_
    rintro e w1 ⟨rfl, rfl⟩
    go_wp2_with fail
    refine (In_Fail g q _ _ 10 rfl h).mono ?_
    rintro e w2 ⟨rfl, hi2, hg2⟩
    go_wp2_with fail
    refine (In_Bad g q _ _ hi2).mono ?_
    rintro e w3 ⟨rfl, rfl⟩
    go_wp2
    go_ret
    exact ⟨rfl, hi2, hg2⟩
  · have e : endM s = s := if_neg hb
    rw [e]
    go_enter Tryd.func36, Tryd.ntmps36
    go_wp2_with fail
    refine (In_Left g q s _ h).mono ?_
    rintro e w1 ⟨rfl, rfl⟩
    go_wp2_with fail
    refine (In_Bad g q _ _ h).mono ?_
    rintro e w3 ⟨rfl, rfl⟩
    go_wp2
    go_ret
    exact ⟨rfl, h, World.grownBy.refl _ _⟩
set_option maxHeartbeats 400000 in
theorem In_Blob (most : Int) (hm : (Lit.int .i64 most).wf = true) (h : InAt w g q s) : Calls Tryd.prog 35 #[.pointer (some ⟨g, 0, none⟩), .int .i64 most] w fun r w' => ∃ v, r = .returned v ∧ OwnB w' v (blobM most s).1 ∧ InAt w' g q (blobM most s).2 ∧ w.grownBy w' (some g) ∧ ∀ b, v.ownBlock = some b → w.heap.size ≤ b := by
  obtain ⟨i0, hi0, hz0, hz1, hz2⟩ := info_parts u8_info
  have hl : (numM 4 s).1 < 4294967296 := numM_lt 4 s
  have hb := bounds_i64 hm
  have hbad : (numM 4 s).2.2 = 0 ∨ ¬ (numM 4 s).2.2 = 0 := Classical.em _
  by_cases hc : (numM 4 s).2.2 = 0 ∧ (most < 0 ∨ min most 4096 < ((numM 4 s).1 : Int))
  · have e : blobM most s = ([], failM 8 (numM 4 s).2) := if_pos hc
    have HE := Lib.hid e
    have hcases : most < 0 ∨ (4096 < most ∧ (4096 : Int) < ((numM 4 s).1 : Int)) ∨ (0 ≤ most ∧ most ≤ 4096 ∧ most < ((numM 4 s).1 : Int)) := by omega
    have hc1 := hc.1
    clear e hbad hc
    go_enter Tryd.func35, Tryd.ntmps35
    go_wp2_with fail
    refine (In_Four g q s _ h).mono ?_
    rintro e w1 ⟨rfl, hi, hg⟩
    go_wp2_with fail
    refine (In_Bad g q _ _ hi).mono ?_
    rintro e w2 ⟨rfl, rfl⟩
    rcases hcases with k1 | ⟨k1, k2⟩ | ⟨k1, k2, k3⟩
    all_goals
      go_wp2_with fail
      refine (In_Fail g q _ _ 8 rfl hi).mono ?_
      rintro e w2 ⟨rfl, hi2, hg2⟩
      go_wp2
      go_ret
      exact ⟨_, rfl, by rw [HE.out]; exact own_empty rfl, by rw [HE.out]; exact hi2.ext ((Ext.refl _).alloc _), grown_then (grown_then hg hg2 (.inl rfl)) (((Ext.refl _).alloc _).any (some g)) (.inl rfl), by rintro b ⟨⟩; exact Nat.le_trans hg.size hg2.size⟩
  · have e : blobM most s = cutM (numM 4 s).1 (numM 4 s).2 := if_neg hc
    have HE := Lib.hid e
    clear e
    have hlen := cutM_len (numM 4 s).1 (numM 4 s).2
    have hcases : (¬ (numM 4 s).2.2 = 0) ∨ ((numM 4 s).2.2 = 0 ∧ 4096 < most ∧ ((numM 4 s).1 : Int) ≤ 4096) ∨ ((numM 4 s).2.2 = 0 ∧ 0 ≤ most ∧ most ≤ 4096 ∧ ((numM 4 s).1 : Int) ≤ most) := by omega
    clear hc hbad
    go_enter Tryd.func35, Tryd.ntmps35
    go_wp2_with fail
    refine (In_Four g q s _ h).mono ?_
    rintro e w1 ⟨rfl, hi, hg⟩
    go_wp2_with fail
    refine (In_Bad g q _ _ hi).mono ?_
    rintro e w2 ⟨rfl, rfl⟩
    rcases hcases with k1 | ⟨k1, k2, k3⟩ | ⟨k1, k2, k3, k4⟩
    all_goals
      go_wp2_with fail
      refine (In_cut g q _ _ (numM 4 s).1 (by omega) (hi.ext ((Ext.refl _).alloc _))).mono ?_
      rintro e w2 ⟨v2, rfl, hv2, hi2, hg2⟩
      obtain ⟨A, c, xs, hv', hlc, hc, hA, hcell, hall⟩ := hv2
      cases hv'
      have hsrc := src_bytes (w := w2) (F := fun b => b = q) (A := A) (c := c) (l := (cutM (numM 4 s).1 (numM 4 s).2).1) ⟨A, c, xs, rfl, hlc, hc, hA, hcell, hall⟩
      have hne : (Value.slice (some ⟨w1.heap.size, 0, none⟩) 0 0).ownBlock = none ∨ (Value.slice (some ⟨w1.heap.size, 0, none⟩) 0 0).ownBlock ≠ some g := by have := hi.lt; refine .inr ?_; simp [Value.ownBlock]; omega
      have hg3 : w1.grownBy w2 (some g) := grown_new hg2
      have hoe := Own.keep (e := 5) (size := 1) (own_empty (w := w1) rfl) hg2 hne
      go_wp2_with (at_builtin; refine wpList_app _ rfl (.tmp 25) (.tmp 29) _ _ rfl _ _ i0 _ 1 1 Tryd.underlying40 Tryd.underlying40 hi0 hz0 hz1 hz2 rfl (by decide) _ _ _ rfl hoe _ _ _ (bv (cutM (numM 4 s).1 (numM 4 s).2).1) rfl (by simp) hsrc (bv_one _) (by unfold maxLen; omega) (by omega) ?_; intro v3 w3 ho3 hm3; obtain ⟨A3, c3, hv3⟩ := ho3.form; rw [Nat.zero_add] at hv3; subst hv3)
      have hlg := hi.lt
      have hlq := hi.2.1
      have hs1 := hg.size
      have hs3 := hg3.size
      have hob : OwnB w3 (.slice A3 (cutM (numM 4 s).1 (numM 4 s).2).1.length c3) (cutM (numM 4 s).1 (numM 4 s).2).1 := by
        unfold OwnB
        rw [Nat.zero_add, List.nil_append] at ho3
        exact ho3
      have hgr : w2.grownBy w3 (some w1.heap.size) := hm3.grown
      go_ret
      refine ⟨_, rfl, by rw [HE.out]; exact hob, by rw [HE.out]; exact hi2.keep hgr (by simp; omega) (by simp; omega), grown_then (grown_then hg hg3 (.inl rfl)) hgr (.inr (by rintro _ ⟨⟩; omega)), ?_⟩
      intro b hb
      rcases hm3.at_ with e | e
      · have e2 : some b = some w1.heap.size := hb.symm.trans e
        cases e2
        exact hs1
      · have := e b hb
        omega
end
set_option maxHeartbeats 400000 in
theorem In_Of (vb : Value) (bs : List UInt8) (w : World) (F : Fp) (hb : (Ty.sl .u8).holds w F [vb] bs) (hr : bs.length ≤ 140737488355328) :
    Calls Tryd.prog 31 #[vb] w fun r w' => ∃ g q, r = .returned (.pointer (some ⟨g, 0, none⟩)) ∧ InAt w' g q (bs, 0) ∧ Ext w w' ∧ w.heap.size ≤ g ∧ w.heap.size ≤ q := by
  obtain ⟨i0, hi, hz0, hz1, hz2⟩ := info_parts u8_info
  have hb0 := hb
  obtain ⟨A, c, xs, hv, hlc, hc, hA, hcell, hall⟩ := hb
  cases hv
  have hsrc := src_bytes hb0
  go_enter Tryd.func31, Tryd.ntmps31
  go_wp2_with (at_builtin; refine wpList_app _ rfl (.tmp 3) (.tmp 4) _ _ rfl _ _ i0 _ 1 1 Tryd.underlying40 Tryd.underlying40 hi hz0 hz1 hz2 rfl (by decide) _ _ _ rfl (own_empty rfl) _ _ _ (bv bs) rfl (by simp) (hsrc.alloc (bv_ne bs) _) (bv_one _) (by unfold maxLen; omega) (by omega) ?_; intro v2 w2 ho2 hm2; obtain ⟨A2, c2, hv2⟩ := ho2.form; rw [Nat.zero_add] at hv2; subst hv2)
  have hob : OwnB w2 (.slice A2 bs.length c2) bs := by
    unfold OwnB
    rw [Nat.zero_add, List.nil_append] at ho2
    exact ho2
  have hfr : Fresh w w2 (.slice A2 bs.length c2) := (fresh_empty w 5).trans hm2
  go_ret
  obtain ⟨q, hq, hq2, hq3⟩ : ∃ q, w.heap.size ≤ q ∧ q < w2.heap.size ∧ (bs ≠ [] → (Value.slice A2 bs.length c2).ownBlock = some q) := by
    cases hA2 : (Value.slice A2 bs.length c2).ownBlock with
    | none =>
      have := hm2.grown.size
      refine ⟨w.heap.size, Nat.le_refl _, by simp at this; omega, fun hne => ?_⟩
      have hh := hob.holds
      obtain ⟨A', c', xs', hv', _, _, _, hcell', _⟩ := hh
      obtain ⟨ad, rfl, hF', _⟩ := hcell' hne
      rw [hA2] at hF'
      cases hF'
    | some q => exact ⟨q, Fresh.new hfr q hA2, hob.lt q hA2, fun _ => rfl⟩
  have hoh := (Ext.refl w2).alloc (.cells #[.slice A2 bs.length c2, .int .i64 0] 90)
  refine ⟨_, q, rfl, ⟨by omega, by simp; omega, rfl, fun h => absurd rfl h, .slice A2 bs.length c2, Blk.new _ _ _, ?_⟩, hfr.ext.trans hoh, hfr.ext.size, hq⟩
  obtain ⟨A', c', xs', hv', hlc', hc', hA', hcell', hall'⟩ := hob.holds
  cases hv'
  refine ⟨A2, c2, xs', rfl, hlc', hc', hA', fun hne => ?_, hall'⟩
  obtain ⟨ad, rfl, hF', hcs'⟩ := hcell' hne
  have hq4 := hq3 hne
  rw [hF'] at hq4
  exact ⟨ad, rfl, Option.some.inj hq4, hcs'.keep (hoh.block _ (hob.lt _ hF') (by simp))⟩
end Go.Proofs.YtchnjcghbbacoaaDoor

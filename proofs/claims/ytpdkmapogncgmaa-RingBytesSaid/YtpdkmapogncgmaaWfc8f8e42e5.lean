/- Walks and plain laws, put together in build order. Conditions: what each of them names. -/
import Derived.Test.YtpdkmapogncgmaaW20b5e5bfdc
set_option linter.unusedVariables false
set_option linter.unusedSimpArgs false
set_option linter.unnecessarySimpa false
namespace Go.Proofs.Ytpdkmapogncgmaa
section
open Go.RowKit

set_option maxHeartbeats 400000 in
set_option maxRecDepth 100000 in
theorem Ref_Num (vb : Value) (bs : List UInt8) (n size : Nat) (w : World) (F : Fp) (hb : (Ty.sl .u8).holds w F [vb] bs) (hF : ∀ b, F b → b < w.heap.size) (hn : n < 18446744073709551616) (hs : size ≤ 8) (hbb : bs.length + size ≤ 140737488355328) :
    Calls Try.prog 60 #[vb, .int .u64 n, .int .i64 size] w fun e w' => ∃ v', e = .returned v' ∧ OwnB w' v' (bs ++ be size n) ∧ Fresh w w' v' := by
  obtain ⟨i0, hi, hz0, hz1, hz2⟩ := info_parts u8_info
  obtain ⟨A, c, xs, hv, hlc, hc, hA, hcell, hall⟩ := hb
  cases hv
  go_enter Try.func60, Try.ntmps60
  go_wp2_with (at_make; refine wpList_make_full _ rfl _ _ _ rfl 0 _ i0 _ 1 Try.underlying62 hi hz0 hz1 .i64 .i64 size size size rfl rfl rfl rfl (by rw [hz2]; omega) (by unfold maxLen; omega) (Nat.zero_le _) ?_; intro w1 ho1 hg1)
  have hg1 : Ext w w1 := hg1
  have ho1 : Own w1 5 1 (.slice (some ⟨w.heap.size, 0, none⟩) size size) size (bv (beFill size size n)) := by
    have e : bv (beFill size size n) = (madeCells (Value.int .u8 0).cells (size * 1)).toList := by
      rw [show (Value.int .u8 0).cells = #[.int .u8 0] from rfl, toList_madeCells_one, Nat.mul_one]
      simp [beFill, bv, be_length]
    rw [e]; exact ho1
  go_loopw [1, 8] (fun nn i wr => ∃ j : Nat, j ≤ size ∧ i = .int .i64 ((j : Int) - 1) ∧ nn = .int .u64 ((n / 256 ^ (size - j) : Nat) : Int) ∧ Own wr 5 1 (.slice (some ⟨w.heap.size, 0, none⟩) size size) size (bv (beFill size j n)) ∧ Ext w wr) (fun _ i _ => (intOf i + 1).toNat)
  case atStart => exact ⟨size, by omega, rfl, by simp, ho1, hg1⟩
  case round =>
    obtain ⟨j, hj, rfl, rfl, hor, hxr⟩ := hrel
    by_cases hlt : 0 < j
    · have hcell0 := World.ownsRow.cellAt hor (j - 1) (by omega)
      obtain ⟨u0, hu0⟩ : ∃ u0, (bv (beFill size j n))[j - 1]? = some u0 := ⟨_, List.getElem?_eq_getElem (by rw [bv_length, beFill_length _ _ _ hj]; omega)⟩
      rw [hu0] at hcell0
      have hfr := World.ownsRow.frozenAt hor (j - 1)
      have hst := World.ownsRow.stored hor (j - 1) (.int .u8 ((UInt8.ofNat (n / 256 ^ (size - j))).toNat : Int))
      have hm : ((n / 256 ^ (size - j) : Nat) : Int) % 256 = ((UInt8.ofNat (n / 256 ^ (size - j))).toNat : Int) := by rw [UInt8.toNat_ofNat']; omega
      have hlow : n / 256 ^ (size - j) < 18446744073709551616 := Nat.lt_of_le_of_lt (Nat.div_le_self _ _) hn
      have hq := be_rest n size j hlt hj
      generalize hN : n / 256 ^ (size - j) = N at *
      have HM := Lib.hid hm
      have HQ := Lib.hid hq
      have HN := Lib.hid hN
      clear hm hq hN hu0
      go_wp2
      go_roundw
      case rel =>
        rw [HM.out]
        refine ⟨j - 1, by omega, by rw [show ((j - 1 : Nat) : Int) = (j : Int) - 1 by omega], by rw [← HQ.out, Int.natCast_ediv]; rfl, ?_, hxr.setCell (Nat.le_refl _) _⟩
        rw [← beFill_step size j n hlt hj, HN.out, bv_set]
        exact hst.1
      case measure => simp [intOf]; omega
    · obtain rfl : j = 0 := by omega
      have hb' : (Ty.sl .u8).holds wr F [.slice A bs.length c] bs := hxr.holds hF ⟨A, c, xs, rfl, hlc, hc, hA, hcell, hall⟩
      have hsrc := src_bytes hb'
      have hbe : beFill size 0 n = be size n := by simp [beFill]
      rw [hbe] at hor
      clear hbe
      go_wp2_with (first
        | (at_builtin; refine wpList_app _ rfl (.tmp 25) (.tmp 26) _ _ rfl _ _ i0 _ 1 1 Try.underlying62 Try.underlying62 hi hz0 hz1 hz2 rfl (by decide) _ _ _ rfl (own_empty rfl) _ _ _ (bv bs) rfl (by simp) (hsrc.alloc (bv_ne bs) _) (bv_one _) (by unfold maxLen; omega) (by omega) ?_; intro v2 w2 ho2 hm2; have hm3 : Fresh wr w2 v2 := (fresh_empty wr _).trans hm2; have hor2 := Own.ext hor hm3.ext)
        | (at_builtin; refine wpList_app _ rfl (.tmp 27) (.tmp 28) _ _ rfl _ _ i0 _ 1 1 Try.underlying62 Try.underlying62 hi hz0 hz1 hz2 rfl (by decide) _ _ _ rfl ho2 _ _ _ (bv (be size n)) rfl (by simp [be_length]) (own_src hor2) (bv_one _) (by unfold maxLen; omega) (by omega) ?_; intro v4 w4 ho4 hm4))
      go_ret
      refine ⟨_, rfl, ?_, Moved.pre hxr (hm3.trans hm4)⟩
      unfold OwnB
      rw [bv_append, List.length_append, be_length]
      simpa using ho4
end
section
open Go.RowKit

/-! ### The plain state: what is left, what is wrong -/
abbrev InS := List UInt8 × Int
def failM (e : Int) (s : InS) : InS := if s.2 = 0 ∧ e ≠ 0 then ([], e) else s
def cutM (n : Nat) (s : InS) : List UInt8 × InS := if s.2 ≠ 0 then ([], s) else if s.1.length < n then ([], ([], 9)) else (s.1.take n, (s.1.drop n, s.2))
def numM (n : Nat) (s : InS) : Nat × InS := (beNum (cutM n s).1, (cutM n s).2)
def sumM (s : InS) : List UInt8 × InS := ((cutM 32 s).1 ++ List.replicate (32 - (cutM 32 s).1.length) 0, (cutM 32 s).2)
def manyM (most : Int) (s : InS) : Int × InS := if most < ((numM 1 s).1 : Int) then (0, failM 8 (numM 1 s).2) else ((numM 1 s).1, (numM 1 s).2)
def blobM (most : Int) (s : InS) : List UInt8 × InS :=
  if (numM 4 s).2.2 = 0 ∧ (most < 0 ∨ min most 4096 < ((numM 4 s).1 : Int)) then ([], failM 8 (numM 4 s).2) else cutM (numM 4 s).1 (numM 4 s).2
def endM (s : InS) : InS := if 0 < s.1.length then failM 10 s else s

/-- The object in memory: its block, the block of its bytes. -/
def InAt (w : World) (g q : Nat) (s : InS) : Prop := q ≠ g ∧ q < w.heap.size ∧ (Lit.int .i64 s.2).wf = true ∧ (s.2 ≠ 0 → s.1 = []) ∧ ∃ vl, Blk w g 103 [vl, .int .i64 s.2] ∧ (Ty.sl .u8).holds w (fun b => b = q) [vl] s.1
theorem InAt.keep {w w' : World} {g q : Nat} {s : InS} {row : Option Nat} (h : InAt w g q s) (hg : w.grownBy w' row) (h1 : some g ≠ row) (h2 : some q ≠ row) : InAt w' g q s := by
  obtain ⟨h0, hq, hw, he, vl, hb, hl⟩ := h
  exact ⟨h0, Nat.lt_of_lt_of_le hq hg.size, hw, he, vl, hb.keep hg h1, Ty.keep (by rintro b rfl; exact hg.block _ hq h2) (fun _ h => h) _ hl⟩
theorem InAt.ext {w w' : World} {g q : Nat} {s : InS} (h : InAt w g q s) (hg : Ext w w') : InAt w' g q s := h.keep hg (by simp) (by simp)
theorem InAt.lt {w : World} {g q : Nat} {s : InS} (h : InAt w g q s) : g < w.heap.size := by obtain ⟨_, _, _, _, vl, hb, _⟩ := h; exact hb.lt

section
variable (g q : Nat) (s : InS) (w : World)

set_option maxHeartbeats 400000 in
theorem In_Bad (h : InAt w g q s) : Calls Try.prog 31 #[.pointer (some ⟨g, 0, none⟩)] w fun e w' => e = .returned (.int .i64 s.2) ∧ w = w' := by
  obtain ⟨h0, hq, hw, he, vl, hb, hl⟩ := h
  have hc1 := hb.cell 1
  simp only [List.getElem?_cons_succ, List.getElem?_cons_zero] at hc1
  go_enter Try.func31, Try.ntmps31
  go_wp2
  go_ret
  exact ⟨rfl, rfl⟩
set_option maxHeartbeats 400000 in
theorem In_Left (h : InAt w g q s) : Calls Try.prog 32 #[.pointer (some ⟨g, 0, none⟩)] w fun e w' => e = .returned (.int .i64 s.1.length) ∧ w = w' := by
  obtain ⟨h0, hq, hw, he, vl, hb, hl⟩ := h
  obtain ⟨A, c, xs, hv, _⟩ := hl
  cases hv
  have hc0 := hb.cell 0
  simp only [List.getElem?_cons_zero] at hc0
  go_enter Try.func32, Try.ntmps32
  go_wp2
  go_ret
  exact ⟨rfl, rfl⟩
set_option maxHeartbeats 400000 in
theorem In_Fail (e : Int) (hew : (Lit.int .i64 e).wf = true) (h : InAt w g q s) : Calls Try.prog 62 #[.pointer (some ⟨g, 0, none⟩), .int .i64 e] w fun r w' => r = .returned (.tuple #[]) ∧ InAt w' g q (failM e s) ∧ w.grownBy w' (some g) := by
  obtain ⟨bs, bad⟩ := s
  have hh := h
  obtain ⟨h0, hq, hw, he, vl, hb, hl⟩ := h
  have hc0 := hb.cell 0
  have hc1 := hb.cell 1
  have hf0 := hb.free 0
  have hf1 := hb.free 1
  simp only [List.getElem?_cons_succ, List.getElem?_cons_zero] at hc0 hc1
  by_cases hbad : bad = 0
  · subst hbad
    by_cases hz : e = 0
    · subst hz
      go_enter Try.func62, Try.ntmps62
      go_wp2
      go_end0
      exact ⟨rfl, by simpa [failM] using hh, World.grownBy.refl _ _⟩
    · have hz1 : (e == (0 : Int)) = false := by simp [hz]
      have hz2 : (e != (0 : Int)) = true := by simp [hz]
      have hm : failM e (bs, 0) = ([], e) := by simp [failM, hz]
      have HM := Lib.hid hm
      have hfin : InAt ((w.setCell ⟨g, 0, none⟩ (.slice none 0 0)).setCell ⟨g, 1, none⟩ (.int .i64 e)) g q ([], e) :=
        ⟨h0, by simpa using hq, hew, fun _ => rfl, .slice none 0 0, by have := (hb.set 0 (.slice none 0 0)).set 1 (.int .i64 e); simpa using this, ⟨none, 0, [], rfl, by simp, by simp [maxLen], fun _ => rfl, fun h => absurd rfl h, rfl⟩⟩
      have hgr : w.grownBy ((w.setCell ⟨g, 0, none⟩ (.slice none 0 0)).setCell ⟨g, 1, none⟩ (.int .i64 e)) (some g) := (only_set 0 _).trans (only_set 1 _)
      have HFIN := Lib.hid hfin
      have HGR := Lib.hid hgr
      clear hm hz hfin hgr
      go_enter Try.func62, Try.ntmps62
      go_wp2
      go_end0
      exact ⟨rfl, by rw [HM.out]; exact HFIN.out, HGR.out⟩
  · have hz1 : (bad == (0 : Int)) = false := by simp [hbad]
    have hm : failM e (bs, bad) = (bs, bad) := by simp [failM, hbad]
    have HM := Lib.hid hm
    clear hm hbad
    go_enter Try.func62, Try.ntmps62
    go_wp2
    go_end0
    exact ⟨rfl, by rw [HM.out]; exact hh, World.grownBy.refl _ _⟩

set_option maxHeartbeats 400000 in
theorem In_cut (n : Nat) (hn : n < 9223372036854775808) (h : InAt w g q s) : Calls Try.prog 76 #[.pointer (some ⟨g, 0, none⟩), .int .i64 n] w fun r w' => ∃ v, r = .returned v ∧ (Ty.sl .u8).holds w' (fun b => b = q) [v] (cutM n s).1 ∧ InAt w' g q (cutM n s).2 ∧ w.grownBy w' (some g) := by
  obtain ⟨bs, bad⟩ := s
  have hh := h
  obtain ⟨h0, hq, hw, he, vl, hb, hl⟩ := h
  by_cases hbad : bad = 0
  · subst hbad
    obtain ⟨A, c, xs, hv, hlc, hc, hA, hcell, hall⟩ := hl
    cases hv
    have hl : (Ty.sl .u8).holds w (fun b => b = q) [.slice A bs.length c] bs := ⟨A, c, xs, rfl, hlc, hc, hA, hcell, hall⟩
    have hc0 := hb.cell 0
    have hf0 := hb.free 0
    simp only [List.getElem?_cons_zero] at hc0
    by_cases hlt : bs.length < n
    · have hm : cutM n (bs, 0) = ([], failM 9 (bs, 0)) := by simp [cutM, hlt, failM]
      have HM := Lib.hid hm
      clear hm
      go_enter Try.func76, Try.ntmps76
      go_wp2_with fail
      refine (In_Bad g q _ _ hh).mono ?_
      rintro e w1 ⟨rfl, rfl⟩
      go_wp2_with fail
      refine (In_Fail g q _ _ 9 rfl hh).mono ?_
      rintro e w1 ⟨rfl, hi, hg⟩
      go_wp2
      go_ret
      exact ⟨_, rfl, by rw [HM.out]; exact ⟨none, 0, [], rfl, by simp, by simp [maxLen], fun _ => rfl, fun h => absurd rfl h, rfl⟩, by rw [HM.out]; exact hi, hg⟩
    · have hm : cutM n (bs, 0) = (bs.take n, (bs.drop n, 0)) := by simp [cutM, hlt]
      have HM := Lib.hid hm
      have hd := holds_drop hl (n := n) (by omega)
      have ht := holds_take hl (n := n) (by omega)
      have HD := Lib.hid hd
      have HT := Lib.hid ht
      have HLD := Lib.hid (List.length_drop : (bs.drop n).length = bs.length - n)
      clear hm hd ht
      unfold maxLen at hc
      go_enter Try.func76, Try.ntmps76
      go_wp2_with fail
      refine (In_Bad g q _ _ hh).mono ?_
      rintro e w1 ⟨rfl, rfl⟩
      have H0 : ∀ u, w.grownBy (w.setCell ⟨g, 0, none⟩ u) (some g) := fun u => only_set 0 u
      have H1 : ∀ u, (Ty.sl .u8).holds w (fun b => b = q) [u] (bs.drop n) → InAt (w.setCell ⟨g, 0, none⟩ u) g q (bs.drop n, 0) := fun u hu =>
        ⟨h0, by simpa using hq, hw, fun h => absurd rfl h, u, by simpa using hb.set 0 u, Ty.keep (by rintro b rfl; exact (H0 u).block _ hq (by simpa using h0)) (fun _ h => h) _ hu⟩
      have H2 : ∀ u v, (Ty.sl .u8).holds w (fun b => b = q) [v] (bs.take n) → (Ty.sl .u8).holds (w.setCell ⟨g, 0, none⟩ u) (fun b => b = q) [v] (bs.take n) := fun u v hv => Ty.keep (by rintro b rfl; exact (H0 u).block _ hq (by simpa using h0)) (fun _ h => h) _ hv
      have H1 := Lib.hid H1
      have H2 := Lib.hid H2
      go_wp2
      · have hcn : c = n := by assumption
        subst hcn
        go_ret
        exact ⟨_, rfl, by rw [HM.out]; exact H2.out _ _ HT.out, by rw [HM.out]; exact H1.out _ (by have := HD.out; rwa [if_pos rfl, Nat.sub_self] at this), H0 _⟩
      · have hcn : ¬c = n := by assumption
        go_ret
        exact ⟨_, rfl, by rw [HM.out]; exact H2.out _ _ HT.out, by rw [HM.out]; exact H1.out _ (by have := HD.out; rwa [if_neg hcn] at this), H0 _⟩
  · have hm : cutM n (bs, bad) = ([], (bs, bad)) := by simp [cutM, hbad]
    have HM := Lib.hid hm
    clear hm
    have hz1 : (bad == (0 : Int)) = false := by simp [hbad]
    go_enter Try.func76, Try.ntmps76
    go_wp2_with fail
    refine (In_Bad g q _ _ hh).mono ?_
    rintro e w1 ⟨rfl, rfl⟩
    go_wp2
    go_ret
    exact ⟨_, rfl, by rw [HM.out]; exact ⟨none, 0, [], rfl, by simp, by simp [maxLen], fun _ => rfl, fun h => absurd rfl h, rfl⟩, by rw [HM.out]; exact hh, World.grownBy.refl _ _⟩

theorem be_or (n : Nat) (b : UInt8) : (n * 256) ||| b.toNat = n * 256 + b.toNat := by
  have := Nat.shiftLeft_add_eq_or_of_lt (i := 8) (b := b.toNat) b.toNat_lt n
  rw [Nat.shiftLeft_eq] at this
  exact this.symm
theorem cutM_len (n : Nat) (s : InS) : (cutM n s).1.length ≤ n := by
  unfold cutM
  split
  · simp
  split
  · simp
  · simp; omega

set_option maxHeartbeats 400000 in
theorem In_num (n : Nat) (hn : n ≤ 8) (h : InAt w g q s) : Calls Try.prog 74 #[.pointer (some ⟨g, 0, none⟩), .int .i64 n] w fun r w' => r = .returned (.int .u64 (numM n s).1) ∧ InAt w' g q (numM n s).2 ∧ w.grownBy w' (some g) := by
  go_enter Try.func74, Try.ntmps74
  go_wp2_with fail
  refine (In_cut g q s _ n (by omega) h).mono ?_
  rintro e w1 ⟨v, rfl, hv, hi, hg⟩
  have hl := cutM_len n s
  have hi : InAt w1 g q (numM n s).2 := hi
  have e1 : beNum (cutM n s).1 = (numM n s).1 := rfl
  generalize (cutM n s).1 = bs at *
  have E1 := Lib.hid e1
  clear e1
  obtain ⟨A, c, xs, hv', hlc, hc, hA, hcell, hall⟩ := hv
  cases hv'
  unfold maxLen at hc
  go_wp2
  go_loopw [5, 12] (fun m i wr => wr = w1 ∧ ∃ k : Nat, k ≤ bs.length ∧ i = .int .i64 k ∧ m = .int .u64 ((beNum (bs.take k) : Nat) : Int)) (fun _ i _ => bs.length - (intOf i).toNat)
  case atStart => exact ⟨rfl, 0, by omega, rfl, rfl⟩
  case round =>
    obtain ⟨rfl, k, hk, rfl, rfl⟩ := hrel
    by_cases hlt : k < bs.length
    · obtain ⟨ad, rfl, hFa, hcells⟩ := hcell (by rintro rfl; simp at hlt)
      have hx := AllH.u8_at hall hlt
      have hcx := hcells k _ hx
      have hst := beNum_step bs k hlt
      have hbd := beNum_lt (bs.take k)
      have hor := be_or (beNum (bs.take k)) bs[k]
      rw [← hst] at hor
      have hb1 := bs[k].toNat_lt
      have hlow : beNum (bs.take k) < 256 ^ 7 := Nat.lt_of_lt_of_le hbd (Nat.pow_le_pow_right (by omega) (by simp; omega))
      generalize hM : beNum (bs.take k) = M at *
      have HM := Lib.hid hM
      clear hM
      clear hx hbd
      go_wp2
      go_roundw
      case rel =>
        refine ⟨trivial, k + 1, by omega, by go_num, ?_⟩
        have h1 : M * 256 < 18446744073709551616 := by omega
        rw [show (M : Int) * 256 = ((M * 256 : Nat) : Int) from (Int.natCast_mul M 256).symm, bits_or_u64_nat _ _ h1 (by omega), hor]
      case measure => simp [intOf]; omega
    · obtain rfl : k = bs.length := by omega
      rw [List.take_length, E1.out]
      go_wp2
      go_ret
      exact ⟨rfl, hi, hg⟩
theorem numM_lt (n : Nat) (s : InS) : (numM n s).1 < 256 ^ n := Nat.lt_of_lt_of_le (beNum_lt _) (Nat.pow_le_pow_right (by omega) (cutM_len n s))

set_option maxHeartbeats 400000 in
theorem In_One (h : InAt w g q s) : Calls Try.prog 75 #[.pointer (some ⟨g, 0, none⟩)] w fun r w' => r = .returned (.int .u8 (numM 1 s).1) ∧ InAt w' g q (numM 1 s).2 ∧ w.grownBy w' (some g) := by
  have hl : (numM 1 s).1 < 256 := numM_lt 1 s
  go_enter Try.func75, Try.ntmps75
  go_wp2_with fail
  refine (In_num g q s _ 1 (by omega) h).mono ?_
  rintro e w1 ⟨rfl, hi, hg⟩
  go_wp2
  go_ret
  exact ⟨rfl, hi, hg⟩
set_option maxHeartbeats 400000 in
theorem In_Four (h : InAt w g q s) : Calls Try.prog 48 #[.pointer (some ⟨g, 0, none⟩)] w fun r w' => r = .returned (.int .u32 (numM 4 s).1) ∧ InAt w' g q (numM 4 s).2 ∧ w.grownBy w' (some g) := by
  have hl : (numM 4 s).1 < 4294967296 := numM_lt 4 s
  go_enter Try.func48, Try.ntmps48
  go_wp2_with fail
  refine (In_num g q s _ 4 (by omega) h).mono ?_
  rintro e w1 ⟨rfl, hi, hg⟩
  go_wp2
  go_ret
  exact ⟨rfl, hi, hg⟩
/-- What an In's call leaves of the rest. -/
theorem grown_new {w w' : World} {g : Nat} {o : Obj} (h : (w.alloc o).grownBy w' (some g)) : w.grownBy w' (some g) := grown_then (((Ext.refl w).alloc o).any _) h (.inl rfl)
set_option maxRecDepth 100000 in
set_option maxHeartbeats 400000 in
theorem In_Sum (h : InAt w g q s) : Calls Try.prog 51 #[.pointer (some ⟨g, 0, none⟩)] w fun r w' => r = .returned (.agg (bv (sumM s).1).toArray) ∧ InAt w' g q (sumM s).2 ∧ w.grownBy w' (some g) := by
  have hu8 : (Try.prog.info? 5).map (·.size) = some 1 := by kernel_rfl
  have hlg := h.lt
  have hlen := cutM_len 32 s
  have hz := zero32
  have hzl : (bv (List.replicate 32 0)).length = 32 := by rw [bv_length, List.length_replicate]
  generalize hZ : bv (List.replicate 32 0) = Z at hz hzl
  have hb0 : (((w.alloc (.cells Z.toArray 55)).alloc (.cells Z.toArray 55)).drew).heap[w.heap.size + 1]? = some (.cells Z.toArray 55 (0, 0)) := by
    have := heap_alloc_new (w.alloc (.cells Z.toArray 55)) (.cells Z.toArray 55)
    rwa [show (w.alloc (.cells Z.toArray 55)).heap.size = w.heap.size + 1 by simp] at this
  have hsz : w.heap.size + 1 < (((w.alloc (.cells Z.toArray 55)).alloc (.cells Z.toArray 55)).drew).heap.size := by
    show w.heap.size + 1 < ((w.alloc (.cells Z.toArray 55)).alloc (.cells Z.toArray 55)).heap.size
    simp
  have hne : some (w.heap.size + 1) ≠ some g := by simp; omega
  have hmin : (cutM 32 s).1.length = min (cutM 32 s).1.length 32 := by omega
  have hfit : 0 + (cutM 32 s).1.length ≤ Z.length := by rw [hzl]; omega
  have HZ := Lib.hid hZ
  have HZL := Lib.hid hzl
  have HM := Lib.hid hmin
  have HFI := Lib.hid hfit
  clear hZ hzl hmin hfit
  go_enter Try.func51, Try.ntmps51
  go_wp2_with (first
    | (refine wpList_alloc _ rfl 55 rfl _ hz ?_)
    | fail)
  go_region_held_law (fun _ => True) (trivial)
    (first
      | (go_at_call 76
         refine (In_cut g q s _ 32 (by omega) ((h.ext (((Ext.refl _).alloc _).alloc _)).ext (Ext.refl _).drew)).mono ?_
         rintro e w1 ⟨v, rfl, hv, hi, hg⟩
         obtain ⟨A, c, xs, hv', hlc, hc, hA, hcell, hall⟩ := hv
         cases hv'
         have hsrc := src_bytes (w := w1) (F := fun b => b = q) (A := A) (c := c) (l := (cutM 32 s).1) ⟨A, c, xs, rfl, hlc, hc, hA, hcell, hall⟩
         have hg1 := grown_new (grown_new (grown_then ((Ext.refl _).drew.any _) hg (.inl rfl)))
         have hb1 := (hg.block _ hsz hne).trans hb0)
      | (refine step_copyB rfl (.tmp 4) (.tmp 6) 62 62 rfl 5 Try.underlying62 hu8 (w.heap.size + 1) 0 32 32 rfl A (cutM 32 s).1.length c rfl (cutM 32 s).1 rfl hsrc Z 55 hb1 (cutM 32 s).1.length HM.out HFI.out ?_; intro w2 hb2 hg2))
  have hsz0 : w.heap.size < (((w.alloc (.cells Z.toArray 55)).alloc (.cells Z.toArray 55)).drew).heap.size := Nat.lt_of_succ_lt hsz
  have hbR : w2.heap[w.heap.size]? = some (.cells Z.toArray 55 (0, 0)) := by
    rw [hg2.block _ (Nat.lt_of_lt_of_le hsz0 hg.size) (by simp), hg.block _ hsz0 (by simp; omega)]
    show ((w.alloc (.cells Z.toArray 55)).alloc (.cells Z.toArray 55)).heap[w.heap.size]? = _
    rw [heap_alloc_old _ _ (by simp), heap_alloc_new]
  have hl3 : (sumM s).1.length = 32 := by show ((cutM 32 s).1 ++ List.replicate (32 - (cutM 32 s).1.length) 0).length = 32; rw [List.length_append, List.length_replicate]; omega
  have hc3 : Cells w2 ⟨w.heap.size + 1, 0, none⟩ (bv (sumM s).1) := by
    have := Cells.of_block hb2
    rw [← HZ.out] at this
    have e : (List.take 0 (bv (List.replicate 32 0)) ++ bv ((cutM 32 s).1.take (cutM 32 s).1.length) ++ List.drop (0 + (cutM 32 s).1.length) (bv (List.replicate 32 0))) = bv (sumM s).1 := by
      show _ = bv ((cutM 32 s).1 ++ List.replicate (32 - (cutM 32 s).1.length) 0)
      rw [bv_append, List.take_zero, List.nil_append, List.take_length, Nat.zero_add]
      congr 1
      rw [bv, ← List.map_drop, List.drop_replicate]
      rfl
    rw [e] at this
    exact this
  have hgA : w.grownBy w1 (some g) := grown_new (grown_new (grown_then ((Ext.refl _).drew.any _) hg (.inl rfl)))
  have hl3' : (bv (sumM s).1).length = 32 := by rw [bv_length]; exact hl3
  have hi2 : InAt w2 g q (sumM s).2 := hi.keep hg2 (by simp; omega) (by have := h.2.1; simp; omega)
  have hgB : w.grownBy w2 (some g) := grown_then hgA hg2 (.inr (by rintro _ ⟨⟩; omega))
  go_wp2_with (first
    | (refine wpList_load_agg _ rfl 55 (.tmp 3) rfl _ rfl (bv (sumM s).1) _ Try.underlying55 rfl (by rw [hl3']; kernel_rfl) hc3 ?_)
    | (refine wpList_store_row _ rfl 55 (.tmp 2) (.tmp 8) rfl _ rfl Z (bv (sumM s).1) _ rfl hbR (by rw [hl3']; kernel_rfl) (by rw [hl3', HZL.out]) (bv_one _) ?_)
    | fail)
  have hc4 : Cells (w2.setRow w.heap.size (bv (sumM s).1).toArray) ⟨w.heap.size, 0, none⟩ (bv (sumM s).1) := by have := Cells.of_block (setRow_at (cs' := (bv (sumM s).1).toArray) hbR); simpa using this
  (try simp only [Exit.inBlock, Exit.then])
  refine bodyPost_ret (results_agg rfl _ _ _ _ _ rfl Try.underlying55 rfl (by rw [hl3']; kernel_rfl) hc4) rfl ?_
  exact ⟨rfl, hi2.keep (setRow_only _) (by simp; omega) (by have := h.2.1; simp; omega), grown_then hgB (setRow_only _) (.inr (by rintro _ ⟨⟩; omega))⟩

theorem manyM_big {most : Int} {s : InS} (h : most < ((numM 1 s).1 : Int)) : manyM most s = (0, failM 8 (numM 1 s).2) := if_pos h
theorem manyM_ok {most : Int} {s : InS} (h : ¬ most < ((numM 1 s).1 : Int)) : manyM most s = (((numM 1 s).1 : Int), (numM 1 s).2) := if_neg h
set_option maxHeartbeats 400000 in
theorem In_Many (most : Int) (_hm : (Lit.int .i64 most).wf = true) (h : InAt w g q s) : Calls Try.prog 49 #[.pointer (some ⟨g, 0, none⟩), .int .i64 most] w fun r w' => r = .returned (.int .i64 (manyM most s).1) ∧ InAt w' g q (manyM most s).2 ∧ w.grownBy w' (some g) := by
  have hl : (numM 1 s).1 < 256 := numM_lt 1 s
  by_cases hb : most < ((numM 1 s).1 : Int)
  · rw [manyM_big hb]
    go_enter Try.func49, Try.ntmps49
    go_wp2_with fail
    refine (In_One g q s _ h).mono ?_
    rintro e w1 ⟨rfl, hi, hg⟩
    go_wp2_with fail
    refine (In_Fail g q _ _ 8 rfl hi).mono ?_
    rintro e w2 ⟨rfl, hi2, hg2⟩
    go_wp2
    go_ret
    exact ⟨rfl, hi2, grown_then hg hg2 (.inl rfl)⟩
  · rw [manyM_ok hb]
    go_enter Try.func49, Try.ntmps49
    go_wp2_with fail
    refine (In_One g q s _ h).mono ?_
    rintro e w1 ⟨rfl, hi, hg⟩
    go_wp2
    go_ret
    exact ⟨rfl, hi, hg⟩
set_option maxHeartbeats 400000 in
theorem In_End (h : InAt w g q s) : Calls Try.prog 35 #[.pointer (some ⟨g, 0, none⟩)] w fun r w' => r = .returned (.int .i64 (endM s).2) ∧ InAt w' g q (endM s) ∧ w.grownBy w' (some g) := by
  by_cases hb : 0 < s.1.length
  · have e : endM s = failM 10 s := if_pos hb
    rw [e]
    go_enter Try.func35, Try.ntmps35
    go_wp2_with fail
    refine (In_Left g q s _ h).mono ?_
    rintro e w1 ⟨rfl, rfl⟩
    go_wp2_with fail
    refine (In_Fail g q _ _ 10 rfl h).mono ?_
    rintro e w2 ⟨rfl, hi2, hg2⟩
    go_wp2_with fail
    refine (In_Bad g q _ _ hi2).mono ?_
    rintro e w3 ⟨rfl, rfl⟩
    go_wp2
    go_ret
    exact ⟨rfl, hi2, hg2⟩
  · have e : endM s = s := if_neg hb
    rw [e]
    go_enter Try.func35, Try.ntmps35
    go_wp2_with fail
    refine (In_Left g q s _ h).mono ?_
    rintro e w1 ⟨rfl, rfl⟩
    go_wp2_with fail
    refine (In_Bad g q _ _ h).mono ?_
    rintro e w3 ⟨rfl, rfl⟩
    go_wp2
    go_ret
    exact ⟨rfl, h, World.grownBy.refl _ _⟩
end
set_option maxHeartbeats 400000 in
theorem In_Of (vb : Value) (bs : List UInt8) (w : World) (F : Fp) (hb : (Ty.sl .u8).holds w F [vb] bs) (hr : bs.length ≤ 140737488355328) :
    Calls Try.prog 27 #[vb] w fun r w' => ∃ g q, r = .returned (.pointer (some ⟨g, 0, none⟩)) ∧ InAt w' g q (bs, 0) ∧ Ext w w' ∧ w.heap.size ≤ g ∧ w.heap.size ≤ q := by
  obtain ⟨i0, hi, hz0, hz1, hz2⟩ := info_parts u8_info
  have hb0 := hb
  obtain ⟨A, c, xs, hv, hlc, hc, hA, hcell, hall⟩ := hb
  cases hv
  have hsrc := src_bytes hb0
  go_enter Try.func27, Try.ntmps27
  go_wp2_with (at_builtin; refine wpList_app _ rfl (.tmp 3) (.tmp 4) _ _ rfl _ _ i0 _ 1 1 Try.underlying62 Try.underlying62 hi hz0 hz1 hz2 rfl (by decide) _ _ _ rfl (own_empty rfl) _ _ _ (bv bs) rfl (by simp) (hsrc.alloc (bv_ne bs) _) (bv_one _) (by unfold maxLen; omega) (by omega) ?_; intro v2 w2 ho2 hm2; obtain ⟨A2, c2, hv2⟩ := ho2.form; rw [Nat.zero_add] at hv2; subst hv2)
  have hob : OwnB w2 (.slice A2 bs.length c2) bs := by
    unfold OwnB
    rw [Nat.zero_add, List.nil_append] at ho2
    exact ho2
  have hfr : Fresh w w2 (.slice A2 bs.length c2) := (fresh_empty w 5).trans hm2
  go_ret
  obtain ⟨q, hq, hq2, hq3⟩ : ∃ q, w.heap.size ≤ q ∧ q < w2.heap.size ∧ (bs ≠ [] → (Value.slice A2 bs.length c2).ownBlock = some q) := by
    cases hA2 : (Value.slice A2 bs.length c2).ownBlock with
    | none =>
      have := hm2.grown.size
      refine ⟨w.heap.size, Nat.le_refl _, by simp at this; omega, fun hne => ?_⟩
      have hh := hob.holds
      obtain ⟨A', c', xs', hv', _, _, _, hcell', _⟩ := hh
      obtain ⟨ad, rfl, hF', _⟩ := hcell' hne
      rw [hA2] at hF'
      cases hF'
    | some q => exact ⟨q, Fresh.new hfr q hA2, hob.lt q hA2, fun _ => rfl⟩
  have hoh := (Ext.refl w2).alloc (.cells #[.slice A2 bs.length c2, .int .i64 0] 103)
  refine ⟨_, q, rfl, ⟨by omega, by simp; omega, rfl, fun h => absurd rfl h, .slice A2 bs.length c2, Blk.new _ _ _, ?_⟩, hfr.ext.trans hoh, hfr.ext.size, hq⟩
  obtain ⟨A', c', xs', hv', hlc', hc', hA', hcell', hall'⟩ := hob.holds
  cases hv'
  refine ⟨A2, c2, xs', rfl, hlc', hc', hA', fun hne => ?_, hall'⟩
  obtain ⟨ad, rfl, hF', hcs'⟩ := hcell' hne
  have hq4 := hq3 hne
  rw [hF'] at hq4
  exact ⟨ad, rfl, Option.some.inj hq4, hcs'.keep (hoh.block _ (hob.lt _ hF') (by simp))⟩
end
section
open Go.RowKit

/-- What is left behind k sums. -/
def stT (s : InS) : Nat → InS
  | 0 => s
  | k + 1 => (sumM (stT s k)).2
def takeO (s : InS) (k : Nat) : List UInt8 := (sumM (stT s k)).1.take 16
def takeT (s : InS) (k : Nat) : List UInt8 := (sumM (stT s k)).1.drop 16
theorem sumM_length (s : InS) : (sumM s).1.length = 32 := by
  have h := cutM_len 32 s
  show ((cutM 32 s).1 ++ List.replicate (32 - (cutM 32 s).1.length) 0).length = 32
  rw [List.length_append, List.length_replicate]; omega
theorem takeO_length (s : InS) (k : Nat) : (takeO s k).length = 16 := by unfold takeO; rw [List.length_take, sumM_length]; rfl
theorem takeT_length (s : InS) (k : Nat) : (takeT s k).length = 16 := by unfold takeT; rw [List.length_drop, sumM_length]
def takeS (s : InS) : List UInt8 := piecesM (takeO s) 32 ++ piecesM (takeT s) 32
theorem takeS_length (s : InS) : (takeS s).length = 1024 := by
  unfold takeS
  rw [List.length_append, piecesM_length (takeO_length s), piecesM_length (takeT_length s)]
theorem take_open (s : InS) {k : Nat} (h : k < 32) : ((bv (takeS s)).drop (k * 16)).take 16 = bv (takeO s k) := by
  have e := pieceAt_pieces (takeO_length s) h
  have hl : (piecesM (takeO s) 32).length = 512 := piecesM_length (takeO_length s) 32
  unfold pieceAt at e
  rw [← e, bv, ← List.map_drop, ← List.map_take, takeS, List.drop_append_of_le_length (by rw [hl]; omega), List.take_append_of_le_length (by rw [List.length_drop, hl]; omega), Nat.mul_comm 16 k]
  rfl
theorem take_other (s : InS) {k : Nat} (h : k < 32) : ((bv (takeS s)).drop (512 + k * 16)).take 16 = bv (takeT s k) := by
  have e := pieceAt_pieces (takeT_length s) h
  have hl : (piecesM (takeO s) 32).length = 512 := piecesM_length (takeO_length s) 32
  unfold pieceAt at e
  rw [← e, bv, ← List.map_drop, ← List.map_take, takeS, ← List.drop_drop, List.drop_left' hl, Nat.mul_comm 16 k]
  rfl
theorem putAt_of (cur : List Value) (off : Nat) (P : List UInt8) (h : P.length = 16) : cur.take off ++ bv (P.take 16) ++ cur.drop (off + 16) = putAt cur off (bv P) := by
  have e : P.take 16 = P := List.take_of_length_le (by omega)
  unfold putAt
  rw [e, bv_length, h]
theorem tsig_size {n : Nat} (h : n = 1024) : (Try.prog.info? 36).map (·.size) = some n := by subst h; kernel_rfl
set_option maxRecDepth 100000 in
set_option maxHeartbeats 8000000 in
theorem Take {g q : Nat} {s : InS} (w : World) (h : InAt w g q s) :
    Calls Try.prog 50 #[.pointer (some ⟨g, 0, none⟩)] w fun e w' => e = .returned (.agg (bv (takeS s)).toArray) ∧ InAt w' g q (stT s 32) ∧ w.grownBy w' (some g) := by
  obtain ⟨Z, hz, hzl, hzo⟩ : ∃ Z : List Value, (Try.prog.info? 36).bind (fun i => i.zero.map (·.cells)) = some Z.toArray ∧ Z.length = 1024 ∧ ∀ u ∈ Z, u.oneCell' = true := ⟨_, zSigTo04, List.length_replicate, fun u hu => by rw [List.eq_of_mem_replicate hu]; rfl⟩
  obtain ⟨ZD, hzd, hzdl⟩ : ∃ ZD : List Value, (Try.prog.info? 55).bind (fun i => i.zero.map (·.cells)) = some ZD.toArray ∧ ZD.length = 32 := ⟨_, digest_zero, by simp⟩
  have hgl := h.lt
  have hql : q < w.heap.size := h.2.1
  have hC : (bv (takeS s)).length = 1024 := by rw [bv_length, takeS_length]
  have hone := bv_one (takeS s)
  have hop := fun k (h : k < 32) => take_open s h
  have hot := fun k (h : k < 32) => take_other s h
  have hb2 : Blk ((w.alloc (.cells Z.toArray 36)).alloc (.cells Z.toArray 36)) w.heap.size 36 Z := (Blk.new _ _ _).keep ((Ext.refl _).alloc _) (by simp)
  have hb3 : Blk ((w.alloc (.cells Z.toArray 36)).alloc (.cells Z.toArray 36)) (w.heap.size + 1) 36 Z := Blk.fresh (by simp) _ _
  have hx0 : Ext w ((w.alloc (.cells Z.toArray 36)).alloc (.cells Z.toArray 36)) := ((Ext.refl w).alloc _).alloc _
  have hin := h.ext hx0
  have hg0 : w.grownBy ((w.alloc (.cells Z.toArray 36)).alloc (.cells Z.toArray 36)) (some g) := hx0.any _
  generalize bv (takeS s) = C at *
  have HB2 := Lib.hid hb2
  have HB3 := Lib.hid hb3
  have HIN := Lib.hid hin
  have HG0 := Lib.hid hg0
  have HCL := Lib.hid hC
  have HZL := Lib.hid hzl
  have HZDL := Lib.hid hzdl
  have HOP := Lib.hid hop
  have HOT := Lib.hid hot
  have HGL := Lib.hid hgl
  have HQL := Lib.hid hql
  clear hb2 hb3 hx0 hin hg0 hC hzl hzdl hop hot hgl hql h
  go_enter Try.func50, Try.ntmps50
  go_wp2_with (first
    | (refine wpList_alloc _ rfl 36 rfl _ hz ?_)
    | fail)
  go_loopw [4, 5, 6] (fun p r i wr => ∃ k : Nat, k ≤ 32 ∧ i = .int .i64 k ∧ w.grownBy wr (some g) ∧ InAt wr g q (stT s k) ∧ Blk wr w.heap.size 36 Z ∧ Blk wr (w.heap.size + 1) 36 (mixAt C Z k)) (fun _ _ i _ => 32 - (intOf i).toNat)
  case atStart => exact ⟨0, by omega, rfl, HG0.out, HIN.out, HB2.out, by rw [mixAt_zero C Z HCL.out HZL.out]; exact HB3.out⟩
  case round =>
    clear HG0 HIN HB2 HB3
    obtain ⟨k, hk, rfl, hg, hin, hb2, hb3⟩ := hrel
    by_cases hlt : k < 32
    · have hst := mixAt_step C Z HCL.out HZL.out k hlt
      rw [HOP.out k hlt, HOT.out k hlt] at hst
      have hd32 := sumM_length (stT s k)
      have hdo := bv_one (sumM (stT s k)).1
      have hdl : (bv (sumM (stT s k)).1).length = 32 := by rw [bv_length]; exact hd32
      have ht1 : (bv (sumM (stT s k)).1).take 16 = bv (takeO s k) := by simp [takeO, bv, List.map_take]
      have ht2 : (bv (sumM (stT s k)).1).drop 16 = bv (takeT s k) := by simp [takeT, bv, List.map_drop]
      have hp1 := takeO_length s k
      have hp2 := takeT_length s k
      have hsm := In_Sum (h := hin)
      have hs1 : (sumM (stT s k)).2 = stT s (k + 1) := rfl
      rw [hs1] at hsm
      generalize takeO s k = P1 at *
      generalize takeT s k = P2 at *
      generalize bv (sumM (stT s k)).1 = DD at *
      have hpll : (putAt (mixAt C Z k) (k * 16) (bv P1)).length = 1024 := by rw [putAt_len (by rw [mixAt_len, bv_length, hp1]; omega), mixAt_len]
      have HST := Lib.hid hst
      have HDL := Lib.hid hdl
      have HT1 := Lib.hid ht1
      have HT2 := Lib.hid ht2
      have HP1 := Lib.hid hp1
      have HP2 := Lib.hid hp2
      have HSM := Lib.hid hsm
      have HPLL := Lib.hid hpll
      have HG := Lib.hid hg
      have HB2 := Lib.hid hb2
      have HB3 := Lib.hid hb3
      clear hst hdl ht1 ht2 hp1 hp2 hsm hpll hg hb2 hb3 hin hd32 hs1
      go_wp2_with fail
      refine HSM.out.mono ?_
      rintro e w1 ⟨rfl, hin1, hg1⟩
      have hxd : Ext w1 (w1.alloc (.cells DD.toArray 55)).drew := ((Ext.refl w1).alloc _).trans (Ext.refl _).drew
      have hnd : ∀ b, b < w1.heap.size → b ≠ w1.heap.size := fun b hb => by omega
      have HIN1 := Lib.hid (hin1.ext hxd)
      have HG1 := Lib.hid (grown_then HG.out hg1 (.inl rfl))
      have HB21 := Lib.hid (HB2.out.keep hg1 (by have := HGL.out; simp; omega))
      have HB31 := Lib.hid (HB3.out.keep hg1 (by have := HGL.out; simp; omega))
      have HBD : Hid (Blk (w1.alloc (.cells DD.toArray 55)).drew w1.heap.size 55 DD) := Lib.hid ((Blk.new _ _ _).keep (Ext.refl _).drew (by simp))
      have HBS := Lib.hid (HB31.out.keep hxd (by simp))
      have HB22 := Lib.hid (HB21.out.keep hxd (by simp))
      have HG2 : Hid (w.grownBy (w1.alloc (.cells DD.toArray 55)).drew (some g)) := Lib.hid (grown_then HG1.out (hxd.any _) (.inl rfl))
      have HLT3 : Hid (w.heap.size + 1 < w1.heap.size) := Lib.hid HB31.out.lt
      clear hin1 hg1 hxd hnd
      go_wp2_with (first
        | (refine wpList_alloc _ rfl 55 rfl _ hzd ?_)
        | (refine wpList_store_new _ rfl 55 (.tmp 5) (.tmp 10) rfl rfl ZD DD _ rfl (digest_size HDL.out) (by rw [HDL.out, HZDL.out]) hdo ?_)
        | fail)
      have HK1 : Hid (∀ W, Ext (w1.alloc (.cells DD.toArray 55)).drew W → Cells W ⟨w1.heap.size, 0, none⟩ (bv P1)) := Lib.hid fun W h => by have h2 := (HBD.out.keep h (by simp)).cells.take 16; rw [HT1.out] at h2; exact h2
      generalize hgs : w.heap.size + 1 = gs at *
      generalize hgd : w1.heap.size = gd at *
      generalize hV : w1.alloc (.cells DD.toArray 55) = V at *
      have HGS := Lib.hid hgs
      have HGD := Lib.hid hgd
      have hdk : decide ((k : Int) < 32) = true := by rw [decide_eq_true_iff]; omega
      (try simp only [hdk])
      clear hgs hgd hV hdk
      refine stab_store Ext ext_refl ext_trans [[0], [1], [0, 1, 2], [0, 1, 2, 3], [4], [0, 1, 2, 3, 4, 5]] (fun i v wv => match i with | 0 => v = .int .i64 (k : Int) | 1 => v = .pointer (some ⟨gs, 0, none⟩) | 2 => v = .pointer (some ⟨gs, k * 16, none⟩) | 3 => v = .slice (some ⟨gs, k * 16, none⟩) 16 16 | 4 => v = .slice (some ⟨gd, 0, none⟩) 16 32 | _ => True) (by kernel_rfl) (by kernel_rfl) (by kernel_rfl) (by kernel_rfl) (by simp) ?_ ?_ ?_
      · intro i v w1 w2 h hx
        match i, h with
        | 0, h => exact h
        | 1, h => exact h
        | 2, h => exact h
        | 3, h => exact h
        | 4, h => exact h
        | i + 5, h => trivial
      · intro i hi o ho
        match i, hi, ho with
        | 0, _, ho =>
          obtain rfl := Option.some.inj ho
          intro s W hX hd K hK
          rw [if_pos (wanted_plain rfl)]
          clear hd
          replace hK : ∀ (v : Value) (W' : World), Ext W W' → (v = .int .i64 (k : Int)) → _ := hK
          simp only [mkOf, List.map_cons, List.map_nil, Act.put, List.setIfInBounds_toArray, List.set_cons_succ, List.set_cons_zero, Nat.reduceAdd, Nat.zero_add] at hK ⊢
          go_simp
          exact hK _ _ (Ext.refl _) rfl
        | 1, _, ho =>
          obtain rfl := Option.some.inj ho
          intro s W hX hd K hK
          rw [if_pos (wanted_plain rfl)]
          clear hd
          replace hK : ∀ (v : Value) (W' : World), Ext W W' → (v = .pointer (some ⟨gs, 0, none⟩)) → _ := hK
          simp only [mkOf, List.map_cons, List.map_nil, Act.put, List.setIfInBounds_toArray, List.set_cons_succ, List.set_cons_zero, Nat.reduceAdd, Nat.zero_add] at hK ⊢
          go_simp
          exact hK _ _ (Ext.refl _) rfl
        | 2, _, ho =>
          obtain rfl := Option.some.inj ho
          intro s W hX hd K hK
          rw [if_pos (wanted_plain rfl)]
          have d11 : (s 0) = .int .i64 (k : Int) := hd 0 (by decide) (by decide)
          have d12 : (s 1) = .pointer (some ⟨gs, 0, none⟩) := hd 1 (by decide) (by decide)
          clear hd
          replace hK : ∀ (v : Value) (W' : World), Ext W W' → (v = .pointer (some ⟨gs, k * 16, none⟩)) → _ := hK
          simp only [mkOf, List.map_cons, List.map_nil, Act.put, List.setIfInBounds_toArray, List.set_cons_succ, List.set_cons_zero, Nat.reduceAdd, Nat.zero_add] at hK ⊢
          simp only [d11, d12] at hK ⊢
          go_simp
          exact hK _ _ (Ext.refl _) rfl
        | 3, _, ho =>
          obtain rfl := Option.some.inj ho
          intro s W hX hd K hK
          rw [if_pos (wanted_plain rfl)]
          have d13 : (s 2) = .pointer (some ⟨gs, k * 16, none⟩) := hd 2 (by decide) (by decide)
          clear hd
          replace hK : ∀ (v : Value) (W' : World), Ext W W' → (v = .slice (some ⟨gs, k * 16, none⟩) 16 16) → _ := hK
          simp only [mkOf, List.map_cons, List.map_nil, Act.put, List.setIfInBounds_toArray, List.set_cons_succ, List.set_cons_zero, Nat.reduceAdd, Nat.zero_add] at hK ⊢
          simp only [d13] at hK ⊢
          go_simp
          exact hK _ _ (Ext.refl _) rfl
        | 4, _, ho =>
          obtain rfl := Option.some.inj ho
          intro s W hX hd K hK
          rw [if_pos (wanted_plain rfl)]
          clear hd
          replace hK : ∀ (v : Value) (W' : World), Ext W W' → (v = .slice (some ⟨gd, 0, none⟩) 16 32) → _ := hK
          simp only [mkOf, List.map_cons, List.map_nil, Act.put, List.setIfInBounds_toArray, List.set_cons_succ, List.set_cons_zero, Nat.reduceAdd, Nat.zero_add] at hK ⊢
          go_simp
          exact hK _ _ (Ext.refl _) rfl
        | i + 5, hi, _ => exact absurd hi (by simp)
      · intro o ho
        obtain rfl := Option.some.inj ho
        intro s W hX hd K hK
        rw [if_pos (wanted_plain rfl)]
        have d11 : (s 0) = .int .i64 (k : Int) := hd 0 (by decide)
        have d12 : (s 1) = .pointer (some ⟨gs, 0, none⟩) := hd 1 (by decide)
        have d13 : (s 2) = .pointer (some ⟨gs, k * 16, none⟩) := hd 2 (by decide)
        have d14 : (s 3) = .slice (some ⟨gs, k * 16, none⟩) 16 16 := hd 3 (by decide)
        have d15 : (s 4) = .slice (some ⟨gd, 0, none⟩) 16 32 := hd 4 (by decide)
        clear hd
        simp only [mkOf, List.map_cons, List.map_nil, Act.put, List.setIfInBounds_toArray, List.set_cons_succ, List.set_cons_zero, Nat.reduceAdd, Nat.zero_add]
        refine wp_copyB (.tmp 14) (.tmp 15) 62 62 rfl 5 Try.underlying62 u8_size1 gs (k * 16) 16 16 (by simpa [Act.eval] using d14) _ 16 32 (by simpa [Act.eval] using d15) P1 HP1.out (fun _ => ⟨_, rfl, HK1.out W hX⟩) (mixAt C Z k) _ (HBS.out.keep hX (by simp)) 16 rfl (by rw [mixAt_len]; omega) ?_
        intro W5 hW5 hg5
        refine hK _ _ ?_
        have hW5' : Blk W5 gs 36 (putAt (mixAt C Z k) (k * 16) (bv P1)) := by
          have e := putAt_of (mixAt C Z k) (k * 16) P1 HP1.out
          rw [← e]; exact hW5
        have hlt3 := HLT3.out
        have hgs3 := HGS.out
        have hgl3 := HGL.out
        have hql3 := HQL.out
        have hx5 := (Ext.refl W5).drew
        have HBS2 := Lib.hid (hW5'.keep hx5 (by simp))
        have HBD2 := Lib.hid (((HBD.out.keep hX (by simp)).keep hg5 (by simp; omega)).keep hx5 (by simp))
        have HB23 := Lib.hid (((HB22.out.keep hX (by simp)).keep hg5 (by simp; omega)).keep hx5 (by simp))
        have HIN2 := Lib.hid (((HIN1.out.ext hX).keep hg5 (by simp; omega) (by simp; omega)).ext hx5)
        have HG3 := Lib.hid (grown_then (grown_then (grown_then HG2.out (hX.any (some g)) (.inl rfl)) hg5 (.inr (by rintro b ⟨⟩; omega))) (hx5.any (some g)) (.inl rfl))
        have HK2 : Hid (∀ W7, Ext W5.drew W7 → Cells W7 ⟨gd, 16, none⟩ (bv P2)) := Lib.hid fun W7 h => by have h2 := (HBD2.out.keep h (by simp)).cells.drop 16; rw [addr_at, HT2.out] at h2; exact h2
        clear hX hK hW5 hg5 hW5' hx5 hlt3 hgs3 hgl3 hql3 d11 d12 d13 d14 d15 HK1 HBD HB22 HIN1 HG2 HBS
        (try simp only [Exit.then])
        go_wp2_with fail
        refine stab_store Ext ext_refl ext_trans [[0], [1], [0, 1, 2], [0, 1, 2, 3], [4], [0, 1, 2, 3, 4, 5]] (fun i v wv => match i with | 0 => v = .int .i64 (k : Int) | 1 => v = .pointer (some ⟨gs, 512, none⟩) | 2 => v = .pointer (some ⟨gs, 512 + k * 16, none⟩) | 3 => v = .slice (some ⟨gs, 512 + k * 16, none⟩) 16 16 | 4 => v = .slice (some ⟨gd, 16, none⟩) 16 16 | _ => True) (by kernel_rfl) (by kernel_rfl) (by kernel_rfl) (by kernel_rfl) (by simp) ?_ ?_ ?_
        · intro i v w1 w2 h hx
          match i, h with
          | 0, h => exact h
          | 1, h => exact h
          | 2, h => exact h
          | 3, h => exact h
          | 4, h => exact h
          | i + 5, h => trivial
        · intro i hi o ho
          match i, hi, ho with
          | 0, _, ho =>
            obtain rfl := Option.some.inj ho
            intro s W2 hX hd K hK
            rw [if_pos (wanted_plain rfl)]
            clear hd
            replace hK : ∀ (v : Value) (W2' : World), Ext W2 W2' → (v = .int .i64 (k : Int)) → _ := hK
            simp only [mkOf, List.map_cons, List.map_nil, Act.put, List.setIfInBounds_toArray, List.set_cons_succ, List.set_cons_zero, Nat.reduceAdd, Nat.zero_add] at hK ⊢
            go_simp
            exact hK _ _ (Ext.refl _) rfl
          | 1, _, ho =>
            obtain rfl := Option.some.inj ho
            intro s W2 hX hd K hK
            rw [if_pos (wanted_plain rfl)]
            clear hd
            replace hK : ∀ (v : Value) (W2' : World), Ext W2 W2' → (v = .pointer (some ⟨gs, 512, none⟩)) → _ := hK
            simp only [mkOf, List.map_cons, List.map_nil, Act.put, List.setIfInBounds_toArray, List.set_cons_succ, List.set_cons_zero, Nat.reduceAdd, Nat.zero_add] at hK ⊢
            go_simp
            exact hK _ _ (Ext.refl _) rfl
          | 2, _, ho =>
            obtain rfl := Option.some.inj ho
            intro s W2 hX hd K hK
            rw [if_pos (wanted_plain rfl)]
            have d17 : (s 0) = .int .i64 (k : Int) := hd 0 (by decide) (by decide)
            have d18 : (s 1) = .pointer (some ⟨gs, 512, none⟩) := hd 1 (by decide) (by decide)
            clear hd
            replace hK : ∀ (v : Value) (W2' : World), Ext W2 W2' → (v = .pointer (some ⟨gs, 512 + k * 16, none⟩)) → _ := hK
            simp only [mkOf, List.map_cons, List.map_nil, Act.put, List.setIfInBounds_toArray, List.set_cons_succ, List.set_cons_zero, Nat.reduceAdd, Nat.zero_add] at hK ⊢
            simp only [d17, d18] at hK ⊢
            go_simp
            exact hK _ _ (Ext.refl _) rfl
          | 3, _, ho =>
            obtain rfl := Option.some.inj ho
            intro s W2 hX hd K hK
            rw [if_pos (wanted_plain rfl)]
            have d19 : (s 2) = .pointer (some ⟨gs, 512 + k * 16, none⟩) := hd 2 (by decide) (by decide)
            clear hd
            replace hK : ∀ (v : Value) (W2' : World), Ext W2 W2' → (v = .slice (some ⟨gs, 512 + k * 16, none⟩) 16 16) → _ := hK
            simp only [mkOf, List.map_cons, List.map_nil, Act.put, List.setIfInBounds_toArray, List.set_cons_succ, List.set_cons_zero, Nat.reduceAdd, Nat.zero_add] at hK ⊢
            simp only [d19] at hK ⊢
            go_simp
            exact hK _ _ (Ext.refl _) rfl
          | 4, _, ho =>
            obtain rfl := Option.some.inj ho
            intro s W2 hX hd K hK
            rw [if_pos (wanted_plain rfl)]
            clear hd
            replace hK : ∀ (v : Value) (W2' : World), Ext W2 W2' → (v = .slice (some ⟨gd, 16, none⟩) 16 16) → _ := hK
            simp only [mkOf, List.map_cons, List.map_nil, Act.put, List.setIfInBounds_toArray, List.set_cons_succ, List.set_cons_zero, Nat.reduceAdd, Nat.zero_add] at hK ⊢
            go_simp
            exact hK _ _ (Ext.refl _) rfl
          | i + 5, hi, _ => exact absurd hi (by simp)
        · intro o ho
          obtain rfl := Option.some.inj ho
          intro s W2 hX hd K hK
          rw [if_pos (wanted_plain rfl)]
          have d17 : (s 0) = .int .i64 (k : Int) := hd 0 (by decide)
          have d18 : (s 1) = .pointer (some ⟨gs, 512, none⟩) := hd 1 (by decide)
          have d19 : (s 2) = .pointer (some ⟨gs, 512 + k * 16, none⟩) := hd 2 (by decide)
          have d20 : (s 3) = .slice (some ⟨gs, 512 + k * 16, none⟩) 16 16 := hd 3 (by decide)
          have d21 : (s 4) = .slice (some ⟨gd, 16, none⟩) 16 16 := hd 4 (by decide)
          clear hd
          simp only [mkOf, List.map_cons, List.map_nil, Act.put, List.setIfInBounds_toArray, List.set_cons_succ, List.set_cons_zero, Nat.reduceAdd, Nat.zero_add]
          refine wp_copyB (.tmp 20) (.tmp 21) 62 62 rfl 5 Try.underlying62 u8_size1 gs (512 + k * 16) 16 16 (by simpa [Act.eval] using d20) _ 16 16 (by simpa [Act.eval] using d21) P2 HP2.out (fun _ => ⟨_, rfl, HK2.out W2 hX⟩) (putAt (mixAt C Z k) (k * 16) (bv P1)) _ (HBS2.out.keep hX (by simp)) 16 rfl (by rw [HPLL.out]; omega) ?_
          intro W6 hW6 hg6
          refine hK _ _ ?_
          have hW6' : Blk W6 gs 36 (mixAt C Z (k + 1)) := by
            have e := putAt_of (putAt (mixAt C Z k) (k * 16) (bv P1)) (512 + k * 16) P2 HP2.out
            rw [HST.out] at e
            rw [← e]; exact hW6
          have hlt3 := HLT3.out
          have hgs3 := HGS.out
          have hgl3 := HGL.out
          have hql3 := HQL.out
          have HB24 := Lib.hid ((HB23.out.keep hX (by simp)).keep hg6 (by simp; omega))
          have HIN3 := Lib.hid ((HIN2.out.ext hX).keep hg6 (by simp; omega) (by simp; omega))
          have HG4 := Lib.hid (grown_then (grown_then HG3.out (hX.any (some g)) (.inl rfl)) hg6 (.inr (by rintro b ⟨⟩; omega)))
          have HBS3 := Lib.hid hW6'
          clear hX hK hW6 hg6 hW6' hlt3 hgl3 hql3
          subst hgs3
          (try simp only [Exit.then])
          go_wp2_with fail
          go_roundw
          case rel => exact ⟨k + 1, by omega, by go_num, HG4.out, HIN3.out, HB24.out, HBS3.out⟩
          case measure => simp [intOf]; omega
    · obtain rfl : k = 32 := by omega
      rw [mixAt_all C Z HCL.out HZL.out] at hb3
      have hcm := hb3.cells
      have hr2 : wr.heap[w.heap.size]? = some (.cells Z.toArray 36 (0, 0)) := hb2
      have HG := Lib.hid hg
      have HIN := Lib.hid hin
      have hgl3 := HGL.out
      have hql3 := HQL.out
      clear hg hb2 hb3 hin
      go_wp2_with (first
        | (refine wpList_load_agg _ rfl 36 (.tmp 3) rfl _ rfl C _ Try.underlying36 rfl (tsig_size HCL.out) hcm ?_)
        | (refine wpList_store_row _ rfl 36 (.tmp 2) (.tmp 24) rfl w.heap.size rfl Z C _ rfl hr2 (tsig_size HCL.out) (by rw [HCL.out, HZL.out]) hone ?_)
        | fail)
      have hc9 := Blk.cells (t := 36) (setRow_at (cs' := C.toArray) hr2)
      (try simp only [Exit.inBlock, Exit.then])
      refine bodyPost_ret (results_agg rfl _ _ _ _ _ rfl Try.underlying36 rfl (tsig_size HCL.out) hc9) rfl ?_
      exact ⟨rfl, HIN.out.keep (setRow_only _) (by simp; omega) (by simp; omega), grown_then HG.out (setRow_only _) (.inr (by rintro b ⟨⟩; omega))⟩
end
section
open Go.RowKit

/-- The first k pairs of pieces, laid. -/
def layS (BB : List UInt8) : Nat → List UInt8
  | 0 => []
  | k + 1 => layS BB k ++ ((BB.drop (k * 16)).take 16 ++ (BB.drop (512 + k * 16)).take 16)
theorem pieceB_len {BB : List UInt8} (hB : BB.length = 1024) {o : Nat} (ho : o ≤ 1008) : ((BB.drop o).take 16).length = 16 := by
  rw [List.length_take, List.length_drop]; omega
theorem layS_len {BB : List UInt8} (hB : BB.length = 1024) : ∀ k, k ≤ 32 → (layS BB k).length = 32 * k
  | 0, _ => rfl
  | k + 1, h => by
    show (layS BB k ++ ((BB.drop (k * 16)).take 16 ++ (BB.drop (512 + k * 16)).take 16)).length = _
    rw [List.length_append, List.length_append, layS_len hB k (by omega), pieceB_len hB (by omega), pieceB_len hB (by omega)]
    omega
theorem bv_piece (BB : List UInt8) (o : Nat) : ((bv BB).drop o).take 16 = bv ((BB.drop o).take 16) := by
  simp [bv, List.map_drop, List.map_take]
set_option maxRecDepth 100000 in
set_option maxHeartbeats 4000000 in
theorem Lamp_Lay (BB : List UInt8) (v : Value) (bs : List UInt8) (w : World) (hB : BB.length = 1024) (ho : OwnB w v bs) (hb : bs.length + 1024 ≤ 140737488355328) :
    Calls Try.prog 56 #[.agg (bv BB).toArray, v] w fun e w' => ∃ v', e = .returned v' ∧ OwnB w' v' (bs ++ layS BB 32) ∧ Moved w w' v v' := by
  obtain ⟨i0, hi, hz0, hz1, hz2⟩ := info_parts u8_info
  have hlt0 := OwnB.lt ho
  have hb1 : Blk (w.alloc (.cells (bv BB).toArray 36)) w.heap.size 36 (bv BB) := Blk.new _ _ _
  have hx0 : Ext w (w.alloc (.cells (bv BB).toArray 36)) := (Ext.refl w).alloc _
  have ho0 : OwnB (w.alloc (.cells (bv BB).toArray 36)) v bs := ho.ext hx0
  have hm0 : Moved w (w.alloc (.cells (bv BB).toArray 36)) v v := Moved.pre hx0 (Moved.refl _ _)
  have hne0 : ∀ b, v.ownBlock = some b → b ≠ w.heap.size := fun b hb e => by have := hlt0 b hb; omega
  have HBL := Lib.hid hB
  have HB1 := Lib.hid hb1
  have HO0 := Lib.hid ho0
  have HM0 := Lib.hid hm0
  have HNE0 := Lib.hid hne0
  clear ho hb1 hx0 ho0 hm0 hne0 hlt0
  go_enter Try.func56, Try.ntmps56
  go_wp2
  go_loopw [1, 5, 6] (fun u p i wr => ∃ k : Nat, k ≤ 32 ∧ i = .int .i64 k ∧ OwnB wr u (bs ++ layS BB k) ∧ Moved w wr v u ∧ Blk wr w.heap.size 36 (bv BB) ∧ (∀ b, u.ownBlock = some b → b ≠ w.heap.size) ∧ ∃ q, p = q) (fun _ _ i _ => 32 - (intOf i).toNat)
  case atStart => exact ⟨0, by omega, rfl, by simpa [layS] using HO0.out, HM0.out, HB1.out, HNE0.out, _, rfl⟩
  case round =>
    clear HO0 HM0 HB1 HNE0
    obtain ⟨k, hk, rfl, hou, hmu, hbu, hne, q, rfl⟩ := hrel
    by_cases hlt : k < 32
    · have HO := Lib.hid hou
      have HM := Lib.hid hmu
      have HB := Lib.hid hbu
      have HNE := Lib.hid hne
      clear hou hmu hbu hne
      go_wp2
      have hou : OwnB wr.drew u1 (bs ++ layS BB k) := HO.out.ext (Ext.refl _).drew
      have hmu : Moved w wr.drew v u1 := HM.out.post (Ext.refl _).drew
      have hbu : Blk wr.drew w.heap.size 36 (bv BB) := HB.out
      refine startM (KeepB fun b => b = w.heap.size) (by kernel_rfl) ?_
      (try simp only [Act.put, List.setIfInBounds_toArray, List.set_cons_succ, List.set_cons_zero])
      generalize wr.drew = w0 at *
      have hll := layS_len HBL.out k (by omega)
      have hp1 := pieceB_len HBL.out (o := k * 16) (by omega)
      have hp2 := pieceB_len HBL.out (o := 512 + k * 16) (by omega)
      have hk1 : Cells w0 ⟨w.heap.size, k * 16, none⟩ (bv ((BB.drop (k * 16)).take 16)) := by have h := (hbu.cells.drop (k * 16)).take 16; rw [addr_at, bv_piece] at h; exact h
      have hk2 : Cells w0 ⟨w.heap.size, 512 + k * 16, none⟩ (bv ((BB.drop (512 + k * 16)).take 16)) := by have h := (hbu.cells.drop (512 + k * 16)).take 16; rw [addr_at, bv_piece] at h; exact h
      have hstep : layS BB (k + 1) = layS BB k ++ ((BB.drop (k * 16)).take 16 ++ (BB.drop (512 + k * 16)).take 16) := rfl
      generalize (BB.drop (k * 16)).take 16 = P1 at *
      generalize (BB.drop (512 + k * 16)).take 16 = P2 at *
      have hbl : w.heap.size < w0.heap.size := hbu.lt
      have HO := Lib.hid hou
      have HM := Lib.hid hmu
      have HB := Lib.hid hbu
      have HK1 := Lib.hid hk1
      have HK2 := Lib.hid hk2
      have HP1 := Lib.hid hp1
      have HP2 := Lib.hid hp2
      have HLL := Lib.hid hll
      have HST := Lib.hid hstep
      have HBLT := Lib.hid hbl
      clear hou hmu hbu hk1 hk2 hp1 hp2 hll hstep hbl
      refine takeK 0 rfl (by kernel_rfl) (by kernel_rfl) (by kernel_rfl) rfl (fun _ _ _ _ h => h) rfl (fun K hK => ?_)
      go_big_quiet_op
      first | refine hK _ ?_ | refine ⟨_, fun _ _ => rfl, hK _ ?_⟩
      clear hK K
      refine takeK 1 rfl (by kernel_rfl) (by kernel_rfl) (by kernel_rfl) rfl (fun _ _ _ _ h => h) rfl (fun K hK => ?_)
      go_big_quiet_op
      first | refine hK _ ?_ | refine ⟨_, fun _ _ => rfl, hK _ ?_⟩
      clear hK K
      refine takeK 2 rfl (by kernel_rfl) (by kernel_rfl) (by kernel_rfl) rfl (fun _ _ _ _ h => h) rfl (fun K hK => ?_)
      go_big_quiet_op
      first | refine hK _ ?_ | refine ⟨_, fun _ _ => rfl, hK _ ?_⟩
      clear hK K
      refine takeK 3 rfl (by kernel_rfl) (by kernel_rfl) (by kernel_rfl) rfl (fun _ _ _ _ h => h) rfl (fun K hK => ?_)
      go_big_quiet_op
      first | refine hK _ ?_ | refine ⟨_, fun _ _ => rfl, hK _ ?_⟩
      clear hK K
      refine takeK 4 rfl (by kernel_rfl) (by kernel_rfl) (by kernel_rfl) rfl (fun _ _ _ _ h => h) rfl (fun K hK => ?_)
      go_big_quiet_op
      first | refine hK _ ?_ | refine ⟨_, fun _ _ => rfl, hK _ ?_⟩
      clear hK K
      refine takeK 6 rfl (by kernel_rfl) (by kernel_rfl) (by kernel_rfl) rfl (fun _ _ _ _ h => h) rfl (fun K hK => ?_)
      go_big_quiet_op
      first | refine hK _ ?_ | refine ⟨_, fun _ _ => rfl, hK _ ?_⟩
      clear hK K
      refine takeK 7 rfl (by kernel_rfl) (by kernel_rfl) (by kernel_rfl) rfl (fun _ _ _ _ h => h) rfl (fun K hK => ?_)
      go_big_quiet_op
      first | refine hK _ ?_ | refine ⟨_, fun _ _ => rfl, hK _ ?_⟩
      clear hK K
      refine takeK 8 rfl (by kernel_rfl) (by kernel_rfl) (by kernel_rfl) rfl (fun _ _ _ _ h => h) rfl (fun K hK => ?_)
      go_big_quiet_op
      first | refine hK _ ?_ | refine ⟨_, fun _ _ => rfl, hK _ ?_⟩
      clear hK K
      refine takeK 9 rfl (by kernel_rfl) (by kernel_rfl) (by kernel_rfl) rfl (fun _ _ _ _ h => h) rfl (fun K hK => ?_)
      go_big_quiet_op
      first | refine hK _ ?_ | refine ⟨_, fun _ _ => rfl, hK _ ?_⟩
      clear hK K
      refine stepM 5 rfl (by kernel_rfl) rfl (fun K hK => ?_)
      refine wp_app _ (.tmp 9) (.tmp 13) _ _ rfl 5 5 i0 _ 1 1 Try.underlying80 Try.underlying62 hi hz0 hz1 hz2 rfl (by decide) u1 _ _ rfl HO.out _ 16 16 (bv P1) rfl (by simp [HP1.out]) (fun _ => ⟨_, rfl, HK1.out⟩) (bv_one _) (by have := HLL.out; rw [List.length_append]; unfold maxLen; omega) (by have := HLL.out; rw [List.length_append]; omega) ?_
      intro v8 w8 ho8 hm8
      have ho8 : OwnB w8 v8 ((bs ++ layS BB k) ++ P1) := OwnB.app (by rw [HP1.out]; exact ho8)
      have hne8 : ∀ b, v8.ownBlock = some b → b ≠ w.heap.size := fun b hb => by rcases hm8.at_ with e | hn; exact HNE.out b (e.symm.trans hb); have h1 := hn b hb; have h3 := HBLT.out; omega
      have HNE8 := Lib.hid hne8
      have HK28 := Lib.hid (HK2.out.keep (hm8.grown.block w.heap.size HBLT.out (fun e => HNE.out _ e.symm rfl)))
      clear hne8
      refine hK _ _ (fun b hb => by subst hb; exact hm8.grown.block _ HBLT.out (fun e => HNE.out _ e.symm rfl)) ?_
      clear hK K
      (try simp only [Act.put, List.setIfInBounds_toArray, List.set_cons_succ, List.set_cons_zero])
      refine stepM 10 rfl (by kernel_rfl) rfl (fun K hK => ?_)
      refine wp_app _ (.tmp 14) (.tmp 18) _ _ rfl 5 5 i0 _ 1 1 Try.underlying80 Try.underlying62 hi hz0 hz1 hz2 rfl (by decide) v8 _ _ rfl ho8 _ 16 16 (bv P2) rfl (by simp [HP2.out]) (fun _ => ⟨_, rfl, HK28.out⟩) (bv_one _) (by have := HLL.out; have := HP1.out; rw [List.length_append, List.length_append]; unfold maxLen; omega) (by have := HLL.out; have := HP1.out; rw [List.length_append, List.length_append]; omega) ?_
      intro v9 w9 ho9 hm9
      have ho9 : OwnB w9 v9 (((bs ++ layS BB k) ++ P1) ++ P2) := OwnB.app (by rw [HP2.out]; exact ho9)
      refine hK _ _ (fun b hb => by subst hb; exact hm9.grown.block _ (Nat.lt_of_lt_of_le HBLT.out hm8.grown.size) (fun e => HNE8.out _ e.symm rfl)) ?_
      clear hK K
      (try simp only [Act.put, List.setIfInBounds_toArray, List.set_cons_succ, List.set_cons_zero])
      refine takeK 11 rfl (by kernel_rfl) (by kernel_rfl) (by kernel_rfl) rfl (fun _ _ _ _ h => h) rfl (fun K hK => ?_)
      go_big_quiet_op
      first | refine hK _ ?_ | refine ⟨_, fun _ _ => rfl, hK _ ?_⟩
      clear hK K
      refine doneM (by kernel_rfl) ?_ _
      have hm2 : Moved w w9 v v9 := (HM.out.trans hm8).trans hm9
      have hb2 : Blk w9 w.heap.size 36 (bv BB) := (HB.out.keep hm8.grown (fun e => HNE.out _ e.symm rfl)).keep hm9.grown (fun e => HNE8.out _ e.symm rfl)
      have hne9 : ∀ b, v9.ownBlock = some b → b ≠ w.heap.size := fun b hb => by
        rcases hm9.at_ with e | hn
        · exact HNE8.out b (e.symm.trans hb)
        · have h1 := hn b hb
          have h2 := hm8.grown.size
          have h3 := HBLT.out
          omega
      have ho2 : OwnB w9 v9 (bs ++ layS BB (k + 1)) := by rw [HST.out, ← List.append_assoc, ← List.append_assoc]; exact ho9
      have HM9 := Lib.hid hm2
      have HB9 := Lib.hid hb2
      have HN9 := Lib.hid hne9
      have HO9 := Lib.hid ho2
      clear hm2 hb2 hne9 ho2 ho9 hm9
      go_wp2
      go_roundw
      case rel => exact ⟨k + 1, by omega, by go_num, HO9.out, HM9.out, HB9.out, HN9.out, _, rfl⟩
      case measure => simp [intOf]; omega
    · obtain rfl : k = 32 := by omega
      go_wp2
      go_ret
      exact ⟨_, rfl, hou, hmu⟩
end
section
open Go.RowKit

theorem stT_ok (B : List UInt8) : ∀ k, stT (B, 0) k = if 32 * k ≤ B.length then (B.drop (32 * k), 0) else ([], 9)
  | 0 => by simp [stT]
  | k + 1 => by
    show (sumM (stT (B, 0) k)).2 = _
    rw [stT_ok B k]
    by_cases h1 : 32 * k ≤ B.length
    · rw [if_pos h1]
      show (cutM 32 (B.drop (32 * k), 0)).2 = _
      unfold cutM
      rw [if_neg (by simp)]
      by_cases h2 : 32 * (k + 1) ≤ B.length
      · rw [if_pos h2, if_neg (by show ¬ (B.drop (32 * k)).length < 32; rw [List.length_drop]; omega)]
        show ((B.drop (32 * k)).drop 32, (0 : Int)) = _
        rw [List.drop_drop, Nat.mul_succ]
      · rw [if_neg h2, if_pos (by show (B.drop (32 * k)).length < 32; rw [List.length_drop]; omega)]
    · rw [if_neg h1, if_neg (by omega)]
      rfl
theorem stT_short {B : List UInt8} (h : B.length < 1024) : stT (B, 0) 32 = ([], 9) := by rw [stT_ok, if_neg (by omega)]
theorem lrsig_size {n : Nat} (h : n = 1024) : (Try.prog.info? 26).map (·.size) = some n := by subst h; kernel_rfl
end
section

theorem pieces_take (S : List UInt8) : ∀ n, piecesM (fun k => (S.drop (k * 16)).take 16) n = S.take (16 * n)
  | 0 => by simp [piecesM]
  | n + 1 => by rw [piecesM_succ, pieces_take S n, show 16 * (n + 1) = 16 * n + 16 by omega, List.take_add, Nat.mul_comm n 16]
def pairM (S : List UInt8) (k : Nat) : List UInt8 := (S.drop (k * 16)).take 16 ++ (S.drop (512 + k * 16)).take 16
theorem layS_pieces (S : List UInt8) : ∀ n, layS S n = piecesM (pairM S) n
  | 0 => by simp [layS, piecesM]
  | n + 1 => by rw [piecesM_succ, ← layS_pieces S n]; rfl
theorem layS_at (S : List UInt8) (hS : S.length = 1024) {k : Nat} (hk : k < 32) : ((layS S 32).drop (32 * k)).take 32 = pairM S k := by
  have hpl : ∀ k, k < 32 → (pairM S k).length = 32 := fun k h => by
    unfold pairM
    rw [List.length_append, List.length_take, List.length_take, List.length_drop, List.length_drop, hS]; omega
  have hl : ∀ m, m ≤ 32 → (piecesM (pairM S) m).length = 32 * m := by
    intro m
    induction m with
    | zero => intro _; simp [piecesM]
    | succ m ih => intro h; rw [piecesM_succ, List.length_append, ih (by omega), hpl m (by omega), Nat.mul_succ]
  obtain ⟨r, hr⟩ := piecesM_split (pairM S) (show k + 1 ≤ 32 by omega)
  rw [layS_pieces, hr, piecesM_succ, List.append_assoc, List.drop_left' (hl k (by omega)), List.take_left' (hpl k hk)]
theorem sum_at (S : List UInt8) (hS : S.length = 1024) {k : Nat} (hk : k < 32) : (sumM (stT (layS S 32, 0) k)).1 = pairM S k := by
  have hl : (layS S 32).length = 1024 := layS_len hS 32 (Nat.le_refl _)
  rw [stT_ok, if_pos (by omega)]
  have h32 : ((layS S 32).drop (32 * k)).length ≥ 32 := by rw [List.length_drop, hl]; omega
  show (cutM 32 ((layS S 32).drop (32 * k), 0)).1 ++ List.replicate (32 - (cutM 32 ((layS S 32).drop (32 * k), 0)).1.length) 0 = _
  have hc : (cutM 32 ((layS S 32).drop (32 * k), 0)).1 = pairM S k := by
    unfold cutM
    rw [if_neg (by simp), if_neg (by show ¬ ((layS S 32).drop (32 * k)).length < 32; omega)]
    exact layS_at S hS hk
  have hp : (pairM S k).length = 32 := by
    unfold pairM
    rw [List.length_append, List.length_take, List.length_take, List.length_drop, List.length_drop, hS]; omega
  rw [hc, hp]
  simp
theorem takeS_back (S : List UInt8) (hS : S.length = 1024) : takeS (layS S 32, 0) = S := by
  have h1 : ∀ k, k < 32 → takeO (layS S 32, 0) k = (S.drop (k * 16)).take 16 := fun k hk => by
    unfold takeO
    rw [sum_at S hS hk]
    exact List.take_left' (by rw [List.length_take, List.length_drop, hS]; omega)
  have h2 : ∀ k, k < 32 → takeT (layS S 32, 0) k = ((S.drop 512).drop (k * 16)).take 16 := fun k hk => by
    unfold takeT
    rw [sum_at S hS hk, List.drop_drop]
    exact List.drop_left' (by rw [List.length_take, List.length_drop, hS]; omega)
  unfold takeS
  rw [piecesM_congr 32 h1, piecesM_congr 32 h2, pieces_take, pieces_take, show 16 * 32 = 512 from rfl, List.take_of_length_le (l := S.drop 512) (by rw [List.length_drop, hS]; decide), List.take_append_drop]
theorem state_back (S : List UInt8) (hS : S.length = 1024) : stT (layS S 32, 0) 32 = ([], 0) := by
  have hl : (layS S 32).length = 1024 := layS_len hS 32 (Nat.le_refl _)
  rw [stT_ok, if_pos (by omega), List.drop_of_length_le (by omega)]
theorem end_back (S : List UInt8) (hS : S.length = 1024) : endM (stT (layS S 32, 0) 32) = ([], 0) := by rw [state_back S hS]; rfl
end
section
open Go.RowKit

set_option maxRecDepth 100000 in
set_option maxHeartbeats 4000000 in
theorem RSecret (seed : List UInt8) (hs : seed.length = 32) (n : Nat) (hn : n < 4294967296) (k : Nat) (hk : k < 32) (bt : Nat) (hbt : bt < 2) (w : World) :
    Calls Try.prog 73 #[.agg tabsC.toArray, .agg (bv seed).toArray, .int .u32 (n : Int), .int .i64 (k : Int), .int .i64 (bt : Int)] w fun e w' => e = .returned (.agg (bv (secretM seed n k bt)).toArray) ∧ Ext w w' := by
  obtain ⟨Z, hz, hzl⟩ : ∃ Z : List Value, (Try.prog.info? 23).bind (fun i => i.zero.map (·.cells)) = some Z.toArray ∧ Z.length = 16 := ⟨_, rpiece_zero, by simp⟩
  have hfor := fun v W F hp2 hF => RFor 1 1 rfl [seed, be 4 n, [byteN k, byteN bt]] (by simp [blob, be_length, hs]) v W F hp2 hF
  have hfi := fun W => RFirst (sha (textM 1 [seed, be 4 n, [byteN k, byteN bt]])) (sha_length _) W
  have hcv : (sha (textM 1 [seed, be 4 n, [byteN k, byteN bt]])).take 16 = secretM seed n k bt := rfl
  rw [hcv] at hfi
  have hts : (Try.prog.info? 44).map (·.size) = some tabsC.length := tabs_size rfl
  generalize tabsC = TB at *
  have hcl : (bv (secretM seed n k bt)).length = 16 := by rw [bv_length, secretM_length]
  have hco := bv_one (secretM seed n k bt)
  have hb0 : Blk (((w.alloc (.cells TB.toArray 44)).alloc (.cells (bv seed).toArray 31)).alloc (.cells Z.toArray 23)).drew w.heap.size 44 TB := (((Blk.new _ _ _).keep ((Ext.refl _).alloc _) (by simp)).keep ((Ext.refl _).alloc _) (by simp)).keep (Ext.refl _).drew (by simp)
  have hb1 : Blk (((w.alloc (.cells TB.toArray 44)).alloc (.cells (bv seed).toArray 31)).alloc (.cells Z.toArray 23)).drew (w.heap.size + 1) 31 (bv seed) := ((Blk.fresh (by simp) _ _).keep ((Ext.refl _).alloc _) (by simp)).keep (Ext.refl _).drew (by simp)
  have hb2 : Blk (((w.alloc (.cells TB.toArray 44)).alloc (.cells (bv seed).toArray 31)).alloc (.cells Z.toArray 23)).drew (w.heap.size + 1 + 1) 23 Z := (Blk.fresh (by simp) _ _).keep (Ext.refl _).drew (by simp)
  have hx0 : Ext w (((w.alloc (.cells TB.toArray 44)).alloc (.cells (bv seed).toArray 31)).alloc (.cells Z.toArray 23)).drew := ((((Ext.refl w).alloc _).alloc _).alloc _).trans (Ext.refl _).drew
  have hseed : ∀ W, Ext (((w.alloc (.cells TB.toArray 44)).alloc (.cells (bv seed).toArray 31)).alloc (.cells Z.toArray 23)).drew W → (Ty.sl .u8).holds W (fun b => b = w.heap.size + 1) [.slice (some ⟨w.heap.size + 1, 0, none⟩) 32 32] seed ∧ ∀ b, b = w.heap.size + 1 → b < W.heap.size := by
    intro W hX
    have hb := hb1.keep hX (by simp)
    refine ⟨⟨_, _, bv seed, by rw [hs], by rw [hs]; exact Nat.le_refl _, by simp [maxLen], by simp, fun _ => ⟨_, rfl, rfl, hb.cells⟩, AllH.bytes.2 rfl⟩, ?_⟩
    rintro b rfl; exact hb.lt
  generalize bv (secretM seed n k bt) = C at *
  generalize bv (sha (textM 1 [seed, be 4 n, [byteN k, byteN bt]])) = HH at *
  generalize bv seed = SC at *
  have HB0 := Lib.hid hb0
  have HB2 := Lib.hid hb2
  have HX0 := Lib.hid hx0
  have HSEED := Lib.hid hseed
  have HFOR := Lib.hid hfor
  have HFI := Lib.hid hfi
  have HCL := Lib.hid hcl
  have HZL := Lib.hid hzl
  have HTS := Lib.hid hts
  have HN := Lib.hid hn
  have HK := Lib.hid hk
  have HBT := Lib.hid hbt
  have HWK : Hid (IntKind.u8.wrap (k : Int) = (k : Int)) := Lib.hid (by simp [IntKind.wrap, IntKind.bits, IntKind.signed]; omega)
  have HWB : Hid (IntKind.u8.wrap (bt : Int) = (bt : Int)) := Lib.hid (by simp [IntKind.wrap, IntKind.bits, IntKind.signed]; omega)
  have HWN : Hid (IntKind.u64.wrap (n : Int) = (n : Int)) := Lib.hid (by simp [IntKind.wrap, IntKind.bits, IntKind.signed]; omega)
  clear hb0 hb1 hb2 hx0 hseed hfor hfi hcl hzl hts hcv hn hk hbt
  go_enter Try.func73, Try.ntmps73
  go_wp2_with (first
    | (refine wpList_alloc _ rfl 23 rfl _ hz ?_)
    | fail)
  (try simp only [World.size_alloc])
  refine stab_store Ext ext_refl ext_trans [[0], [1], [2], [2, 3], [2, 3, 4], [5], [5, 6], [7], [7, 8], [5, 6, 7, 8, 9], [1, 2, 3, 4, 5, 6, 7, 8, 9, 10], [0, 1, 2, 3, 4, 5, 6, 7, 8, 9, 10, 11], [0, 1, 2, 3, 4, 5, 6, 7, 8, 9, 10, 11, 12], [0, 1, 2, 3, 4, 5, 6, 7, 8, 9, 10, 11, 12, 13]] (fun i v wv => match i with | 0 => v = .agg TB.toArray | 1 => v = .slice (some ⟨w.heap.size + 1, 0, none⟩) 32 32 | 2 => v = .int .u32 (n : Int) | 3 => v = .int .u64 (n : Int) | 4 => (Ty.sl .u8).holds wv (fun b => v.ownBlock = some b) [v] (be 4 n) ∧ ∀ b, v.ownBlock = some b → b < wv.heap.size | 5 => v = .int .i64 (k : Int) | 6 => v = .int .u8 (k : Int) | 7 => v = .int .i64 (bt : Int) | 8 => v = .int .u8 (bt : Int) | 9 => (Ty.sl .u8).holds wv (fun b => v.ownBlock = some b) [v] [byteN k, byteN bt] ∧ ∀ b, v.ownBlock = some b → b < wv.heap.size | 10 => ∃ F, (Ty.sl (.sl .u8)).holds wv F [v] [seed, be 4 n, [byteN k, byteN bt]] ∧ ∀ b, F b → b < wv.heap.size | 11 => v = .agg HH.toArray | 12 => v = .agg C.toArray | _ => True) (by kernel_rfl) (by kernel_rfl) (by kernel_rfl) (by kernel_rfl) (by simp) ?_ ?_ ?_
  · intro i v w1 w2 h hx
    match i, h with
    | 0, h => exact h
    | 1, h => exact h
    | 2, h => exact h
    | 3, h => exact h
    | 4, h =>
      replace h : (Ty.sl .u8).holds w1 (fun b => v.ownBlock = some b) [v] (be 4 n) ∧ ∀ b, v.ownBlock = some b → b < w1.heap.size := h
      show (Ty.sl .u8).holds w2 (fun b => v.ownBlock = some b) [v] (be 4 n) ∧ ∀ b, v.ownBlock = some b → b < w2.heap.size
      obtain ⟨h1, h2⟩ := h
      exact ⟨hx.holds h2 h1, fun b hb => Nat.lt_of_lt_of_le (h2 b hb) hx.size⟩
    | 5, h => exact h
    | 6, h => exact h
    | 7, h => exact h
    | 8, h => exact h
    | 9, h =>
      replace h : (Ty.sl .u8).holds w1 (fun b => v.ownBlock = some b) [v] [byteN k, byteN bt] ∧ ∀ b, v.ownBlock = some b → b < w1.heap.size := h
      show (Ty.sl .u8).holds w2 (fun b => v.ownBlock = some b) [v] [byteN k, byteN bt] ∧ ∀ b, v.ownBlock = some b → b < w2.heap.size
      obtain ⟨h1, h2⟩ := h
      exact ⟨hx.holds h2 h1, fun b hb => Nat.lt_of_lt_of_le (h2 b hb) hx.size⟩
    | 10, h =>
      replace h : ∃ F, (Ty.sl (.sl .u8)).holds w1 F [v] [seed, be 4 n, [byteN k, byteN bt]] ∧ ∀ b, F b → b < w1.heap.size := h
      show ∃ F, (Ty.sl (.sl .u8)).holds w2 F [v] [seed, be 4 n, [byteN k, byteN bt]] ∧ ∀ b, F b → b < w2.heap.size
      obtain ⟨F, h1, h2⟩ := h
      exact ⟨F, hx.holds h2 h1, fun b hb => Nat.lt_of_lt_of_le (h2 b hb) hx.size⟩
    | 11, h => exact h
    | 12, h => exact h
    | i + 13, h => trivial
  · intro i hi o ho
    match i, hi, ho with
    | 0, _, ho =>
      obtain rfl := Option.some.inj ho
      intro s W hX hd K hK
      rw [if_pos (wanted_plain rfl)]
      clear hd
      replace hK : ∀ (v : Value) (W' : World), Ext W W' → (v = .agg TB.toArray) → _ := hK
      simp only [mkOf, List.map_cons, List.map_nil, Act.put, List.setIfInBounds_toArray, List.set_cons_succ, List.set_cons_zero, Nat.reduceAdd, Nat.zero_add] at hK ⊢
      refine wp_load_agg 44 (.tmp 5) rfl _ rfl TB _ Try.underlying44 rfl HTS.out (HB0.out.keep hX (by simp)).cells ?_
      exact hK _ _ (Ext.refl _) rfl
    | 1, _, ho =>
      obtain rfl := Option.some.inj ho
      intro s W hX hd K hK
      rw [if_pos (wanted_plain rfl)]
      clear hd
      replace hK : ∀ (v : Value) (W' : World), Ext W W' → (v = .slice (some ⟨w.heap.size + 1, 0, none⟩) 32 32) → _ := hK
      simp only [mkOf, List.map_cons, List.map_nil, Act.put, List.setIfInBounds_toArray, List.set_cons_succ, List.set_cons_zero, Nat.reduceAdd, Nat.zero_add] at hK ⊢
      go_simp
      exact hK _ _ (Ext.refl _) rfl
    | 2, _, ho =>
      obtain rfl := Option.some.inj ho
      intro s W hX hd K hK
      rw [if_pos (wanted_plain rfl)]
      clear hd
      replace hK : ∀ (v : Value) (W' : World), Ext W W' → (v = .int .u32 (n : Int)) → _ := hK
      simp only [mkOf, List.map_cons, List.map_nil, Act.put, List.setIfInBounds_toArray, List.set_cons_succ, List.set_cons_zero, Nat.reduceAdd, Nat.zero_add] at hK ⊢
      go_simp
      exact hK _ _ (Ext.refl _) rfl
    | 3, _, ho =>
      obtain rfl := Option.some.inj ho
      intro s W hX hd K hK
      rw [if_pos (wanted_plain rfl)]
      have d13 : (s 2) = .int .u32 (n : Int) := hd 2 (by decide) (by decide)
      clear hd
      replace hK : ∀ (v : Value) (W' : World), Ext W W' → (v = .int .u64 (n : Int)) → _ := hK
      simp only [mkOf, List.map_cons, List.map_nil, Act.put, List.setIfInBounds_toArray, List.set_cons_succ, List.set_cons_zero, Nat.reduceAdd, Nat.zero_add] at hK ⊢
      simp only [d13] at hK ⊢
      have hn3 := HN.out
      go_simp
      exact hK _ _ (Ext.refl _) (by rw [HWN.out])
    | 4, _, ho =>
      obtain rfl := Option.some.inj ho
      intro s W hX hd K hK
      rw [if_pos (wanted_plain rfl)]
      have d14 : (s 3) = .int .u64 (n : Int) := hd 3 (by decide) (by decide)
      clear hd
      replace hK : ∀ (v : Value) (W' : World), Ext W W' → ((Ty.sl .u8).holds W' (fun b => v.ownBlock = some b) [v] (be 4 n) ∧ ∀ b, v.ownBlock = some b → b < W'.heap.size) → _ := hK
      simp only [mkOf, List.map_cons, List.map_nil, Act.put, List.setIfInBounds_toArray, List.set_cons_succ, List.set_cons_zero, Nat.reduceAdd, Nat.zero_add] at hK ⊢
      simp only [d14] at hK ⊢
      have hn3 := HN.out
      go_simp
      refine (Ref_Num (.slice none 0 0) [] n 4 W (fun _ => False) ⟨none, 0, [], rfl, Nat.le_refl _, by simp [maxLen], by simp, fun h => absurd rfl h, rfl⟩ (fun b h => h.elim) (by omega) (by decide) (by simp)).mono ?_
      rintro e w' ⟨v, rfl, hov, hf⟩
      exact hK _ _ hf.ext ⟨hov.holds, hov.lt⟩
    | 5, _, ho =>
      obtain rfl := Option.some.inj ho
      intro s W hX hd K hK
      rw [if_pos (wanted_plain rfl)]
      clear hd
      replace hK : ∀ (v : Value) (W' : World), Ext W W' → (v = .int .i64 (k : Int)) → _ := hK
      simp only [mkOf, List.map_cons, List.map_nil, Act.put, List.setIfInBounds_toArray, List.set_cons_succ, List.set_cons_zero, Nat.reduceAdd, Nat.zero_add] at hK ⊢
      go_simp
      exact hK _ _ (Ext.refl _) rfl
    | 6, _, ho =>
      obtain rfl := Option.some.inj ho
      intro s W hX hd K hK
      rw [if_pos (wanted_plain rfl)]
      have d16 : (s 5) = .int .i64 (k : Int) := hd 5 (by decide) (by decide)
      clear hd
      replace hK : ∀ (v : Value) (W' : World), Ext W W' → (v = .int .u8 (k : Int)) → _ := hK
      simp only [mkOf, List.map_cons, List.map_nil, Act.put, List.setIfInBounds_toArray, List.set_cons_succ, List.set_cons_zero, Nat.reduceAdd, Nat.zero_add] at hK ⊢
      simp only [d16] at hK ⊢
      go_simp
      exact hK _ _ (Ext.refl _) (by rw [HWK.out])
    | 7, _, ho =>
      obtain rfl := Option.some.inj ho
      intro s W hX hd K hK
      rw [if_pos (wanted_plain rfl)]
      clear hd
      replace hK : ∀ (v : Value) (W' : World), Ext W W' → (v = .int .i64 (bt : Int)) → _ := hK
      simp only [mkOf, List.map_cons, List.map_nil, Act.put, List.setIfInBounds_toArray, List.set_cons_succ, List.set_cons_zero, Nat.reduceAdd, Nat.zero_add] at hK ⊢
      go_simp
      exact hK _ _ (Ext.refl _) rfl
    | 8, _, ho =>
      obtain rfl := Option.some.inj ho
      intro s W hX hd K hK
      rw [if_pos (wanted_plain rfl)]
      have d18 : (s 7) = .int .i64 (bt : Int) := hd 7 (by decide) (by decide)
      clear hd
      replace hK : ∀ (v : Value) (W' : World), Ext W W' → (v = .int .u8 (bt : Int)) → _ := hK
      simp only [mkOf, List.map_cons, List.map_nil, Act.put, List.setIfInBounds_toArray, List.set_cons_succ, List.set_cons_zero, Nat.reduceAdd, Nat.zero_add] at hK ⊢
      simp only [d18] at hK ⊢
      go_simp
      exact hK _ _ (Ext.refl _) (by rw [HWB.out])
    | 9, _, ho =>
      obtain rfl := Option.some.inj ho
      intro s W hX hd K hK
      rw [if_pos (wanted_plain rfl)]
      have d17 : (s 6) = .int .u8 (k : Int) := hd 6 (by decide) (by decide)
      have d19 : (s 8) = .int .u8 (bt : Int) := hd 8 (by decide) (by decide)
      clear hd
      replace hK : ∀ (v : Value) (W' : World), Ext W W' → ((Ty.sl .u8).holds W' (fun b => v.ownBlock = some b) [v] [byteN k, byteN bt] ∧ ∀ b, v.ownBlock = some b → b < W'.heap.size) → _ := hK
      simp only [mkOf, List.map_cons, List.map_nil, Act.put, List.setIfInBounds_toArray, List.set_cons_succ, List.set_cons_zero, Nat.reduceAdd, Nat.zero_add] at hK ⊢
      simp only [d17, d19] at hK ⊢
      go_simp
      exact hK _ _ ((Ext.refl _).alloc _) ⟨sl_made (t := .u8) rfl rfl rfl (by simp [maxLen]) (AllH.bytes.2 (two_bytes HK.out HBT.out)), by rintro b ⟨⟩; simp⟩
    | 10, _, ho =>
      obtain rfl := Option.some.inj ho
      intro s W hX hd K hK
      rw [if_pos (wanted_plain rfl)]
      have d12 : (s 1) = .slice (some ⟨w.heap.size + 1, 0, none⟩) 32 32 := hd 1 (by decide) (by decide)
      have d15 : (Ty.sl .u8).holds W (fun b => (s 4).ownBlock = some b) [(s 4)] (be 4 n) ∧ ∀ b, (s 4).ownBlock = some b → b < W.heap.size := hd 4 (by decide) (by decide)
      have d20 : (Ty.sl .u8).holds W (fun b => (s 9).ownBlock = some b) [(s 9)] [byteN k, byteN bt] ∧ ∀ b, (s 9).ownBlock = some b → b < W.heap.size := hd 9 (by decide) (by decide)
      clear hd
      replace hK : ∀ (v : Value) (W' : World), Ext W W' → (∃ F, (Ty.sl (.sl .u8)).holds W' F [v] [seed, be 4 n, [byteN k, byteN bt]] ∧ ∀ b, F b → b < W'.heap.size) → _ := hK
      simp only [mkOf, List.map_cons, List.map_nil, Act.put, List.setIfInBounds_toArray, List.set_cons_succ, List.set_cons_zero, Nat.reduceAdd, Nat.zero_add] at hK ⊢
      simp only [d12] at hK ⊢
      have hsd := HSEED.out W hX
      obtain ⟨A1, c1, e1⟩ := sl_form d15.1
      obtain ⟨A2, c2, e2⟩ := sl_form d20.1
      rw [e1] at d15
      rw [e2] at d20
      simp only [e1, e2] at hK ⊢
      go_simp
      exact hK _ _ ((Ext.refl _).alloc _) (three_parts hsd.1 hsd.2 d15.1 d15.2 d20.1 d20.2)
    | 11, _, ho =>
      obtain rfl := Option.some.inj ho
      intro s W hX hd K hK
      rw [if_pos (wanted_plain rfl)]
      have d11 : (s 0) = .agg TB.toArray := hd 0 (by decide) (by decide)
      have d21 : ∃ F, (Ty.sl (.sl .u8)).holds W F [(s 10)] [seed, be 4 n, [byteN k, byteN bt]] ∧ ∀ b, F b → b < W.heap.size := hd 10 (by decide) (by decide)
      clear hd
      replace hK : ∀ (v : Value) (W' : World), Ext W W' → (v = .agg HH.toArray) → _ := hK
      simp only [mkOf, List.map_cons, List.map_nil, Act.put, List.setIfInBounds_toArray, List.set_cons_succ, List.set_cons_zero, Nat.reduceAdd, Nat.zero_add] at hK ⊢
      simp only [d11] at hK ⊢
      obtain ⟨F, h1, h2⟩ := d21
      go_simp
      refine (HFOR.out _ W F h1 h2).mono ?_
      rintro e w' ⟨rfl, hx⟩
      exact hK _ _ hx rfl
    | 12, _, ho =>
      obtain rfl := Option.some.inj ho
      intro s W hX hd K hK
      rw [if_pos (wanted_plain rfl)]
      have d22 : (s 11) = .agg HH.toArray := hd 11 (by decide) (by decide)
      clear hd
      replace hK : ∀ (v : Value) (W' : World), Ext W W' → (v = .agg C.toArray) → _ := hK
      simp only [mkOf, List.map_cons, List.map_nil, Act.put, List.setIfInBounds_toArray, List.set_cons_succ, List.set_cons_zero, Nat.reduceAdd, Nat.zero_add] at hK ⊢
      simp only [d22] at hK ⊢
      go_simp
      refine (HFI.out W).mono ?_
      rintro e w' ⟨rfl, hx⟩
      exact hK _ _ hx rfl
    | i + 13, hi, _ => exact absurd hi (by simp)
  · intro o ho
    obtain rfl := Option.some.inj ho
    intro s W hX hd K hK
    rw [if_pos (wanted_plain rfl)]
    have d11 : (s 0) = .agg TB.toArray := hd 0 (by decide)
    have d12 : (s 1) = .slice (some ⟨w.heap.size + 1, 0, none⟩) 32 32 := hd 1 (by decide)
    have d13 : (s 2) = .int .u32 (n : Int) := hd 2 (by decide)
    have d14 : (s 3) = .int .u64 (n : Int) := hd 3 (by decide)
    have d15 : (Ty.sl .u8).holds W (fun b => (s 4).ownBlock = some b) [(s 4)] (be 4 n) ∧ ∀ b, (s 4).ownBlock = some b → b < W.heap.size := hd 4 (by decide)
    have d16 : (s 5) = .int .i64 (k : Int) := hd 5 (by decide)
    have d17 : (s 6) = .int .u8 (k : Int) := hd 6 (by decide)
    have d18 : (s 7) = .int .i64 (bt : Int) := hd 7 (by decide)
    have d19 : (s 8) = .int .u8 (bt : Int) := hd 8 (by decide)
    have d20 : (Ty.sl .u8).holds W (fun b => (s 9).ownBlock = some b) [(s 9)] [byteN k, byteN bt] ∧ ∀ b, (s 9).ownBlock = some b → b < W.heap.size := hd 9 (by decide)
    have d21 : ∃ F, (Ty.sl (.sl .u8)).holds W F [(s 10)] [seed, be 4 n, [byteN k, byteN bt]] ∧ ∀ b, F b → b < W.heap.size := hd 10 (by decide)
    have d22 : (s 11) = .agg HH.toArray := hd 11 (by decide)
    have d23 : (s 12) = .agg C.toArray := hd 12 (by decide)
    clear hd
    simp only [mkOf, List.map_cons, List.map_nil, Act.put, List.setIfInBounds_toArray, List.set_cons_succ, List.set_cons_zero, Nat.reduceAdd, Nat.zero_add]
    refine wp_store_row 23 (.tmp 10) (.tmp 23) rfl (w.heap.size + 1 + 1) rfl Z C _ (by simpa [Act.eval] using d23) (HB2.out.keep hX (by simp)) (rpiece_size HCL.out) (by rw [HCL.out, HZL.out]) hco ?_
    refine hK _ _ ?_
    have hr := HB2.out.keep hX (by simp)
    have hx9 : Ext w (W.setRow (w.heap.size + 1 + 1) C.toArray) := setRow_grown (HX0.out.trans hX) _ _ (by omega)
    have hc9 := Blk.cells (t := 23) (setRow_at (cs' := C.toArray) hr)
    clear hK hX
    (try simp only [Exit.then])
    go_wp2_with fail
    (try simp only [Exit.inBlock, Exit.then])
    refine bodyPost_ret (results_agg rfl _ _ _ _ _ rfl Try.underlying23 rfl (rpiece_size HCL.out) hc9) rfl ?_
    exact ⟨rfl, hx9⟩
end
end Go.Proofs.Ytpdkmapogncgmaa

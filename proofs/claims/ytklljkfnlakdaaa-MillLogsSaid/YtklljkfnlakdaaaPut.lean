/- The walk of the mill's put: bytes are taken in. Condition: fewer than 2^60 bytes in all. -/
import Derived.Test.YtklljkfnlakdaaaGrind
import Derived.Test.YtklljkfnlakdaaaDrop
set_option linter.unusedVariables false
set_option linter.unusedSimpArgs false
set_option linter.unnecessarySimpa false
namespace Go.Proofs.Ytklljkfnlakdaaa
open Go.RowKit

theorem zip_ok {s R : List Nat} (h : s.length = 8) (hr : R.length = 8) : (List.zipWith (fun x y => (x + y) % 4294967296) s R).length = 8 ∧ ∀ x ∈ List.zipWith (fun x y => (x + y) % 4294967296) s R, x < 4294967296 := by
  refine ⟨by simp [h, hr], ?_⟩
  intro x hx
  obtain ⟨i, hi, rfl⟩ := List.getElem_of_mem hx
  rw [List.getElem_zipWith]
  exact Nat.mod_lt _ (by decide)
theorem firstK_ok : firstK.length = 8 ∧ ∀ x ∈ firstK, x < 4294967296 := ⟨rfl, by decide⟩
theorem block_ok {s : List Nat} (h : s.length = 8 ∧ ∀ x ∈ s, x < 4294967296) (b : List UInt8) : (block s b).length = 8 ∧ ∀ x ∈ block s b, x < 4294967296 := zip_ok h.1 (rounds_ok h _ _).1
theorem blocks_ok (b : List UInt8) : ∀ n, (blocks b n).length = 8 ∧ ∀ x ∈ blocks b n, x < 4294967296
  | 0 => firstK_ok
  | n + 1 => block_ok (blocks_ok b n) _
theorem blocks_left (b x : List UInt8) : ∀ n, 64 * n ≤ b.length → blocks (b ++ x) n = blocks b n
  | 0, _ => rfl
  | n + 1, h => by
    show block (blocks (b ++ x) n) _ = block (blocks b n) _
    rw [blocks_left b x n (by omega), List.drop_append_of_le_length (by omega), List.take_append_of_le_length (by rw [List.length_drop]; omega)]
/-- A mill in memory: so many bytes have come. -/
def MillAt (w : World) (g : Nat) (B : List UInt8) : Prop :=
  ∃ wait : List UInt8, wait.length = 64 ∧ wait.take (B.length % 64) = B.drop (64 * (B.length / 64)) ∧ Blk w g 65 (nv (blocks B (B.length / 64)) ++ bv wait ++ [Value.int .u64 (B.length : Int)])
theorem MillAt.lt {w : World} {g : Nat} {B : List UInt8} (h : MillAt w g B) : g < w.heap.size := by obtain ⟨_, _, _, hb⟩ := h; exact hb.lt
theorem MillAt.keep {w w' : World} {g : Nat} {B : List UInt8} {row : Option Nat} (h : MillAt w g B) (hg : w.grownBy w' row) (hne : some g ≠ row) : MillAt w' g B := by
  obtain ⟨wait, h1, h2, hb⟩ := h
  exact ⟨wait, h1, h2, hb.keep hg hne⟩
/-- Some bytes more come into the block that waits. -/
theorem wait_part {B x wait : List UInt8} (hl : wait.length = 64) (hw : wait.take (B.length % 64) = B.drop (64 * (B.length / 64))) (hx : B.length % 64 + x.length < 64) :
    (wait.take (B.length % 64) ++ x ++ wait.drop (B.length % 64 + x.length)).length = 64 ∧
    (wait.take (B.length % 64) ++ x ++ wait.drop (B.length % 64 + x.length)).take ((B ++ x).length % 64) = (B ++ x).drop (64 * ((B ++ x).length / 64)) ∧
    blocks (B ++ x) ((B ++ x).length / 64) = blocks B (B.length / 64) := by
  have e1 : (B ++ x).length / 64 = B.length / 64 := by rw [List.length_append]; omega
  have e2 : (B ++ x).length % 64 = B.length % 64 + x.length := by rw [List.length_append]; omega
  refine ⟨by simp [hl]; omega, ?_, by rw [e1, blocks_left _ _ _ (by omega)]⟩
  rw [e1, e2, List.drop_append_of_le_length (by omega), ← hw, List.take_append_of_le_length (by simp [hl]; omega), List.take_of_length_le (by simp [hl]; omega)]
theorem wait_full {B x wait : List UInt8} (hl : wait.length = 64) (hw : wait.take (B.length % 64) = B.drop (64 * (B.length / 64))) (hx : B.length % 64 + x.length = 64) :
    (wait.take (B.length % 64) ++ x ++ wait.drop (B.length % 64 + x.length)).length = 64 ∧
    (wait.take (B.length % 64) ++ x ++ wait.drop (B.length % 64 + x.length)).take ((B ++ x).length % 64) = (B ++ x).drop (64 * ((B ++ x).length / 64)) ∧
    blocks (B ++ x) ((B ++ x).length / 64) = block (blocks B (B.length / 64)) (wait.take (B.length % 64) ++ x ++ wait.drop (B.length % 64 + x.length)) := by
  have e1 : (B ++ x).length / 64 = B.length / 64 + 1 := by rw [List.length_append]; omega
  have e2 : (B ++ x).length % 64 = 0 := by rw [List.length_append]; omega
  refine ⟨by simp [hl]; omega, ?_, ?_⟩
  · rw [e1, e2, List.take_zero, List.drop_eq_nil_of_le (by rw [List.length_append]; omega)]
  · rw [e1]
    show block (blocks (B ++ x) _) _ = _
    have hd : (B.drop (64 * (B.length / 64))).length = B.length % 64 := by rw [List.length_drop]; omega
    rw [blocks_left _ _ _ (by omega), show wait.drop (B.length % 64 + x.length) = [] from List.drop_eq_nil_of_le (by rw [hl]; omega), List.append_nil, hw, List.drop_append_of_le_length (by omega), List.take_of_length_le (by rw [List.length_append, hd]; omega)]

theorem long_cell {w : World} {g : Nat} {st : List Nat} {wait : List UInt8} {v : Value} (hs : st.length = 8) (hw : wait.length = 64) (h : Blk w g 65 (nv st ++ bv wait ++ [v])) :
    w.cell? ⟨g, 72, none⟩ = some v ∧ w.frozen? ⟨g, 72, none⟩ = false ∧ ∀ u, Blk (w.setCell ⟨g, 72, none⟩ u) g 65 (nv st ++ bv wait ++ [u]) := by
  have hl : (nv st ++ bv wait).length = 72 := by simp [hs, hw]
  refine ⟨?_, h.free 72, fun u => ?_⟩
  · have := h.cell 72
    rwa [List.getElem?_append_right (by omega), hl] at this
  · have := h.set 72 u
    rwa [List.set_append_right _ _ (by omega), hl] at this
theorem grown_draw {a w : World} {r : Option Nat} (h : a.grownBy w r) (n : Nat) : a.grownBy (w.drewN n) r := ⟨h.os, h.tape, h.output, h.size, h.block⟩

section
variable (g : Nat) (w : World)
set_option maxHeartbeats 1000000 in
theorem Put (v : Value) (bs p : List UInt8) (F : Fp) (hm : MillAt w g bs) (hp : (Ty.sl .u8).holds w F [v] p) (hF : ∀ b, F b → b < w.heap.size ∧ b ≠ g) (hb : bs.length + p.length < 1152921504606846976) :
    Calls Try.prog 26 #[.pointer (some ⟨g, 0, none⟩), v] w fun e w' => e = .returned (.tuple #[]) ∧ MillAt w' g (bs ++ p) ∧ w.grownBy w' (some g) := by
  have hv0 : ∃ A c, v = .slice A p.length c := by obtain ⟨A, c, xs, hv, _⟩ := hp; cases hv; exact ⟨A, c, rfl⟩
  obtain ⟨A0, c0, rfl⟩ := hv0
  go_enter Try.func26, Try.ntmps26
  go_wp2
  go_loopw [1] (fun v wr => ∃ B q : List UInt8, B ++ q = bs ++ p ∧ (Ty.sl .u8).holds wr F [v] q ∧ MillAt wr g B ∧ w.grownBy wr (some g)) (fun v _ => slLen v)
  case atStart => exact ⟨bs, p, rfl, hp, hm, World.grownBy.refl _ _⟩
  case round =>
    obtain ⟨B, q, hBq, hq, hmr, hgr⟩ := hrel
    have hq0 := hq
    obtain ⟨A, c, xs, hv, hlc, hc, hA, hcell, hall⟩ := hq
    cases hv
    have hsum : B.length + q.length < 1152921504606846976 := by
      have := congrArg List.length hBq
      rw [List.length_append, List.length_append] at this
      omega
    have hsrc := src_bytes hq0
    have HBQ := Lib.hid hBq
    have HQ := Lib.hid hq0
    unfold maxLen at hc
    clear hBq hq0 hall hcell hA
    rcases Nat.eq_zero_or_pos q.length with h0 | h0
    · obtain rfl : q = [] := List.eq_nil_of_length_eq_zero h0
      go_wp2
      go_end0
      exact ⟨rfl, by have := HBQ.out; rw [List.append_nil] at this; rw [← this]; exact hmr, hgr⟩
    · obtain ⟨wait, hwl, hwt, hblk⟩ := hmr
      obtain ⟨n, hn⟩ : ∃ n, n = min q.length (64 - B.length % 64) := ⟨_, rfl⟩
      have hn1 : n ≤ q.length := by omega
      have hn2 : B.length % 64 + n ≤ 64 := by omega
      have hn3 : 0 < n := by omega
      have hql : (q.take n).length = n := by rw [List.length_take]; omega
      have hpart := fun h => wait_part (x := q.take n) hwl hwt h
      have hfull := fun h => wait_full (x := q.take n) hwl hwt h
      rw [hql] at hpart hfull
      have hst := blocks_ok B (B.length / 64)
      have hoff : B.length % 64 < 64 := Nat.mod_lt _ (by decide)
      have hBL : (B ++ q.take n).length = B.length + n := by rw [List.length_append, hql]
      rw [hBL] at hpart hfull
      have hdiv : (B.length : Int) % 64 = ((B.length % 64 : Nat) : Int) := by omega
      generalize hS : blocks B (B.length / 64) = st at *
      generalize hO : B.length % 64 = off at *
      generalize hL : B.length = L at *
      have hcur : (nv st).length = 8 := by rw [nv_length]; exact hst.1
      have c72 := hblk.cell 72
      rw [List.getElem?_append_right (by rw [List.length_append, hcur, bv_length, hwl]; omega), List.length_append, hcur, bv_length, hwl] at c72
      simp only [Nat.sub_self, List.getElem?_cons_zero] at c72
      have hsplit : ∀ X : List UInt8, X.length = n → (nv st ++ bv wait ++ [Value.int .u64 (L : Int)]).take (8 + off) ++ bv X ++ (nv st ++ bv wait ++ [Value.int .u64 (L : Int)]).drop (8 + off + n) = nv st ++ bv (wait.take off ++ X ++ wait.drop (off + n)) ++ [Value.int .u64 (L : Int)] := by
        intro X hX
        rw [List.append_assoc (nv st), List.take_append, List.drop_append, hcur, List.take_of_length_le (by rw [hcur]; omega), List.drop_eq_nil_of_le (by rw [hcur]; omega), show 8 + off - 8 = off by omega, show 8 + off + n - 8 = off + n by omega,
          List.take_append_of_le_length (by rw [bv_length, hwl]; omega), List.drop_append_of_le_length (by rw [bv_length, hwl]; omega)]
        simp [bv]
      have hlen : (nv st ++ bv wait ++ [Value.int .u64 (L : Int)]).length = 73 := by simp only [List.length_append, hcur, bv_length, hwl, List.length_cons, List.length_nil]
      have HDIV := Lib.hid hdiv
      have HN := Lib.hid hn
      have HQL := Lib.hid hql
      have HPART := Lib.hid hpart
      have HFULL := Lib.hid hfull
      have HST := Lib.hid hst
      have HBL := Lib.hid hBL
      have HS := Lib.hid hS
      have HO := Lib.hid hO
      have HL := Lib.hid hL
      have HCUR := Lib.hid hcur
      have HSPLIT := Lib.hid hsplit
      have HLEN := Lib.hid hlen
      have HBLK := Lib.hid hblk
      have HWL := Lib.hid hwl
      have o1 : (0 : Int) ≤ (off : Int) := by omega
      have o2 : (off : Int) ≤ 64 := by omega
      clear hn hql hpart hfull hst hBL hS hO hL hcur hsplit hlen hblk hwl hwt
      go_wp2
      refine wp_region_draw_tail 10 (by kernel_rfl) (by kernel_rfl) (by kernel_rfl) ?_
      simp only [List.take_succ_cons, List.take_zero, List.drop_succ_cons, List.drop_zero]
      repeat (go_big_quiet_step (fail))
      refine wpQuiet_nil ?_
      rintro _ ⟨nq, rfl⟩
      have hcap : w.grownBy (wr.drewN nq) (some g) := grown_draw hgr nq
      have hsrc : Src (wr.drewN nq) A q.length (bv q) := hsrc
      have hblk : (wr.drewN nq).heap[g]? = some (.cells (nv st ++ bv wait ++ [Value.int .u64 (L : Int)]).toArray 65 (0, 0)) := HBLK.out
      have hq1 : (Ty.sl .u8).holds (wr.drewN nq) F [.slice A q.length c] q := HQ.out
      have HQ1 := Lib.hid hq1
      have HG1 := Lib.hid hcap
      generalize wr.drewN nq = wd at HQ1 HG1 hsrc hblk ⊢
      clear hq1 hcap hm hgr
      have hdrop := holds_drop HQ1.out hn1
      have HDROP := Lib.hid hdrop
      have hwl2 : (wait.take off ++ q.take n ++ wait.drop (off + n)).length = 64 := by have := HQL.out; have := HWL.out; simp; omega
      have HWL2 := Lib.hid hwl2
      have hBq2 : (B ++ q.take n) ++ q.drop n = bs ++ p := by rw [List.append_assoc, List.take_append_drop]; exact HBQ.out
      have HBQ2 := Lib.hid hBq2
      generalize hX : wait.take off ++ q.take n ++ wait.drop (off + n) = X at *
      have HX := Lib.hid hX
      clear hdrop hwl2 hBq2 hX
      by_cases hz : off + n = 64
      · obtain ⟨-, hw2, hb2⟩ := HFULL.out hz
        have HW2 := Lib.hid hw2
        have HB2 := Lib.hid hb2
        have hz1 : (((L : Int) + (n : Int)) % 64 == 0) = true := by have := HO.out; simp; omega
        clear hz hw2 hb2
        go_wp2_with (first
          | (refine wpList_copyB rfl (.tmp 16) (.tmp 17) _ _ rfl 5 Try.underlying22 (by kernel_rfl) g (8 + off) (64 - off) (64 - off) rfl A q.length c rfl q rfl hsrc _ _ hblk n (by rw [HN.out]) (by rw [HLEN.out]; omega) ?_; intro w1 hb1 hg1; rw [HSPLIT.out _ HQL.out, HX.out] at hb1; obtain ⟨c72, f72, s72⟩ := long_cell HST.out.1 HWL2.out hb1; have HS72 := Lib.hid s72; have HG2 := Lib.hid (HG1.out.trans hg1); have HQ2 := Lib.hid (Ty.keep (t := (Ty.sl .u8)) (fun b hb => hg1.block b (Nat.lt_of_lt_of_le (hF b hb).1 HG1.out.size) (by simpa using (hF b hb).2)) (fun _ h => h) HDROP.out); clear s72)
          | fail)
        all_goals
          refine (Grind g st X (L + n) _ (by rw [Int.natCast_add]; exact HS72.out _) HST.out.1 HWL2.out HST.out.2).mono ?_
          rintro e w2 ⟨rfl, hb2, hg2⟩
          go_wp2
          go_roundw
          case rel =>
            have hk : w1.grownBy w2 (some g) := (only_set 72 _).trans hg2
            have hq3 := Ty.keep (t := (Ty.sl .u8)) (fun b hb => hk.block b (Nat.lt_of_lt_of_le (hF b hb).1 HG2.out.size) (by simpa using (hF b hb).2)) (fun _ h => h) HQ2.out
            refine ⟨B ++ q.take n, q.drop n, HBQ2.out, ?_, ⟨X, HWL2.out, by rw [HBL.out]; exact HW2.out, by rw [HBL.out, HB2.out]; exact hb2⟩, HG2.out.trans hk⟩
            first
              | exact hq3
              | (rw [if_pos (by assumption), show c - n = 0 by omega] at hq3; exact hq3)
              | (rw [if_neg (by assumption)] at hq3; exact hq3)
          case measure => simp [slLen]; omega
      · obtain ⟨-, hw2, hb2⟩ := HPART.out (by omega)
        have HW2 := Lib.hid hw2
        have HB2 := Lib.hid hb2
        have hz1 : (((L : Int) + (n : Int)) % 64 == 0) = false := by have := HO.out; simp; omega
        clear hz hw2 hb2
        go_wp2_with (first
          | (refine wpList_copyB rfl (.tmp 16) (.tmp 17) _ _ rfl 5 Try.underlying22 (by kernel_rfl) g (8 + off) (64 - off) (64 - off) rfl A q.length c rfl q rfl hsrc _ _ hblk n (by rw [HN.out]) (by rw [HLEN.out]; omega) ?_; intro w1 hb1 hg1; rw [HSPLIT.out _ HQL.out, HX.out] at hb1; obtain ⟨c72, f72, s72⟩ := long_cell HST.out.1 HWL2.out hb1; have HS72 := Lib.hid s72; have HG2 := Lib.hid (HG1.out.trans hg1); have HQ2 := Lib.hid (Ty.keep (t := (Ty.sl .u8)) (fun b hb => hg1.block b (Nat.lt_of_lt_of_le (hF b hb).1 HG1.out.size) (by simpa using (hF b hb).2)) (fun _ h => h) HDROP.out); clear s72)
          | fail)
        all_goals
          go_roundw
          case rel =>
            have hk : w1.grownBy (w1.setCell ⟨g, 72, none⟩ (Value.int .u64 ((L : Int) + (n : Int)))) (some g) := only_set 72 _
            have hq3 := Ty.keep (t := (Ty.sl .u8)) (fun b hb => hk.block b (Nat.lt_of_lt_of_le (hF b hb).1 HG2.out.size) (by simpa using (hF b hb).2)) (fun _ h => h) HQ2.out
            refine ⟨B ++ q.take n, q.drop n, HBQ2.out, ?_, ⟨X, HWL2.out, by rw [HBL.out]; exact HW2.out, by rw [HBL.out, HB2.out]; exact by rw [Int.natCast_add]; exact HS72.out _⟩, HG2.out.trans hk⟩
            first
              | exact hq3
              | (rw [if_pos (by assumption), show c - n = 0 by omega] at hq3; exact hq3)
              | (rw [if_neg (by assumption)] at hq3; exact hq3)
          case measure => simp [slLen]; omega
end
end Go.Proofs.Ytklljkfnlakdaaa

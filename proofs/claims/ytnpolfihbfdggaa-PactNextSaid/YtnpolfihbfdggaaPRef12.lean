/- Walks of the document's Turn, Find, Held of layer 12. Conditions: the state's numbers are in their bounds. -/
import Derived.Test.YtnpolfihbfdggaaPFind
import Derived.Test.YtnpolfihbfdggaaPTwin
import Derived.Test.YtnpolfihbfdggaaPRef02
set_option linter.unusedVariables false
set_option linter.unusedSimpArgs false
set_option linter.unnecessarySimpa false
namespace Go.Proofs.Ytnpolfihbfdggaa
open Go.RowKit

theorem nat_beq' (a b : Nat) : ((a : Int) == (b : Int)) = (a == b) := by
  rw [Bool.eq_iff_iff, beq_iff_eq, beq_iff_eq]; exact Int.ofNat_inj
theorem addr_in (a : Addr) (k n : Nat) (h : n ≠ 0) : (a.add k).add n = ⟨(a.add k).block, (a.add k).off + n, none⟩ := by
  conv => lhs; unfold Addr.add
  rw [if_neg h]
  rfl
theorem addr_in0 (a : Addr) : a.add 0 = a := by unfold Addr.add; rw [if_pos rfl]
/-- The cells of one payment that is read in place. -/
theorem cond_in {w : World} {a : Addr} {k : Nat} {c : Cd} (h : Cells w (a.add k) (condCells c)) : w.cell? (a.add k) = some (.int .u64 (c.1 : Int)) ∧ w.cell? ⟨(a.add k).block, (a.add k).off + 1, none⟩ = some (.int .i64 c.2.1) ∧ w.cell? ⟨(a.add k).block, (a.add k).off + 2, none⟩ = some (.int .u64 (c.2.2.1 : Int)) := by
  refine ⟨?_, ?_, ?_⟩
  · have := h 0 _ rfl
    rwa [addr_in0] at this
  · have := h 1 _ rfl
    rwa [addr_in _ _ _ (by decide)] at this
  · have := h 2 _ rfl
    rwa [addr_in _ _ _ (by decide)] at this
set_option maxHeartbeats 400000 in
theorem RTurn (r : Nat) (w : World) (hr : r < M64) : Calls Try.prog 30 #[.int .u64 (r : Int)] w fun e w' => e = .returned (.int .i64 (turnM r)) ∧ w = w' := by
  unfold M64 at hr
  by_cases h : r % 2 = 1
  · have e : turnM r = 0 := by unfold turnM; rw [if_pos h]
    rw [e]
    have h2 : (r : Int) % 2 = 1 := by omega
    have h3 : (r : Int).tmod 2 = 1 := by rw [Int.tmod_eq_emod_of_nonneg (by omega)]; exact h2
    clear e
    go_enter Try.func30, Try.ntmps30
    go_wp2
    go_ret
    exact ⟨rfl, rfl⟩
  · have e : turnM r = 1 := by unfold turnM; rw [if_neg h]
    rw [e]
    have h2 : (r : Int) % 2 = 0 := by omega
    have h3 : (r : Int).tmod 2 = 0 := by rw [Int.tmod_eq_emod_of_nonneg (by omega)]; exact h2
    clear e
    go_enter Try.func30, Try.ntmps30
    go_wp2
    go_ret
    exact ⟨rfl, rfl⟩
set_option maxRecDepth 100000 in
set_option maxHeartbeats 1000000 in
theorem RFind (s : St) (v : Value) (id : Nat) (w : World) (F : Fp) (hc : Conds w F v s.cs) (hF : ∀ b, F b → b < w.heap.size) :
    Calls Try.prog 27 #[stv s v, .int .u64 (id : Int)] w fun e w' => e = .returned (.int .i64 (findM s.cs id)) ∧ Ext w w' := by
  obtain ⟨cs, hcs⟩ : ∃ cs, cs = s.cs := ⟨_, rfl⟩
  rw [← hcs] at hc ⊢
  have HCS := Lib.hid hcs
  clear hcs
  obtain ⟨A, c, xs, rfl, hlc, hcm, hA, hcell, hall⟩ := conds_open hc
  clear hc
  unfold maxLen at hcm
  have hx0 : Ext w (w.alloc (.cells #[.int .u32 (s.chan : Int), .int .u64 (s.round : Int), .int .u64 (s.m0 : Int), .int .u64 (s.m1 : Int), .int .u64 (s.t0 : Int), .int .u64 (s.t1 : Int), .slice A (List.length (α := Cd) cs) c] 27)) := (Ext.refl w).alloc _
  have HX0 := Lib.hid hx0
  clear hx0
  go_enter Try.func27, Try.ntmps27
  go_wp2
  go_loop [5] (fun i => ∃ k : Nat, k ≤ List.length (α := Cd) cs ∧ i = .int .i64 k ∧ (∀ c ∈ cs.take k, (c.1 == id) = false)) (fun i => List.length (α := Cd) cs - (intOf i).toNat)
  case atStart => exact ⟨0, by omega, rfl, by simp⟩
  case round =>
    obtain ⟨k, hk, rfl, hn⟩ := hrel
    by_cases hlt : k < List.length (α := Cd) cs
    · obtain ⟨ad, rfl, hf, hcells⟩ := hcell (by omega)
      obtain ⟨hcc, hok⟩ := conds_at hall (hcells.keep (HX0.out.same hF _ hf)) hlt
      obtain ⟨q0, q1, q2⟩ := cond_in hcc
      have hgo := fun h => find_go cs id k hlt hn h
      have hn2 : (cs[k].1 == id) = false → ∀ c ∈ cs.take (k + 1), (c.1 == id) = false := by
        intro h c hc
        rw [List.take_succ_eq_append_getElem hlt] at hc
        rcases List.mem_append.1 hc with hc | hc
        · exact hn c hc
        · simp at hc; subst hc; exact h
      generalize hck : cs[k] = ck at *
      have HGO := Lib.hid hgo
      have HN2 := Lib.hid hn2
      have hbq := nat_beq' ck.1 id
      clear hgo hn2 hcells hck hn hcc q1 q2
      cases hb : (ck.1 == id)
      all_goals
        rw [hb] at hbq
        have HB := Lib.hid hb
        clear hb
        go_wp2
      · go_round
        case rel => exact ⟨k + 1, by omega, by go_num, HN2.out HB.out⟩
        case measure => simp [intOf]; omega
      · go_ret
        exact ⟨by rw [HGO.out HB.out]; rfl, HX0.out⟩
    · obtain rfl : k = List.length (α := Cd) cs := by omega
      rw [List.take_length] at hn
      have hno := find_no cs id hn
      have HNO := Lib.hid hno
      clear hno hn
      go_wp2
      go_ret
      exact ⟨by rw [HNO.out]; rfl, HX0.out⟩
theorem ams_drop (cs : List Cd) (side : Int) (k : Nat) (h : k < cs.length) : ams (cs.drop k) side = if cs[k].2.1 = side then cs[k].2.2.1 :: ams (cs.drop (k + 1)) side else ams (cs.drop (k + 1)) side := by
  unfold ams
  rw [List.drop_eq_getElem_cons h]
  by_cases e : cs[k].2.1 = side
  · rw [if_pos e, List.filter_cons_of_pos (by simpa using e), List.map_cons]
  · rw [if_neg e, List.filter_cons_of_neg (by simpa using e)]
set_option maxRecDepth 100000 in
set_option maxHeartbeats 1000000 in
theorem RHeld (s : St) (v : Value) (side : Int) (w : World) (F : Fp) (hc : Conds w F v s.cs) (hF : ∀ b, F b → b < w.heap.size) :
    Calls Try.prog 22 #[stv s v, .int .i64 side] w fun e w' => e = .returned (numErr (heldM s.cs side)) ∧ Ext w w' := by
  obtain ⟨cs, hcs⟩ : ∃ cs, cs = s.cs := ⟨_, rfl⟩
  rw [← hcs] at hc ⊢
  have HCS := Lib.hid hcs
  clear hcs
  obtain ⟨A, c, xs, rfl, hlc, hcm, hA, hcell, hall⟩ := conds_open hc
  clear hc
  unfold maxLen at hcm
  have hx0 : Ext w (w.alloc (.cells #[.int .u32 (s.chan : Int), .int .u64 (s.round : Int), .int .u64 (s.m0 : Int), .int .u64 (s.m1 : Int), .int .u64 (s.t0 : Int), .int .u64 (s.t1 : Int), .slice A (List.length (α := Cd) cs) c] 27)) := (Ext.refl w).alloc _
  have HX0 := Lib.hid hx0
  clear hx0
  go_enter Try.func22, Try.ntmps22
  go_wp2
  go_loop [6, 7, 8] (fun s e i => ∃ (k n : Nat) (z : Int), k ≤ List.length (α := Cd) cs ∧ n < M64 ∧ i = .int .i64 k ∧ s = .int .u64 n ∧ e = .int .i64 z ∧ ((z = 0 ∧ heldM cs side = sumM n (ams (cs.drop k) side)) ∨ (z = 11 ∧ heldM cs side = (0, 11) ∧ n = 0))) (fun _ _ i => List.length (α := Cd) cs - (intOf i).toNat)
  case atStart => exact ⟨0, 0, 0, by omega, by unfold M64; omega, rfl, rfl, rfl, .inl ⟨rfl, rfl⟩⟩
  case round =>
    obtain ⟨k, n, z, hk, hn, rfl, rfl, rfl, hs⟩ := hrel
    by_cases hlt : k < List.length (α := Cd) cs
    · rcases hs with ⟨rfl, hs⟩ | ⟨rfl, hs, rfl⟩
      · obtain ⟨ad, rfl, hf, hcells⟩ := hcell (by omega)
        obtain ⟨hcc, hok⟩ := conds_at hall (hcells.keep (HX0.out.same hF _ hf)) hlt
        obtain ⟨q0, q1, q2⟩ := cond_in hcc
        have hst := ams_drop cs side k hlt
        have ham := bounds_u64 hok.am
        generalize hck : cs[k] = ck at *
        rw [hst] at hs
        have HS := Lib.hid hs
        clear hs hst hcells hcc hck hok q0
        by_cases hside : ck.2.1 = side
        · have hsb : (ck.2.1 == side) = true := by simpa using hside
          rw [if_pos hside] at HS
          have hb : ck.2.2.1 < M64 := by unfold M64; omega
          clear hside
          generalize ck.2.2.1 = x at *
          by_cases hov : n + x < M64
          · have ha : addM n x = (n + x, 0) := by unfold addM; rw [if_pos hov]
            have hc := fun W => RAdd n x W hn hb
            rw [ha] at hc
            simp only [numErr] at hc
            have HC := Lib.hid hc
            clear ha hc
            go_wp2_with (go_at_call 31; refine (HC.out _).mono ?_; rintro e w' ⟨rfl, rfl⟩)
            go_round
            case rel => exact ⟨k + 1, n + x, 0, by omega, hov, by go_num, by go_num, rfl, .inl ⟨rfl, by rw [HS.out, sumM, if_pos hov]⟩⟩
            case measure => simp [intOf]; omega
          · have ha : addM n x = (0, 11) := by unfold addM; rw [if_neg hov]
            have hc := fun W => RAdd n x W hn hb
            rw [ha] at hc
            simp only [numErr] at hc
            have HC := Lib.hid hc
            have hr : sumM n (x :: ams (cs.drop (k + 1)) side) = (0, 11) := by rw [sumM, if_neg hov]
            have HR := Lib.hid hr
            clear ha hc hr
            go_wp2_with (go_at_call 31; refine (HC.out _).mono ?_; rintro e w' ⟨rfl, rfl⟩)
            go_round
            case rel => exact ⟨k + 1, 0, 11, by omega, by unfold M64; omega, by go_num, by go_num, rfl, .inr ⟨rfl, by rw [HS.out, HR.out], rfl⟩⟩
            case measure => simp [intOf]; omega
        · have hsb : (ck.2.1 == side) = false := by simpa using hside
          rw [if_neg hside] at HS
          clear hside
          go_wp2
          go_round
          case rel => exact ⟨k + 1, n, 0, by omega, hn, by go_num, rfl, rfl, .inl ⟨rfl, HS.out⟩⟩
          case measure => simp [intOf]; omega
      · have HS := Lib.hid hs
        clear hs
        go_wp2
        go_ret2
        exact ⟨by rw [HS.out]; rfl, HX0.out⟩
    · obtain rfl : k = List.length (α := Cd) cs := by omega
      rcases hs with ⟨rfl, hs⟩ | ⟨rfl, hs, rfl⟩
      · rw [List.drop_length] at hs
        replace hs : heldM cs side = (n, 0) := hs
        have HS := Lib.hid hs
        clear hs
        go_wp2
        go_ret2
        exact ⟨by rw [HS.out]; rfl, HX0.out⟩
      · have HS := Lib.hid hs
        clear hs
        go_wp2
        go_ret2
        exact ⟨by rw [HS.out]; rfl, HX0.out⟩
end Go.Proofs.Ytnpolfihbfdggaa

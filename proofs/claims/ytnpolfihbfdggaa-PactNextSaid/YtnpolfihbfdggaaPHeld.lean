/- Walks of the pact's Held, Find. Conditions: the state's numbers are in their bounds. -/
import Derived.Test.YtnpolfihbfdggaaPShape
import Derived.Test.YtnpolfihbfdggaaMono
set_option linter.unusedVariables false
set_option linter.unusedSimpArgs false
set_option linter.unnecessarySimpa false
namespace Go.Proofs.Ytnpolfihbfdggaa
open Go.RowKit

theorem u64_info : (Try.prog.info? 23).map (fun i => (i.zero, i.size, i.bytes)) = some (some (.int .u64 0), 1, 8) := by kernel_rfl
theorem ams_step (cs : List Cd) (side : Int) (k : Nat) (h : k < cs.length) : ams (cs.take (k + 1)) side = if cs[k].2.1 = side then ams (cs.take k) side ++ [cs[k].2.2.1] else ams (cs.take k) side := by
  unfold ams
  rw [List.take_succ_eq_append_getElem h, List.filter_append, List.map_append]
  by_cases e : cs[k].2.1 = side
  · simp [e]
  · simp [e]
/-- Numbers of 64 bits in a row of their own. -/
def OwnN (w : World) (v : Value) (l : List Nat) : Prop := Own w 23 1 v l.length (l.map fun n : Nat => Value.int .u64 (n : Int))
theorem ownN_holds {w : World} {v : Value} {l : List Nat} (h : OwnN w v l) (hb : ∀ n ∈ l, (Lit.int .u64 (n : Int)).wf = true) : (Ty.sl (.nat .u64)).holds w (fun b => v.ownBlock = some b) [v] l := by
  have hl := h.1
  have hall : ∀ (l : List Nat), (∀ n ∈ l, (Lit.int .u64 (n : Int)).wf = true) → AllH ((Ty.nat .u64).holds w (fun b => v.ownBlock = some b)) (l.map fun n : Nat => Value.int .u64 (n : Int)) l := by
    intro l
    induction l with
    | nil => intro _; rfl
    | cons a l ih => intro hb; exact ⟨[_], _, rfl, ⟨rfl, hb a (by simp)⟩, ih fun n hn => hb n (by simp [hn])⟩
  rcases h.2 with ⟨rfl, h0⟩ | ⟨g, cap, cur, rfl, _, hg, hnc, hcm, _, _⟩
  · obtain rfl : l = [] := List.eq_nil_of_length_eq_zero h0
    exact ⟨none, 0, [], rfl, by simp, by simp [maxLen], fun _ => rfl, fun h => absurd rfl h, rfl⟩
  · exact ⟨_, cap, _, rfl, hnc, hcm, by simp, fun _ => ⟨_, rfl, rfl, World.ownsRow.cells h rfl⟩, hall l hb⟩

set_option maxRecDepth 100000 in
set_option maxHeartbeats 1000000 in
theorem Held (s : St) (v : Value) (side : Int) (w : World) (F : Fp) (hc : Conds w F v s.cs) (hF : ∀ b, F b → b < w.heap.size) (hlen : s.cs.length ≤ 4398046511104) :
    Calls Try.prog 21 #[stv s v, .int .i64 side] w fun e w' => e = .returned (numErr (heldM s.cs side)) ∧ Ext w w' := by
  obtain ⟨i0, hi, hz0, hz1, hz2⟩ := info_parts u64_info
  obtain ⟨cs, hcs⟩ : ∃ cs, cs = s.cs := ⟨_, rfl⟩
  rw [← hcs] at hc hlen ⊢
  have HCS := Lib.hid hcs
  clear hcs
  obtain ⟨A, c, xs, hv, hlc, hcm, hA, hcell, hall⟩ := hc
  cases hv
  unfold maxLen at hcm
  generalize hZ : condCells (0, 0, 0, List.replicate 32 0, 0, ()) = Z
  have hz : (Try.prog.info? 44).bind (fun i => i.zero.map (·.cells)) = some Z.toArray := by rw [← hZ]; exact cond_zero
  have hzl : Z.length = 36 := by rw [← hZ]; rfl
  have HZL := Lib.hid hzl
  clear hZ hzl
  go_enter Try.func21, Try.ntmps21
  go_wp2
  have hx0 : Ext w (w.alloc (.cells #[.int .u32 (s.chan : Int), .int .u64 (s.round : Int), .int .u64 (s.m0 : Int), .int .u64 (s.m1 : Int), .int .u64 (s.t0 : Int), .int .u64 (s.t1 : Int), .slice A cs.length c] 36)) := (Ext.refl w).alloc _
  go_loopw [6, 8, 12] (fun l p i wr => ∃ k : Nat, k ≤ cs.length ∧ i = .int .i64 k ∧ Ext w wr ∧ OwnN wr l (ams (cs.take k) side) ∧ (ams (cs.take k) side).length ≤ k ∧ (∀ n ∈ ams (cs.take k) side, (Lit.int .u64 (n : Int)).wf = true) ∧ (∀ b, l.ownBlock = some b → w.heap.size ≤ b) ∧ ∃ q, p = q) (fun _ _ i _ => cs.length - (intOf i).toNat)
  case atStart => exact ⟨0, by omega, rfl, hx0, Own.nil _ _ _, by simp [ams], by simp [ams], by simp [Value.ownBlock], _, rfl⟩
  case round =>
    clear hx0
    obtain ⟨k, hk, rfl, hx, ho, hle, hwf, hap, q, rfl⟩ := hrel
    by_cases hlt : k < cs.length
    · obtain ⟨ad, rfl, hf, hcells⟩ := hcell (by intro h; rw [h] at hlt; exact absurd hlt (Nat.not_lt_zero _))
      obtain ⟨hcc, hok⟩ := conds_at hall (hcells.keep (hx.same hF _ hf)) hlt
      have hst := ams_step cs side k hlt
      generalize hck : cs[k] = ck at *
      have hcl := condCells_len hok
      have HCL := Lib.hid hcl
      have hone := condCells_one ck
      have HST := Lib.hid hst
      have HO := Lib.hid ho
      have HX := Lib.hid hx
      have hc1 : (condCells ck)[1]? = some (.int .i64 ck.2.1) := rfl
      have hc2 : (condCells ck)[2]? = some (.int .u64 (ck.2.2.1 : Int)) := rfl
      have hwa := hok.am
      generalize hC : condCells ck = C at *
      clear hcl hst ho hx hcells
      have hwN : ∀ n ∈ ams (cs.take k) side ++ [ck.2.2.1], (Lit.int .u64 (n : Int)).wf = true := by
        intro n hn
        rcases List.mem_append.1 hn with hn | hn
        · exact hwf n hn
        · simp at hn; subst hn; exact hwa
      by_cases hs : ck.2.1 = side
      · have hs1 : (ck.2.1 == side) = true := by simpa using hs
        rw [if_pos hs] at HST
        have HS := Lib.hid hs
        clear hs
        go_wp2_with (first
          | (refine wpList_load_agg _ rfl 44 (.tmp 14) rfl _ rfl C _ Try.underlying44 rfl (cond_size HCL.out) hcc ?_)
          | (refine wpList_alloc _ rfl 44 rfl _ hz ?_)
          | (refine wpList_store_new _ rfl 44 (.tmp 8) (.tmp 15) rfl rfl Z C _ rfl (cond_size HCL.out) (by rw [HCL.out, HZL.out]) hone ?_)
          | (at_builtin; refine wpList_app _ rfl (.tmp 20) (.tmp 23) _ _ rfl _ _ i0 _ 1 8 Try.underlying85 Try.underlying85 hi hz0 hz1 hz2 rfl (by decide) u6 _ _ rfl (Own.ext HO.out (((Ext.refl wr).alloc _).alloc _)) _ 1 1 [Value.int .u64 (ck.2.2.1 : Int)] rfl rfl (src_new_at (w := wr.alloc (.cells C.toArray 44)) (by simp) [Value.int .u64 (ck.2.2.1 : Int)] _ 1) (by simp [Value.oneCell']) (by unfold maxLen; omega) (by omega) ?_; intro v4 w4 ho4 hm4)
          | fail)
        have hx4 : Ext w w4 := grown_then ((HX.out.alloc (.cells C.toArray 44)).alloc (.cells #[Value.int .u64 (ck.2.2.1 : Int)] 23)) hm4.grown (.inr hap)
        have hap4 : ∀ b, v4.ownBlock = some b → w.heap.size ≤ b := fun b hb => by
          rcases hm4.at_ with e | h
          · exact hap b (by rw [← e]; exact hb)
          · have h1 := h b hb; have h2 := HX.out.size; simp at h1; omega
        go_wp2
        go_roundw
        case rel => exact ⟨k + 1, by omega, by go_num, hx4, by rw [HST.out]; unfold OwnN; rw [List.length_append, List.map_append]; exact ho4, by rw [HST.out, List.length_append]; simp; omega, by rw [HST.out]; exact hwN, hap4, _, rfl⟩
        case measure => simp [intOf]; omega
      · have hs1 : (ck.2.1 == side) = false := by simpa using hs
        rw [if_neg hs] at HST
        have HS := Lib.hid hs
        clear hs
        go_wp2_with (first
          | (refine wpList_load_agg _ rfl 44 (.tmp 14) rfl _ rfl C _ Try.underlying44 rfl (cond_size HCL.out) hcc ?_)
          | (refine wpList_alloc _ rfl 44 rfl _ hz ?_)
          | (refine wpList_store_new _ rfl 44 (.tmp 8) (.tmp 15) rfl rfl Z C _ rfl (cond_size HCL.out) (by rw [HCL.out, HZL.out]) hone ?_)
          | fail)
        go_roundw
        case rel => exact ⟨k + 1, by omega, by go_num, HX.out.alloc _, by rw [HST.out]; exact Own.ext HO.out ((Ext.refl wr).alloc _), by rw [HST.out]; omega, by rw [HST.out]; exact hwf, hap, _, rfl⟩
        case measure => simp [intOf]; omega
    · obtain rfl : k = cs.length := by omega
      rw [List.take_length] at ho hwf
      have hl := ownN_holds ho hwf
      have hm := Money_Sum _ _ wr _ hl
      simp only [numErr] at hm
      have HM := Lib.hid hm
      clear ho hl hwf hm
      go_wp2_with (go_at_call 40; refine HM.out.mono ?_; rintro e w' ⟨rfl, rfl⟩)
      go_ret2
      exact ⟨rfl, hx⟩
end Go.Proofs.Ytnpolfihbfdggaa

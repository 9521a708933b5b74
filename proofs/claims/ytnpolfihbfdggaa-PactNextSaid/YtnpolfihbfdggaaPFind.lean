/- Walks of the pact's Find, with the library's IndexFunc at its function. No condition but that the payments can be read. -/
import Derived.Test.YtnpolfihbfdggaaPHeld
set_option linter.unusedVariables false
set_option linter.unusedSimpArgs false
set_option linter.unnecessarySimpa false
namespace Go.Proofs.Ytnpolfihbfdggaa
open Go.RowKit

set_option maxRecDepth 100000 in
set_option maxHeartbeats 400000 in
theorem Find_fn (ck : Cd) (id g : Nat) (w : World) (hok : CondOk ck) (hg : w.cell? ⟨g, 0, none⟩ = some (.int .u64 (id : Int))) :
    Calls Try.prog 39 #[.agg (condCells ck).toArray, .pointer (some ⟨g, 0, none⟩)] w fun e w' => e = .returned (.bool (ck.1 == id)) ∧ Ext w w' := by
  have hc0 : (condCells ck)[0]? = some (.int .u64 (ck.1 : Int)) := rfl
  have hgl := World.block_lt_of_cell? _ _ hg
  have hbl : Blk (w.alloc (.cells (condCells ck).toArray 44)) w.heap.size 44 (condCells ck) := Blk.new _ _ _
  have hcell := hbl.cell 0
  rw [hc0] at hcell
  have hg2 := (World.cell?_of_block (Below.heap_alloc w (.cells (condCells ck).toArray 44) _ hgl)).trans hg
  have hx : Ext w (w.alloc (.cells (condCells ck).toArray 44)) := (Ext.refl w).alloc _
  generalize condCells ck = C at *
  clear hc0 hbl hg
  go_enter Try.func39, Try.ntmps39
  go_wp2
  go_ret
  have e : ((ck.1 : Int) == (id : Int)) = (ck.1 == id) := by
    by_cases h : ck.1 = id
    · simp [h]
    · have h2 : ¬ (ck.1 : Int) = (id : Int) := by omega
      rw [beq_eq_false_iff_ne.2 h2, beq_eq_false_iff_ne.2 h]
  exact ⟨by rw [← e]; rfl, hx⟩

theorem find_go (cs : List Cd) (id k : Nat) (h : k < cs.length) (hn : ∀ c ∈ cs.take k, (c.1 == id) = false) (hy : (cs[k].1 == id) = true) : findM cs id = k := by
  have hi : cs.findIdx (fun c => c.1 == id) = k := by
    rw [List.findIdx_eq h]
    refine ⟨hy, fun j hj => ?_⟩
    have := hn cs[j] (List.mem_take_iff_getElem.2 ⟨j, by omega, rfl⟩)
    simpa using this
  have ha : cs.any (fun c => c.1 == id) = true := by
    rw [List.any_eq_true]
    exact ⟨cs[k], List.getElem_mem _, hy⟩
  unfold findM
  rw [if_pos ha, hi]
theorem find_no (cs : List Cd) (id : Nat) (hn : ∀ c ∈ cs, (c.1 == id) = false) : findM cs id = -1 := by
  have ha : cs.any (fun c => c.1 == id) = false := by
    rw [List.any_eq_false]
    intro c hc
    rw [hn c hc]; simp
  unfold findM
  rw [ha]; simp
set_option maxRecDepth 100000 in
set_option maxHeartbeats 1000000 in
theorem IndexFunc (v : Value) (cs : List Cd) (id g : Nat) (w : World) (F : Fp) (hc : Conds w F v cs) (hF : ∀ b, F b → b < w.heap.size) (hg : w.cell? ⟨g, 0, none⟩ = some (.int .u64 (id : Int))) :
    Calls Try.prog 38 #[v, .func (.func 39) #[] #[.pointer (some ⟨g, 0, none⟩)]] w fun e w' => e = .returned (.int .i64 (findM cs id)) ∧ Ext w w' := by
  obtain ⟨A, c, xs, hv, hlc, hcm, hA, hcell, hall⟩ := hc
  cases hv
  unfold maxLen at hcm
  have hlen : cs.length ≤ c := hlc
  have hgl := World.block_lt_of_cell? _ _ hg
  have HG := Lib.hid hg
  clear hg
  go_enter Try.func38, Try.ntmps38
  go_wp2
  go_loopw [5, 8] (fun p i wr => ∃ k : Nat, k ≤ cs.length ∧ i = .int .i64 k ∧ Ext w wr ∧ (∀ c ∈ cs.take k, (c.1 == id) = false) ∧ ∃ q, p = q) (fun _ i _ => cs.length - (intOf i).toNat)
  case atStart => exact ⟨0, by omega, rfl, Ext.refl _, by simp, _, rfl⟩
  case round =>
    obtain ⟨k, hk, rfl, hx, hn, q, rfl⟩ := hrel
    by_cases hlt : k < cs.length
    · obtain ⟨ad, rfl, hf, hcells⟩ := hcell (by intro h; rw [h] at hlt; exact absurd hlt (Nat.not_lt_zero _))
      obtain ⟨hcc, hok⟩ := conds_at hall (hcells.keep (hx.same hF _ hf)) hlt
      have hcl := condCells_len hok
      have hgw := (World.cell?_of_block (hx.block _ hgl (by simp))).trans HG.out
      have hfn := Find_fn cs[k] id g wr hok hgw
      have hgo := fun h => find_go cs id k hlt hn h
      have hn2 : (cs[k].1 == id) = false → ∀ c ∈ cs.take (k + 1), (c.1 == id) = false := by
        intro h c hc
        rw [List.take_succ_eq_append_getElem hlt] at hc
        rcases List.mem_append.1 hc with hc | hc
        · exact hn c hc
        · simp at hc; subst hc; exact h
      generalize hck : cs[k] = ck at *
      have HCL := Lib.hid hcl
      have HFN := Lib.hid hfn
      have HGO := Lib.hid hgo
      have HN2 := Lib.hid hn2
      have HX := Lib.hid hx
      generalize hC : condCells ck = C at *
      clear hcl hfn hgo hn2 hx hcells hck hn
      cases hb : (ck.1 == id)
      all_goals
        rw [hb] at HFN
        have HB := Lib.hid hb
        clear hb
        go_wp2_with (first
          | (refine wpList_load_agg _ rfl 44 (.tmp 14) rfl _ rfl C _ Try.underlying44 rfl (cond_size HCL.out) hcc ?_)
          | (go_at_call 39; refine HFN.out.mono ?_; rintro e w1 ⟨rfl, hx1⟩)
          | fail)
      · go_roundw
        case rel => exact ⟨k + 1, by omega, by go_num, HX.out.trans hx1, HN2.out HB.out, _, rfl⟩
        case measure => simp [intOf]; omega
      · go_ret
        exact ⟨by rw [HGO.out HB.out]; rfl, HX.out.trans hx1⟩
    · obtain rfl : k = cs.length := by omega
      rw [List.take_length] at hn
      have hno := find_no cs id hn
      have HNO := Lib.hid hno
      clear hno hn
      go_wp2
      go_ret
      exact ⟨by rw [HNO.out]; rfl, hx⟩
set_option maxRecDepth 100000 in
set_option maxHeartbeats 400000 in
theorem Find (s : St) (v : Value) (id : Nat) (w : World) (F : Fp) (hc : Conds w F v s.cs) (hF : ∀ b, F b → b < w.heap.size) :
    Calls Try.prog 20 #[stv s v, .int .u64 (id : Int)] w fun e w' => e = .returned (.int .i64 (findM s.cs id)) ∧ Ext w w' := by
  have hx : Ext w ((w.alloc (.cells #[.int .u32 (s.chan : Int), .int .u64 (s.round : Int), .int .u64 (s.m0 : Int), .int .u64 (s.m1 : Int), .int .u64 (s.t0 : Int), .int .u64 (s.t1 : Int), v] 36)).alloc (.cells #[.int .u64 (id : Int)] 23)) := ((Ext.refl w).alloc _).alloc _
  have hi := IndexFunc v s.cs id (w.heap.size + 1) _ F (hx.holds hF hc) (fun b hb => Nat.lt_of_lt_of_le (hF b hb) hx.size) (by simp)
  have HI := Lib.hid hi
  clear hi
  go_enter Try.func20, Try.ntmps20
  go_wp2_with (go_at_call 38; refine HI.out.mono ?_; rintro e w1 ⟨rfl, hx1⟩)
  go_ret
  exact ⟨rfl, hx.trans hx1⟩
end Go.Proofs.Ytnpolfihbfdggaa

/- The contract of the pact's Next, and New's. Conditions: the numbers are in their bounds. -/
import Derived.Test.YtnpolfihbfdggaaPNext
set_option linter.unusedVariables false
set_option linter.unusedSimpArgs false
set_option linter.unnecessarySimpa false
namespace Go.Proofs.Ytnpolfihbfdggaa
open Go.RowKit

theorem next_tail (s : St) (p0 p1 : Nat) (side : Int) (o : Wish) : nextM s p0 p1 side o = if soundM s p0 p1 ≠ 0 then (.zero, soundM s p0 p1) else if 200 ≤ s.round then (.zero, 8) else if side ≠ turnM (s.round + 1) then (.zero, 26) else tailM s p0 p1 side o := rfl
theorem zero_next (w w' : World) (z : Int) (e : Ending) (hx : Ext w w') (he : e = .returned (.tuple #[.agg zst.toArray, .int .i64 z])) :
    ∃ v', e = .returned (.tuple #[stv St.zero v', .int .i64 z]) ∧ OwnC w' v' St.zero.cs ∧ Ext w w' ∧ ∀ b, v'.ownBlock = some b → w.heap.size ≤ b :=
  ⟨.slice none 0 0, by rw [he]; rfl, ⟨by simp [St.zero], Own.nil _ _ _⟩, hx, by simp [Value.ownBlock]⟩
theorem Next (s : St) (v : Value) (p0 p1 : Nat) (side : Int) (o : Wish) (w : World) (F : Fp) (hs : StOk s) (hp0 : p0 < M64) (hp1 : p1 < M64) (hok : CondOk o.c) (ham : o.am < M64) (hc : Conds w F v s.cs) (hF : ∀ b, F b → b < w.heap.size) (hlen : List.length (α := Cd) s.cs ≤ 4398046511104) :
    Calls Try.prog 11 #[stv s v, .agg #[.int .u64 (p0 : Int), .int .u64 (p1 : Int)], .int .i64 side, .agg (wishCells o).toArray] w fun e w' => ∃ v', e = .returned (.tuple #[stv (nextM s p0 p1 side o).1 v', .int .i64 (nextM s p0 p1 side o).2]) ∧ OwnC w' v' (nextM s p0 p1 side o).1.cs ∧ Ext w w' ∧ ∀ b, v'.ownBlock = some b → w.heap.size ≤ b := by
  have hin : ActIn (stc s v) (ptc p0 p1) (wishCells o) zst := by
    obtain ⟨A, c, xs, hv, _⟩ := conds_open hc
    rw [hv]
    exact act_in s A _ c p0 p1 hok
  have hsnd : ∀ W, Ext w W → Calls Try.prog 25 #[.agg (stc s v).toArray, .agg (ptc p0 p1).toArray] W fun e w' => e = .returned (.int .i64 (soundM s p0 p1)) ∧ Ext W w' := fun W h =>
    Sound s v p0 p1 W F hs hp0 hp1 (h.holds hF hc) (fun b hb => Nat.lt_of_lt_of_le (hF b hb) h.size) hlen
  show Calls Try.prog 11 #[.agg (stc s v).toArray, .agg (ptc p0 p1).toArray, .int .i64 side, .agg (wishCells o).toArray] w _
  rw [next_tail]
  by_cases hz : soundM s p0 p1 ≠ 0
  · rw [if_pos hz]
    refine (NextA _ hz w _ _ _ _ side hin hsnd).mono ?_
    rintro e w' ⟨hx, he⟩
    exact zero_next w w' _ e hx he
  rw [if_neg hz]
  have hz : soundM s p0 p1 = 0 := by omega
  rw [hz] at hsnd
  by_cases hr : 200 ≤ s.round
  · rw [if_pos hr]
    refine (NextB s.round hr w _ _ _ _ side hin rfl hsnd).mono ?_
    rintro e w' ⟨hx, he⟩
    exact zero_next w w' _ e hx he
  rw [if_neg hr]
  by_cases ht : side ≠ turnM (s.round + 1)
  · rw [if_pos ht]
    refine (NextC s.round (by omega) w _ _ _ _ side ht hin rfl hsnd).mono ?_
    rintro e w' ⟨hx, he⟩
    exact zero_next w w' _ e hx he
  rw [if_neg ht]
  obtain ⟨h1, h2, h3, _⟩ := sound_zero hz
  exact NextD s v p0 p1 side o w F hs hp0 hp1 hok ham hc hF h2 (fun c hc => (h3 c hc).1) (by omega) (by omega) _ _ _ _ rfl rfl rfl rfl hin hsnd
set_option maxRecDepth 100000 in
theorem New (ch : Nat) (w : World) (_hc : ch < 4294967296) : Calls Try.prog 16 #[.int .u32 (ch : Int)] w fun e w' => e = .returned (stv { St.zero with chan := ch } (.slice none 0 0)) ∧ Ext w w' := by
  have hz := state_zero
  have hzl : zst.length = 7 := rfl
  generalize zst = Z at hz hzl
  have hb : Blk (w.alloc (.cells Z.toArray 36)) w.heap.size 36 Z := Blk.new _ _ _
  have hr8 : (w.alloc (.cells Z.toArray 36)).heap[w.heap.size]? = some (.cells Z.toArray 36 (0, 0)) := hb
  have HZL := Lib.hid hzl
  clear hzl hb
  go_enter Try.func16, Try.ntmps16
  go_wp2_with (first
    | (refine wpList_alloc _ rfl 36 rfl _ hz ?_)
    | (refine wpList_store_row _ rfl 36 (.tmp 2) (.tmp 4) rfl w.heap.size rfl Z (stc { St.zero with chan := ch } (.slice none 0 0)) _ rfl hr8 (state_size rfl) (by rw [HZL.out]; rfl) (stc_one _ _ _ _) ?_)
    | fail)
  have hc9 := Blk.cells (t := 36) (setRow_at (cs' := (stc { St.zero with chan := ch } (.slice none 0 0)).toArray) hr8)
  (try simp only [Exit.inBlock, Exit.then])
  refine bodyPost_ret (results_agg rfl _ _ _ _ _ rfl Try.underlying36 rfl (state_size rfl) hc9) rfl ?_
  exact ⟨rfl, grown_then ((Ext.refl w).alloc _) (setRow_only _) (.inr (by rintro b ⟨⟩; omega))⟩
end Go.Proofs.Ytnpolfihbfdggaa

/- The contract of the pact's Split, where nothing was paid out and the state may be; rows of Bools. Conditions: the numbers are in their bounds. -/
import Derived.Test.YtnpolfihbfdggaaPSplit
set_option linter.unusedVariables false
set_option linter.unusedSimpArgs false
set_option linter.unnecessarySimpa false
namespace Go.Proofs.Ytnpolfihbfdggaa
open Go.RowKit

theorem SplitC (s : St) (v dv : Value) (p0 p1 : Nat) (ds : List Bool) (w : World) (F : Fp) (hs : StOk s) (h0 : soundM s p0 p1 = 0) (hp0 : p0 < M64) (hp1 : p1 < M64) (hc : Conds w F v s.cs) (hd : (Ty.sl .bool).holds w F [dv] ds) (hF : ∀ b, F b → b < w.heap.size) (hl : List.length (α := Cd) s.cs = ds.length) :
    Calls Try.prog 32 #[.agg (stc s v).toArray, .agg (ptc p0 p1).toArray, .agg (ptc 0 0).toArray, dv] w fun e w' => e = .returned (.tuple #[.agg (ptc (splitM (outM s p0 p1 (s.cs.zip ds) 0) (outM s p0 p1 (s.cs.zip ds) 1)).1 (splitM (outM s p0 p1 (s.cs.zip ds) 0) (outM s p0 p1 (s.cs.zip ds) 1)).2.1).toArray, .int .i64 (splitM (outM s p0 p1 (s.cs.zip ds) 0) (outM s p0 p1 (s.cs.zip ds) 1)).2.2]) ∧ Ext w w' := by
  have h8 := (sound_zero h0).2.1
  refine Split1 w (stc s v) (ptc p0 p1) (ptc 0 0) v dv s.cs ds s.t0 s.t1 (fun sd => freeM s p0 p1 sd) F ?_ rfl rfl rfl rfl hc hd hF hl h8 hs.t0 hs.t1
  refine ⟨rfl, rfl, fun W h => ?_, fun W sd hsd h => ?_, fun sd => freeM_lt s p0 p1 sd⟩
  · have h2 := Sound s v p0 p1 W F hs hp0 hp1 (h.holds hF hc) (fun b hb => Nat.lt_of_lt_of_le (hF b hb) h.size) (by omega)
    rw [h0] at h2
    exact h2
  · exact Free s v p0 p1 sd W F hs hp0 hp1 (h.holds hF hc) (fun b hb => Nat.lt_of_lt_of_le (hF b hb) h.size) (by omega)
/-- Bools in a row of their own. -/
def OwnF (w : World) (v : Value) (l : List Bool) : Prop := Own w 4 1 v l.length (l.map Value.bool)
theorem bool_info : (Try.prog.info? 4).map (fun i => (i.zero, i.size, i.bytes)) = some (some (.bool false), 1, 1) := by kernel_rfl
theorem ownF_holds {w : World} {v : Value} {l : List Bool} (h : OwnF w v l) : (Ty.sl .bool).holds w (fun b => v.ownBlock = some b) [v] l := by
  have hall : ∀ (l : List Bool), AllH (Ty.bool.holds w (fun b => v.ownBlock = some b)) (l.map Value.bool) l := by
    intro l
    induction l with
    | nil => rfl
    | cons a l ih => exact ⟨[_], _, rfl, rfl, ih⟩
  rcases h.2 with ⟨rfl, h0⟩ | ⟨g, cap, cur, rfl, _, hg, hnc, hcm, _, _⟩
  · obtain rfl : l = [] := List.eq_nil_of_length_eq_zero h0
    exact ⟨none, 0, [], rfl, by simp, by simp [maxLen], fun _ => rfl, fun h => absurd rfl h, rfl⟩
  · exact ⟨_, cap, _, rfl, hnc, hcm, by simp, fun _ => ⟨_, rfl, rfl, World.ownsRow.cells h rfl⟩, hall l⟩
theorem OwnF.lt {w : World} {v : Value} {l : List Bool} (h : OwnF w v l) : ∀ g, v.ownBlock = some g → g < w.heap.size := fun g hg => (World.ownsRow.lt h g hg).2
end Go.Proofs.Ytnpolfihbfdggaa

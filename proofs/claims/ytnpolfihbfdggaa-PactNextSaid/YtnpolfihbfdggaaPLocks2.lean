/- The law PactLocks holds. Conditions: the numbers are in their bounds. -/
import Derived.Test.YtnpolfihbfdggaaPLocks
set_option linter.unusedVariables false
set_option linter.unusedSimpArgs false
set_option linter.unnecessarySimpa false
namespace Go.Proofs.Ytnpolfihbfdggaa
open Go.RowKit

theorem next_lock {c : Cd} {p0 p1 : Nat} (hs : c.2.1 = 0) (hp0 : p0 < M64) (hp1 : p1 < M64) (ha : c.2.2.1 < M64) (hz : (nextM s1 p0 p1 0 ⟨2, 0, c, 0⟩).2 = 0) :
    (nextM s1 p0 p1 0 ⟨2, 0, c, 0⟩).1 = { s1 with round := 1, cs := [c] } ∧ c.2.2.1 ≤ p0 ∧ c.2.2.1 ≠ 0 := by
  have hsn : soundM s1 p0 p1 = 0 := by
    simp [soundM, s1, St.zero, badM, freeM, heldM, ams, sumM, pick2, subL, hp0, hp1]
  have hfr : freeM s1 p0 p1 0 = (p0, 0) := by
    simp [s1, St.zero, freeM, heldM, ams, sumM, pick2, subL, hp0]
  have hact : (actM s1 p0 p1 0 ⟨2, 0, c, 0⟩).2 = 0 → (actM s1 p0 p1 0 ⟨2, 0, c, 0⟩).1 = { s1 with cs := [c] } ∧ c.2.2.1 ≤ p0 ∧ c.2.2.1 ≠ 0 := by
    unfold actM
    simp only [hs]
    rw [if_neg (by decide), if_neg (by decide), if_neg (by decide), if_pos trivial, if_neg (by simp), if_neg (by simp [s1, St.zero, findM]), if_neg (by simp [s1, St.zero])]
    unfold spendM
    rw [hfr]
    by_cases h0 : c.2.2.1 = 0
    · simp [h0]
    · by_cases h1 : p0 < c.2.2.1
      · simp [h0, h1]
      · intro _
        simp [h0, h1, s1, St.zero]
        omega
  unfold nextM at hz ⊢
  rw [if_neg (by simp [hsn]), if_neg (by decide), if_neg (by decide)] at hz ⊢
  by_cases h1 : (actM s1 p0 p1 0 ⟨2, 0, c, 0⟩).2 = 0
  · obtain ⟨e, hle⟩ := hact h1
    rw [if_neg (by simp [h1])] at hz ⊢
    split at hz
    · rename_i h2; exact absurd hz h2
    · rename_i h2
      rw [if_neg h2, e]
      exact ⟨rfl, hle⟩
  · rw [if_pos h1] at hz
    exact absurd hz h1
def sL (c : Cd) : St := { s1 with round := 1, cs := [c] }
theorem held_L {c : Cd} (hs : c.2.1 = 0) (ha : c.2.2.1 < M64) : heldM (sL c).cs 0 = (c.2.2.1, 0) := by
  simp [sL, heldM, ams, hs, sumM, ha]
theorem next_tail2 {c : Cd} {p0 p1 : Nat} {k : Int} (hk : k = 3 ∨ k = 4) (hs : c.2.1 = 0) (hp0 : p0 < M64) (hp1 : p1 < M64) (h0 : c.2.2.1 ≠ 0) (hle : c.2.2.1 ≤ p0) :
    nextM (sL c) p0 p1 1 ⟨k, 0, zcd, c.1⟩ = if k = 3 then (if p1 + c.2.2.1 < M64 then ({ s1 with round := 2, m0 := c.2.2.1 }, 0) else (.zero, 11)) else ({ s1 with round := 2 }, 0) := by
  have ha : c.2.2.1 < M64 := by omega
  have hsn : soundM (sL c) p0 p1 = 0 := by
    have : ¬ p0 < c.2.2.1 := by omega
    simp [soundM, sL, s1, St.zero, badM, freeM, heldM, ams, sumM, pick2, subL, hp0, hp1, hs, h0, ha, findM, this]
  have hfd : findM (sL c).cs c.1 = 0 := by simp [sL, findM]
  unfold nextM
  rw [if_neg (by simp [hsn]), if_neg (by simp [sL]), if_neg (by simp [sL, turnM])]
  rcases hk with rfl | rfl
  · have hact : actM (sL c) p0 p1 1 ⟨3, 0, zcd, c.1⟩ = ({ s1 with round := 1, m0 := c.2.2.1 }, 0) := by
      unfold actM
      simp only [hfd]
      rw [if_neg (by decide), if_neg (by decide), if_neg (by decide), if_neg (by decide), if_pos (by decide), if_neg (by decide)]
      simp [sL, hs, pick2, addM, s1, St.zero, ha]
    rw [hact, if_neg (by simp), if_pos rfl]
    have : ¬ p0 < c.2.2.1 := by omega
    by_cases ho : p1 + c.2.2.1 < M64
    · rw [if_pos ho, if_neg]
      · rfl
      · simp [soundM, sL, s1, St.zero, badM, freeM, heldM, ams, sumM, pick2, subL, hp0, hp1, ho, this]
    · have hso : soundM { ({ s1 with round := 1, m0 := c.2.2.1 } : St) with round := (sL c).round + 1 } p0 p1 = 11 := by
        simp [soundM, sL, s1, St.zero, badM, freeM, heldM, ams, sumM, pick2, subL, hp0, hp1, ho, this]
      rw [if_neg ho, hso]
      simp
  · have hact : actM (sL c) p0 p1 1 ⟨4, 0, zcd, c.1⟩ = ({ s1 with round := 1 }, 0) := by
      unfold actM
      simp only [hfd]
      rw [if_neg (by decide), if_neg (by decide), if_neg (by decide), if_neg (by decide), if_pos (by decide), if_neg (by decide)]
      simp [sL, s1, St.zero]
    rw [hact, if_neg (by simp), if_neg, if_neg (by decide)]
    · rfl
    · simp [soundM, sL, s1, St.zero, badM, freeM, heldM, ams, sumM, pick2, subL, hp0, hp1]
theorem fill_lock {c : Cd} (hok : CondOk c) : fillL ([(0, 1), (1, 1), (2, 36), (38, 1)].toArray[·]?) zop [(0, [.int .i64 2]), (2, condCells c)] = some (wishCells ⟨2, 0, c, 0⟩) := by
  have h36 := condCells_len hok
  have hz : zop = .int .i64 0 :: .int .u64 0 :: (condCells zcd ++ [.int .u64 0]) := rfl
  have hz36 : (condCells zcd).length = 36 := by decide
  rw [hz]
  generalize condCells zcd = B at *
  unfold wishCells
  simp [fillL, h36, hz36]
theorem fill_tail (k : Int) (id : Nat) : fillL ([(0, 1), (1, 1), (2, 36), (38, 1)].toArray[·]?) zop [(0, [.int .i64 k]), (3, [.int .u64 (id : Int)])] = some (wishCells ⟨k, 0, zcd, id⟩) := by
  have hz : zop = .int .i64 0 :: .int .u64 0 :: (condCells zcd ++ [.int .u64 0]) := rfl
  have hz36 : (condCells zcd).length = 36 := by decide
  rw [hz]
  unfold wishCells
  generalize condCells zcd = B at *
  simp [fillL, hz36]
theorem zcd_ok : CondOk zcd := ⟨by decide, by decide, by decide, by decide, by decide⟩
theorem s1_ok : StOk s1 := ⟨by decide, by decide, by decide, by decide, by decide, by decide⟩
theorem sL_ok (c : Cd) : StOk (sL c) := ⟨by show 1 < 4294967296; omega, by show 1 < M64; decide, by show 0 < M64; decide, by show 0 < M64; decide, by show 0 < M64; decide, by show 0 < M64; decide⟩
theorem M64_of {n : Nat} (h : (Lit.int .u64 (n : Int)).wf = true) : n < M64 := by have := bounds_u64 h; unfold M64; omega
theorem NJ.own' {w0 W W' : World} {Z : List Value} {al : Option Nat} {v' : Value} {cs : List Cd} (h : NJ w0 Z al W (.slice none 0 0) []) (hx : Ext W W') (ho : OwnC W' v' cs) (hn : ∀ b, v'.ownBlock = some b → W.heap.size ≤ b) :
    NJ w0 Z al W' v' cs ∧ KeepB (fun b => b < w0.heap.size) W W' :=
  ⟨⟨h.ext.trans hx, fun g hg => ⟨(h.blk g hg).1, (h.blk g hg).2.keep hx (by simp)⟩, ho, fun b hb => ⟨Nat.le_trans h.ext.size (hn b hb), fun e => by
    have h1 := (h.blk b e).2.lt
    have h2 := hn b hb
    omega⟩⟩, fun b hb => hx.block b (Nat.lt_of_lt_of_le hb h.ext.size) (by simp)⟩
theorem Locks (o : Wish) (p0 p1 : Nat) (done : Bool) (w : World) (hp0 : p0 < M64) (hp1 : p1 < M64) (hok : CondOk o.c) :
    Calls Try.prog 7 #[.agg (ptc p0 p1).toArray, .agg (wishCells o).toArray, .bool done] w fun e w' => e = .returned (.bool true) ∧ Ext w w' := by
  have hlk := leftC_ok hok
  have ham := M64_of hlk.am
  have hls : (leftC o.c).2.1 = 0 := rfl
  refine Locks1 done w (ptc p0 p1) (wishCells o) (wishCells { o with c := leftC o.c }) (condCells (leftC o.c)) (wishCells ⟨2, 0, leftC o.c, 0⟩) zst zop (nextM s1 p0 p1 0 ⟨2, 0, leftC o.c, 0⟩).1 (nextM s1 p0 p1 0 ⟨2, 0, leftC o.c, 0⟩).2 ?_ ?_ ?_ ?_
  · refine ⟨state_zero, op_zero, rfl, wishCells_len hlk, rfl, ?_, fill_lock hlk, fun W => Op12 { o with c := leftC o.c } W hlk, rfl, ⟨_, rfl⟩⟩
    have h36 := condCells_len hlk
    show List.take 36 (condCells (leftC o.c) ++ [Value.int .u64 (o.id : Int)]) = _
    rw [← h36, List.take_left]
  · intro W
    exact New 1 W (by decide)
  · intro w0 al W hJ
    refine (Next s1 (.slice none 0 0) p0 p1 0 ⟨2, 0, leftC o.c, 0⟩ W (fun _ => False) s1_ok hp0 hp1 hlk (by show 0 < M64; decide) (conds_nil _ _) (fun _ h => h.elim) (by decide)).mono ?_
    rintro e w' ⟨v', rfl, ho, hx, hb⟩
    exact ⟨_, v', rfl, rfl, hJ.own' hx ho hb⟩
  · intro hz
    obtain ⟨hn, hle, h0⟩ := next_lock hls hp0 hp1 ham hz
    rw [hn]
    have hk34 : (if done then (3 : Int) else 4) = 3 ∨ (if done then (3 : Int) else 4) = 4 := by cases done <;> simp
    have ht := next_tail2 hk34 hls hp0 hp1 h0 hle
    have hok2 : ∀ c ∈ (sL (leftC o.c)).cs, CondOk c := by intro c hc; simp [sL] at hc; subst hc; exact hlk
    refine ⟨(nextM (sL (leftC o.c)) p0 p1 1 ⟨if done then 3 else 4, 0, zcd, o.c.1⟩).2, (nextM (sL (leftC o.c)) p0 p1 1 ⟨if done then 3 else 4, 0, zcd, o.c.1⟩).1, if done then 3 else 4, o.c.1, o.c.2.2.1, wishCells ⟨if done then 3 else 4, 0, zcd, o.c.1⟩, rfl, rfl, fill_tail _ _, ?_, ?_, ?_, rfl, rfl, ham, ?_⟩
    · intro W v ho
      refine (Next (sL (leftC o.c)) v p0 p1 1 ⟨if done then 3 else 4, 0, zcd, o.c.1⟩ W _ (sL_ok _) hp0 hp1 zcd_ok (by show 0 < M64; decide) (OwnC.holds ho) (OwnC.lt ho) (by show 1 ≤ _; omega)).mono ?_
      rintro e w' ⟨v', rfl, ho', hx, hb⟩
      exact ⟨_, v', rfl, rfl, ho', hx⟩
    · intro W v ho
      refine (Held (sL (leftC o.c)) v 0 W _ (OwnC.holds ho) (OwnC.lt ho) (by show 1 ≤ _; omega)).mono ?_
      rintro e w' ⟨rfl, hx⟩
      rw [held_L hls ham]
      exact ⟨rfl, hx⟩
    · intro hz2 W v ho
      have ht : nextM (sL (leftC o.c)) p0 p1 1 ⟨if done then 3 else 4, 0, zcd, o.c.1⟩ = _ := ht
      have hres : (nextM (sL (leftC o.c)) p0 p1 1 ⟨if done then 3 else 4, 0, zcd, o.c.1⟩).1 = { s1 with round := 2, m0 := if done then o.c.2.2.1 else 0 } := by
        rw [ht] at hz2 ⊢
        cases done
        · rfl
        · simp only [if_true] at hz2 ⊢
          split at hz2
          · rename_i h; rw [if_pos h]; rfl
          · cases hz2
      rw [hres] at ho ⊢
      have hst : StOk { s1 with round := 2, m0 := if done then o.c.2.2.1 else 0 } := ⟨by show 1 < 4294967296; omega, by show 2 < M64; decide, by show (if done then o.c.2.2.1 else 0) < M64; split <;> first | exact ham | decide, by show 0 < M64; decide, by show 0 < M64; decide, by show 0 < M64; decide⟩
      refine (Same _ _ v (.slice none 0 0) W _ hst hst (OwnC.holds ho) (conds_nil _ _) (OwnC.lt ho)).mono ?_
      rintro e w' ⟨rfl, hx⟩
      rw [(sameM_iff _ _).2 rfl]
      exact ⟨rfl, hx⟩
    · intro hz2
      have ht : nextM (sL (leftC o.c)) p0 p1 1 ⟨if done then 3 else 4, 0, zcd, o.c.1⟩ = _ := ht
      rw [ht] at hz2 ⊢
      cases done
      · exact absurd rfl hz2
      · simp only [if_true] at hz2 ⊢
        split at hz2
        · exact absurd rfl hz2
        · rename_i h; rw [if_neg h]; simp
end Go.Proofs.Ytnpolfihbfdggaa

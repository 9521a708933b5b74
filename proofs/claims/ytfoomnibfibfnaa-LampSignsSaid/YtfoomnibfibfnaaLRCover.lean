/- The walk of the document's Cover of layer 4. Condition: the piece has its length. -/
import Derived.Test.YtfoomnibfibfnaaLRef1
import Derived.Test.YtfoomnibfibfnaaRmake
import Derived.Test.YtfoomnibfibfnaaRfor
set_option linter.unusedVariables false
set_option linter.unusedSimpArgs false
set_option linter.unnecessarySimpa false
namespace Go.Proofs.Ytfoomnibfibfnaa
open Go.RowKit

/-- The document's tables. -/
def tabsC : List Value := [.string tabFirst, .string tabRounds]
theorem tabs_size {n : Nat} (h : n = 2) : (Try.prog.info? 25).map (·.size) = some n := by subst h; kernel_rfl
theorem RFor (d : UInt8) (x : Int) (hx : x = (d.toNat : Int)) (ps : List (List UInt8)) (hb : (ps.flatMap blob).length < 1099511627000) (v : Value) (w : World) (F : Fp) (hp : (Ty.sl (.sl .u8)).holds w F [v] ps) (hF : ∀ b, F b → b < w.heap.size) :
    Calls Try.prog 35 #[.agg tabsC.toArray, .int .u8 x, v] w fun e w' => e = .returned (.agg (bv (sha (textM d ps))).toArray) ∧ Ext w w' := by
  subst hx; exact Ref_For tabFirst tabRounds d v ps w F tab_first tab_rounds hp hF hb
theorem one_part {w : World} {a : Value} {p : List UInt8} {F : Fp} {T : TypeId} (ha : (Ty.sl .u8).holds w F [a] p) (hF : ∀ x, F x → x < w.heap.size) :
    ∃ F', (Ty.sl (.sl .u8)).holds (w.alloc (.cells #[a] T)) F' [.slice (some ⟨w.heap.size, 0, none⟩) 1 1] [p] ∧ ∀ x, F' x → x < (w.alloc (.cells #[a] T)).heap.size := by
  refine ⟨_, parts_new (w := w) (vs := [a]) (F := F) rfl rfl (by simp [maxLen]) (AllH.one (R := (Ty.sl .u8).holds _ _) ha) hF, ?_⟩
  rintro x (h | rfl)
  · have := hF x h; simp; omega
  · simp
set_option maxRecDepth 100000 in
set_option maxHeartbeats 4000000 in
theorem RCover (p : List UInt8) (hp : p.length = 16) (w : World) :
    Calls Try.prog 33 #[.agg tabsC.toArray, .agg (bv p).toArray] w fun e w' => e = .returned (.agg (bv (coverM p)).toArray) ∧ Ext w w' := by
  obtain ⟨Z, hz, hzl⟩ : ∃ Z : List Value, (Try.prog.info? 35).bind (fun i => i.zero.map (·.cells)) = some Z.toArray ∧ Z.length = 16 := ⟨_, rpiece_zero, by simp⟩
  have hfor := fun v W F hp2 hF => RFor 5 5 rfl [p] (by simp [blob, be_length, hp]) v W F hp2 hF
  have hfi := fun W => RFirst (sha (textM 5 [p])) (sha_length _) W
  have hcv : (sha (textM 5 [p])).take 16 = coverM p := rfl
  rw [hcv] at hfi
  have hts : (Try.prog.info? 25).map (·.size) = some tabsC.length := tabs_size rfl
  generalize tabsC = TB at *
  have hrl : (bv (coverM p)).length = 16 := by rw [bv_length, coverM_length]
  have hro := bv_one (coverM p)
  have hb0 : Blk (((w.alloc (.cells TB.toArray 25)).alloc (.cells (bv p).toArray 35)).alloc (.cells Z.toArray 35)).drew w.heap.size 25 TB := (((Blk.new _ _ _).keep ((Ext.refl _).alloc _) (by simp)).keep ((Ext.refl _).alloc _) (by simp)).keep (Ext.refl _).drew (by simp)
  have hb1 : Blk (((w.alloc (.cells TB.toArray 25)).alloc (.cells (bv p).toArray 35)).alloc (.cells Z.toArray 35)).drew (w.heap.size + 1) 35 (bv p) := ((Blk.fresh (by simp) _ _).keep ((Ext.refl _).alloc _) (by simp)).keep (Ext.refl _).drew (by simp)
  have hb2 : Blk (((w.alloc (.cells TB.toArray 25)).alloc (.cells (bv p).toArray 35)).alloc (.cells Z.toArray 35)).drew (w.heap.size + 1 + 1) 35 Z := (Blk.fresh (by simp) _ _).keep (Ext.refl _).drew (by simp)
  have hx0 : Ext w (((w.alloc (.cells TB.toArray 25)).alloc (.cells (bv p).toArray 35)).alloc (.cells Z.toArray 35)).drew := ((((Ext.refl w).alloc _).alloc _).alloc _).trans (Ext.refl _).drew
  have hsrc : ∀ W, Ext (((w.alloc (.cells TB.toArray 25)).alloc (.cells (bv p).toArray 35)).alloc (.cells Z.toArray 35)).drew W → (Ty.sl .u8).holds W (fun b => b = w.heap.size + 1) [.slice (some ⟨w.heap.size + 1, 0, none⟩) 16 16] p ∧ ∀ b, b = w.heap.size + 1 → b < W.heap.size := by
    intro W hX
    have hb := hb1.keep hX (by simp)
    refine ⟨⟨_, _, bv p, by rw [hp], by rw [hp]; exact Nat.le_refl _, by simp [maxLen], by simp, fun _ => ⟨_, rfl, rfl, hb.cells⟩, AllH.bytes.2 rfl⟩, ?_⟩
    rintro b rfl; exact hb.lt
  generalize bv (coverM p) = R at *
  generalize bv (sha (textM 5 [p])) = HH at *
  generalize bv p = PC at *
  have HB0 := Lib.hid hb0
  have HB2 := Lib.hid hb2
  have HX0 := Lib.hid hx0
  have HSRC := Lib.hid hsrc
  have HFOR := Lib.hid hfor
  have HFI := Lib.hid hfi
  have HRL := Lib.hid hrl
  have HZL := Lib.hid hzl
  have HTS := Lib.hid hts
  clear hb0 hb1 hb2 hx0 hsrc hfor hfi hrl hzl hts hcv
  go_enter Try.func33, Try.ntmps33
  go_wp2_with (first
    | (refine wpList_alloc _ rfl 35 rfl _ hz ?_)
    | fail)
  simp only [World.size_alloc]
  refine stab_store Ext ext_refl ext_trans [[0], [1], [1, 2], [0, 1, 2, 3], [0, 1, 2, 3, 4], [0, 1, 2, 3, 4, 5]] (fun i v wv => match i with | 0 => v = .agg TB.toArray | 1 => v = .slice (some ⟨w.heap.size + 1, 0, none⟩) 16 16 | 2 => ∃ F, (Ty.sl (.sl .u8)).holds wv F [v] [p] ∧ ∀ b, F b → b < wv.heap.size | 3 => v = .agg HH.toArray | 4 => v = .agg R.toArray | _ => True) (by kernel_rfl) (by kernel_rfl) (by kernel_rfl) (by kernel_rfl) (by simp) ?_ ?_ ?_
  · intro i v w1 w2 h hx
    match i, h with
    | 0, h => exact h
    | 1, h => exact h
    | 2, h =>
      replace h : ∃ F, (Ty.sl (.sl .u8)).holds w1 F [v] [p] ∧ ∀ b, F b → b < w1.heap.size := h
      show ∃ F, (Ty.sl (.sl .u8)).holds w2 F [v] [p] ∧ ∀ b, F b → b < w2.heap.size
      obtain ⟨F, h1, h2⟩ := h
      exact ⟨F, hx.holds h2 h1, fun b hb => Nat.lt_of_lt_of_le (h2 b hb) hx.size⟩
    | 3, h => exact h
    | 4, h => exact h
    | i + 5, h => trivial
  · intro i hi o ho
    match i, hi, ho with
    | 0, _, ho =>
      obtain rfl := Option.some.inj ho
      intro s W hX hd K hK
      rw [if_pos (wanted_plain rfl)]
      clear hd
      replace hK : ∀ (v : Value) (W' : World), Ext W W' → (v = .agg TB.toArray) → _ := hK
      simp only [mkOf, List.map_cons, List.map_nil, Act.put, List.setIfInBounds_toArray, List.set_cons_succ, List.set_cons_zero, Nat.reduceAdd, Nat.zero_add] at hK ⊢
      refine wp_load_agg 25 (.tmp 2) rfl _ rfl TB _ Try.underlying25 rfl HTS.out (HB0.out.keep hX (by simp)).cells ?_
      exact hK _ _ (Ext.refl _) rfl
    | 1, _, ho =>
      obtain rfl := Option.some.inj ho
      intro s W hX hd K hK
      rw [if_pos (wanted_plain rfl)]
      clear hd
      replace hK : ∀ (v : Value) (W' : World), Ext W W' → (v = .slice (some ⟨w.heap.size + 1, 0, none⟩) 16 16) → _ := hK
      simp only [mkOf, List.map_cons, List.map_nil, Act.put, List.setIfInBounds_toArray, List.set_cons_succ, List.set_cons_zero, Nat.reduceAdd, Nat.zero_add] at hK ⊢
      go_simp
      exact hK _ _ (Ext.refl _) rfl
    | 2, _, ho =>
      obtain rfl := Option.some.inj ho
      intro s W hX hd K hK
      rw [if_pos (wanted_plain rfl)]
      have d6 : (s 1) = .slice (some ⟨w.heap.size + 1, 0, none⟩) 16 16 := hd 1 (by decide) (by decide)
      clear hd
      replace hK : ∀ (v : Value) (W' : World), Ext W W' → (∃ F, (Ty.sl (.sl .u8)).holds W' F [v] [p] ∧ ∀ b, F b → b < W'.heap.size) → _ := hK
      simp only [mkOf, List.map_cons, List.map_nil, Act.put, List.setIfInBounds_toArray, List.set_cons_succ, List.set_cons_zero, Nat.reduceAdd, Nat.zero_add] at hK ⊢
      simp only [d6] at hK ⊢
      have hsd := HSRC.out W hX
      go_simp
      exact hK _ _ ((Ext.refl _).alloc _) (one_part hsd.1 hsd.2)
    | 3, _, ho =>
      obtain rfl := Option.some.inj ho
      intro s W hX hd K hK
      rw [if_pos (wanted_plain rfl)]
      have d5 : (s 0) = .agg TB.toArray := hd 0 (by decide) (by decide)
      have d7 : ∃ F, (Ty.sl (.sl .u8)).holds W F [(s 2)] [p] ∧ ∀ b, F b → b < W.heap.size := hd 2 (by decide) (by decide)
      clear hd
      replace hK : ∀ (v : Value) (W' : World), Ext W W' → (v = .agg HH.toArray) → _ := hK
      simp only [mkOf, List.map_cons, List.map_nil, Act.put, List.setIfInBounds_toArray, List.set_cons_succ, List.set_cons_zero, Nat.reduceAdd, Nat.zero_add] at hK ⊢
      simp only [d5] at hK ⊢
      obtain ⟨F, h1, h2⟩ := d7
      go_simp
      refine (HFOR.out _ W F h1 h2).mono ?_
      rintro e w' ⟨rfl, hx⟩
      exact hK _ _ hx rfl
    | 4, _, ho =>
      obtain rfl := Option.some.inj ho
      intro s W hX hd K hK
      rw [if_pos (wanted_plain rfl)]
      have d8 : (s 3) = .agg HH.toArray := hd 3 (by decide) (by decide)
      clear hd
      replace hK : ∀ (v : Value) (W' : World), Ext W W' → (v = .agg R.toArray) → _ := hK
      simp only [mkOf, List.map_cons, List.map_nil, Act.put, List.setIfInBounds_toArray, List.set_cons_succ, List.set_cons_zero, Nat.reduceAdd, Nat.zero_add] at hK ⊢
      simp only [d8] at hK ⊢
      go_simp
      refine (HFI.out W).mono ?_
      rintro e w' ⟨rfl, hx⟩
      exact hK _ _ hx rfl
    | i + 5, hi, _ => exact absurd hi (by simp)
  · intro o ho
    obtain rfl := Option.some.inj ho
    intro s W hX hd K hK
    rw [if_pos (wanted_plain rfl)]
    have d5 : (s 0) = .agg TB.toArray := hd 0 (by decide)
    have d6 : (s 1) = .slice (some ⟨w.heap.size + 1, 0, none⟩) 16 16 := hd 1 (by decide)
    have d7 : ∃ F, (Ty.sl (.sl .u8)).holds W F [(s 2)] [p] ∧ ∀ b, F b → b < W.heap.size := hd 2 (by decide)
    have d8 : (s 3) = .agg HH.toArray := hd 3 (by decide)
    have d9 : (s 4) = .agg R.toArray := hd 4 (by decide)
    clear hd
    simp only [mkOf, List.map_cons, List.map_nil, Act.put, List.setIfInBounds_toArray, List.set_cons_succ, List.set_cons_zero, Nat.reduceAdd, Nat.zero_add]
    refine wp_store_row 35 (.tmp 4) (.tmp 9) rfl (w.heap.size + 1 + 1) rfl Z R _ (by simpa [Act.eval] using d9) (HB2.out.keep hX (by simp)) (rpiece_size HRL.out) (by rw [HRL.out, HZL.out]) hro ?_
    refine hK _ _ ?_
    have hr := HB2.out.keep hX (by simp)
    have hx9 : Ext w (W.setRow (w.heap.size + 1 + 1) R.toArray) := setRow_grown (HX0.out.trans hX) _ _ (by omega)
    have hc9 := Blk.cells (t := 35) (setRow_at (cs' := R.toArray) hr)
    clear hK hX
    (try simp only [Exit.then])
    go_wp2_with fail
    (try simp only [Exit.inBlock, Exit.then])
    refine bodyPost_ret (results_agg rfl _ _ _ _ _ rfl Try.underlying35 rfl (rpiece_size HRL.out) hc9) rfl ?_
    exact ⟨rfl, hx9⟩
end Go.Proofs.Ytfoomnibfibfnaa

/- Walks and plain laws, put together in build order. Conditions: what each of them names. -/
import Derived.Test.YtfoomnibfibfnaaWLampBytes8
set_option linter.unusedVariables false
set_option linter.unusedSimpArgs false
set_option linter.unnecessarySimpa false
namespace Go.Proofs.Ytfoomnibfibfnaa
section
open Go.RowKit

/-- The document's tables. -/
def tabsC : List Value := [.string tabFirst, .string tabRounds]
theorem tabs_size {n : Nat} (h : n = 2) : (Try.prog.info? 25).map (·.size) = some n := by subst h; kernel_rfl
theorem RFor (d : UInt8) (x : Int) (hx : x = (d.toNat : Int)) (ps : List (List UInt8)) (hb : (ps.flatMap blob).length < 1099511627000) (v : Value) (w : World) (F : Fp) (hp : (Ty.sl (.sl .u8)).holds w F [v] ps) (hF : ∀ b, F b → b < w.heap.size) :
    Calls Try.prog 35 #[.agg tabsC.toArray, .int .u8 x, v] w fun e w' => e = .returned (.agg (bv (sha (textM d ps))).toArray) ∧ Ext w w' := by
  subst hx; exact Ref_For tabFirst tabRounds d v ps w F tab_first tab_rounds hp hF hb
theorem one_part {w : World} {a : Value} {p : List UInt8} {F : Fp} {T : TypeId} (ha : (Ty.sl .u8).holds w F [a] p) (hF : ∀ x, F x → x < w.heap.size) :
    ∃ F', (Ty.sl (.sl .u8)).holds (w.alloc (.cells #[a] T)) F' [.slice (some ⟨w.heap.size, 0, none⟩) 1 1] [p] ∧ ∀ x, F' x → x < (w.alloc (.cells #[a] T)).heap.size := by
  refine ⟨_, parts_new (w := w) (vs := [a]) (F := F) rfl rfl (by simp [maxLen]) (AllH.one (R := (Ty.sl .u8).holds _ _) ha) hF, ?_⟩
  rintro x (h | rfl)
  · have := hF x h; simp; omega
  · simp
set_option maxRecDepth 100000 in
set_option maxHeartbeats 4000000 in
theorem RCover (p : List UInt8) (hp : p.length = 16) (w : World) :
    Calls Try.prog 33 #[.agg tabsC.toArray, .agg (bv p).toArray] w fun e w' => e = .returned (.agg (bv (coverM p)).toArray) ∧ Ext w w' := by
  obtain ⟨Z, hz, hzl⟩ : ∃ Z : List Value, (Try.prog.info? 35).bind (fun i => i.zero.map (·.cells)) = some Z.toArray ∧ Z.length = 16 := ⟨_, rpiece_zero, by simp⟩
  have hfor := fun v W F hp2 hF => RFor 5 5 rfl [p] (by simp [blob, be_length, hp]) v W F hp2 hF
  have hfi := fun W => RFirst (sha (textM 5 [p])) (sha_length _) W
  have hcv : (sha (textM 5 [p])).take 16 = coverM p := rfl
  rw [hcv] at hfi
  have hts : (Try.prog.info? 25).map (·.size) = some tabsC.length := tabs_size rfl
  generalize tabsC = TB at *
  have hrl : (bv (coverM p)).length = 16 := by rw [bv_length, coverM_length]
  have hro := bv_one (coverM p)
  have hb0 : Blk (((w.alloc (.cells TB.toArray 25)).alloc (.cells (bv p).toArray 35)).alloc (.cells Z.toArray 35)).drew w.heap.size 25 TB := (((Blk.new _ _ _).keep ((Ext.refl _).alloc _) (by simp)).keep ((Ext.refl _).alloc _) (by simp)).keep (Ext.refl _).drew (by simp)
  have hb1 : Blk (((w.alloc (.cells TB.toArray 25)).alloc (.cells (bv p).toArray 35)).alloc (.cells Z.toArray 35)).drew (w.heap.size + 1) 35 (bv p) := ((Blk.fresh (by simp) _ _).keep ((Ext.refl _).alloc _) (by simp)).keep (Ext.refl _).drew (by simp)
  have hb2 : Blk (((w.alloc (.cells TB.toArray 25)).alloc (.cells (bv p).toArray 35)).alloc (.cells Z.toArray 35)).drew (w.heap.size + 1 + 1) 35 Z := (Blk.fresh (by simp) _ _).keep (Ext.refl _).drew (by simp)
  have hx0 : Ext w (((w.alloc (.cells TB.toArray 25)).alloc (.cells (bv p).toArray 35)).alloc (.cells Z.toArray 35)).drew := ((((Ext.refl w).alloc _).alloc _).alloc _).trans (Ext.refl _).drew
  have hsrc : ∀ W, Ext (((w.alloc (.cells TB.toArray 25)).alloc (.cells (bv p).toArray 35)).alloc (.cells Z.toArray 35)).drew W → (Ty.sl .u8).holds W (fun b => b = w.heap.size + 1) [.slice (some ⟨w.heap.size + 1, 0, none⟩) 16 16] p ∧ ∀ b, b = w.heap.size + 1 → b < W.heap.size := by
    intro W hX
    have hb := hb1.keep hX (by simp)
    refine ⟨⟨_, _, bv p, by rw [hp], by rw [hp]; exact Nat.le_refl _, by simp [maxLen], by simp, fun _ => ⟨_, rfl, rfl, hb.cells⟩, AllH.bytes.2 rfl⟩, ?_⟩
    rintro b rfl; exact hb.lt
  generalize bv (coverM p) = R at *
  generalize bv (sha (textM 5 [p])) = HH at *
  generalize bv p = PC at *
  have HB0 := Lib.hid hb0
  have HB2 := Lib.hid hb2
  have HX0 := Lib.hid hx0
  have HSRC := Lib.hid hsrc
  have HFOR := Lib.hid hfor
  have HFI := Lib.hid hfi
  have HRL := Lib.hid hrl
  have HZL := Lib.hid hzl
  have HTS := Lib.hid hts
  clear hb0 hb1 hb2 hx0 hsrc hfor hfi hrl hzl hts hcv
  go_enter Try.func33, Try.ntmps33
  go_wp2_with (first
    | (refine wpList_alloc _ rfl 35 rfl _ hz ?_)
    | fail)
  simp only [World.size_alloc]
  refine stab_store Ext ext_refl ext_trans [[0], [1], [1, 2], [0, 1, 2, 3], [0, 1, 2, 3, 4], [0, 1, 2, 3, 4, 5]] (fun i v wv => match i with | 0 => v = .agg TB.toArray | 1 => v = .slice (some ⟨w.heap.size + 1, 0, none⟩) 16 16 | 2 => ∃ F, (Ty.sl (.sl .u8)).holds wv F [v] [p] ∧ ∀ b, F b → b < wv.heap.size | 3 => v = .agg HH.toArray | 4 => v = .agg R.toArray | _ => True) (by kernel_rfl) (by kernel_rfl) (by kernel_rfl) (by kernel_rfl) (by simp) ?_ ?_ ?_
  · intro i v w1 w2 h hx
    match i, h with
    | 0, h => exact h
    | 1, h => exact h
    | 2, h =>
      replace h : ∃ F, (Ty.sl (.sl .u8)).holds w1 F [v] [p] ∧ ∀ b, F b → b < w1.heap.size := h
      show ∃ F, (Ty.sl (.sl .u8)).holds w2 F [v] [p] ∧ ∀ b, F b → b < w2.heap.size
      obtain ⟨F, h1, h2⟩ := h
      exact ⟨F, hx.holds h2 h1, fun b hb => Nat.lt_of_lt_of_le (h2 b hb) hx.size⟩
    | 3, h => exact h
    | 4, h => exact h
    | i + 5, h => trivial
  · intro i hi o ho
    match i, hi, ho with
    | 0, _, ho =>
      obtain rfl := Option.some.inj ho
      intro s W hX hd K hK
      rw [if_pos (wanted_plain rfl)]
      clear hd
      replace hK : ∀ (v : Value) (W' : World), Ext W W' → (v = .agg TB.toArray) → _ := hK
      simp only [mkOf, List.map_cons, List.map_nil, Act.put, List.setIfInBounds_toArray, List.set_cons_succ, List.set_cons_zero, Nat.reduceAdd, Nat.zero_add] at hK ⊢
      refine wp_load_agg 25 (.tmp 2) rfl _ rfl TB _ Try.underlying25 rfl HTS.out (HB0.out.keep hX (by simp)).cells ?_
      exact hK _ _ (Ext.refl _) rfl
    | 1, _, ho =>
      obtain rfl := Option.some.inj ho
      intro s W hX hd K hK
      rw [if_pos (wanted_plain rfl)]
      clear hd
      replace hK : ∀ (v : Value) (W' : World), Ext W W' → (v = .slice (some ⟨w.heap.size + 1, 0, none⟩) 16 16) → _ := hK
      simp only [mkOf, List.map_cons, List.map_nil, Act.put, List.setIfInBounds_toArray, List.set_cons_succ, List.set_cons_zero, Nat.reduceAdd, Nat.zero_add] at hK ⊢
      go_simp
      exact hK _ _ (Ext.refl _) rfl
    | 2, _, ho =>
      obtain rfl := Option.some.inj ho
      intro s W hX hd K hK
      rw [if_pos (wanted_plain rfl)]
      have d6 : (s 1) = .slice (some ⟨w.heap.size + 1, 0, none⟩) 16 16 := hd 1 (by decide) (by decide)
      clear hd
      replace hK : ∀ (v : Value) (W' : World), Ext W W' → (∃ F, (Ty.sl (.sl .u8)).holds W' F [v] [p] ∧ ∀ b, F b → b < W'.heap.size) → _ := hK
      simp only [mkOf, List.map_cons, List.map_nil, Act.put, List.setIfInBounds_toArray, List.set_cons_succ, List.set_cons_zero, Nat.reduceAdd, Nat.zero_add] at hK ⊢
      simp only [d6] at hK ⊢
      have hsd := HSRC.out W hX
      go_simp
      exact hK _ _ ((Ext.refl _).alloc _) (one_part hsd.1 hsd.2)
    | 3, _, ho =>
      obtain rfl := Option.some.inj ho
      intro s W hX hd K hK
      rw [if_pos (wanted_plain rfl)]
      have d5 : (s 0) = .agg TB.toArray := hd 0 (by decide) (by decide)
      have d7 : ∃ F, (Ty.sl (.sl .u8)).holds W F [(s 2)] [p] ∧ ∀ b, F b → b < W.heap.size := hd 2 (by decide) (by decide)
      clear hd
      replace hK : ∀ (v : Value) (W' : World), Ext W W' → (v = .agg HH.toArray) → _ := hK
      simp only [mkOf, List.map_cons, List.map_nil, Act.put, List.setIfInBounds_toArray, List.set_cons_succ, List.set_cons_zero, Nat.reduceAdd, Nat.zero_add] at hK ⊢
      simp only [d5] at hK ⊢
      obtain ⟨F, h1, h2⟩ := d7
      go_simp
      refine (HFOR.out _ W F h1 h2).mono ?_
      rintro e w' ⟨rfl, hx⟩
      exact hK _ _ hx rfl
    | 4, _, ho =>
      obtain rfl := Option.some.inj ho
      intro s W hX hd K hK
      rw [if_pos (wanted_plain rfl)]
      have d8 : (s 3) = .agg HH.toArray := hd 3 (by decide) (by decide)
      clear hd
      replace hK : ∀ (v : Value) (W' : World), Ext W W' → (v = .agg R.toArray) → _ := hK
      simp only [mkOf, List.map_cons, List.map_nil, Act.put, List.setIfInBounds_toArray, List.set_cons_succ, List.set_cons_zero, Nat.reduceAdd, Nat.zero_add] at hK ⊢
      simp only [d8] at hK ⊢
      go_simp
      refine (HFI.out W).mono ?_
      rintro e w' ⟨rfl, hx⟩
      exact hK _ _ hx rfl
    | i + 5, hi, _ => exact absurd hi (by simp)
  · intro o ho
    obtain rfl := Option.some.inj ho
    intro s W hX hd K hK
    rw [if_pos (wanted_plain rfl)]
    have d5 : (s 0) = .agg TB.toArray := hd 0 (by decide)
    have d6 : (s 1) = .slice (some ⟨w.heap.size + 1, 0, none⟩) 16 16 := hd 1 (by decide)
    have d7 : ∃ F, (Ty.sl (.sl .u8)).holds W F [(s 2)] [p] ∧ ∀ b, F b → b < W.heap.size := hd 2 (by decide)
    have d8 : (s 3) = .agg HH.toArray := hd 3 (by decide)
    have d9 : (s 4) = .agg R.toArray := hd 4 (by decide)
    clear hd
    simp only [mkOf, List.map_cons, List.map_nil, Act.put, List.setIfInBounds_toArray, List.set_cons_succ, List.set_cons_zero, Nat.reduceAdd, Nat.zero_add]
    refine wp_store_row 35 (.tmp 4) (.tmp 9) rfl (w.heap.size + 1 + 1) rfl Z R _ (by simpa [Act.eval] using d9) (HB2.out.keep hX (by simp)) (rpiece_size HRL.out) (by rw [HRL.out, HZL.out]) hro ?_
    refine hK _ _ ?_
    have hr := HB2.out.keep hX (by simp)
    have hx9 : Ext w (W.setRow (w.heap.size + 1 + 1) R.toArray) := setRow_grown (HX0.out.trans hX) _ _ (by omega)
    have hc9 := Blk.cells (t := 35) (setRow_at (cs' := R.toArray) hr)
    clear hK hX
    (try simp only [Exit.then])
    go_wp2_with fail
    (try simp only [Exit.inBlock, Exit.then])
    refine bodyPost_ret (results_agg rfl _ _ _ _ _ rfl Try.underlying35 rfl (rpiece_size HRL.out) hc9) rfl ?_
    exact ⟨rfl, hx9⟩
end
section
open Go.RowKit

set_option maxRecDepth 100000 in
set_option maxHeartbeats 4000000 in
theorem RSecret (seed : List UInt8) (hs : seed.length = 32) (n : Nat) (hn : n < 4294967296) (k : Nat) (hk : k < 32) (bt : Nat) (hbt : bt < 2) (w : World) :
    Calls Try.prog 34 #[.agg tabsC.toArray, .agg (bv seed).toArray, .int .u32 (n : Int), .int .i64 (k : Int), .int .i64 (bt : Int)] w fun e w' => e = .returned (.agg (bv (secretM seed n k bt)).toArray) ∧ Ext w w' := by
  obtain ⟨Z, hz, hzl⟩ : ∃ Z : List Value, (Try.prog.info? 35).bind (fun i => i.zero.map (·.cells)) = some Z.toArray ∧ Z.length = 16 := ⟨_, rpiece_zero, by simp⟩
  have hfor := fun v W F hp2 hF => RFor 1 1 rfl [seed, be 4 n, [byteN k, byteN bt]] (by simp [blob, be_length, hs]) v W F hp2 hF
  have hfi := fun W => RFirst (sha (textM 1 [seed, be 4 n, [byteN k, byteN bt]])) (sha_length _) W
  have hcv : (sha (textM 1 [seed, be 4 n, [byteN k, byteN bt]])).take 16 = secretM seed n k bt := rfl
  rw [hcv] at hfi
  have hts : (Try.prog.info? 25).map (·.size) = some tabsC.length := tabs_size rfl
  generalize tabsC = TB at *
  have hcl : (bv (secretM seed n k bt)).length = 16 := by rw [bv_length, secretM_length]
  have hco := bv_one (secretM seed n k bt)
  have hb0 : Blk (((w.alloc (.cells TB.toArray 25)).alloc (.cells (bv seed).toArray 22)).alloc (.cells Z.toArray 35)).drew w.heap.size 25 TB := (((Blk.new _ _ _).keep ((Ext.refl _).alloc _) (by simp)).keep ((Ext.refl _).alloc _) (by simp)).keep (Ext.refl _).drew (by simp)
  have hb1 : Blk (((w.alloc (.cells TB.toArray 25)).alloc (.cells (bv seed).toArray 22)).alloc (.cells Z.toArray 35)).drew (w.heap.size + 1) 22 (bv seed) := ((Blk.fresh (by simp) _ _).keep ((Ext.refl _).alloc _) (by simp)).keep (Ext.refl _).drew (by simp)
  have hb2 : Blk (((w.alloc (.cells TB.toArray 25)).alloc (.cells (bv seed).toArray 22)).alloc (.cells Z.toArray 35)).drew (w.heap.size + 1 + 1) 35 Z := (Blk.fresh (by simp) _ _).keep (Ext.refl _).drew (by simp)
  have hx0 : Ext w (((w.alloc (.cells TB.toArray 25)).alloc (.cells (bv seed).toArray 22)).alloc (.cells Z.toArray 35)).drew := ((((Ext.refl w).alloc _).alloc _).alloc _).trans (Ext.refl _).drew
  have hseed : ∀ W, Ext (((w.alloc (.cells TB.toArray 25)).alloc (.cells (bv seed).toArray 22)).alloc (.cells Z.toArray 35)).drew W → (Ty.sl .u8).holds W (fun b => b = w.heap.size + 1) [.slice (some ⟨w.heap.size + 1, 0, none⟩) 32 32] seed ∧ ∀ b, b = w.heap.size + 1 → b < W.heap.size := by
    intro W hX
    have hb := hb1.keep hX (by simp)
    refine ⟨⟨_, _, bv seed, by rw [hs], by rw [hs]; exact Nat.le_refl _, by simp [maxLen], by simp, fun _ => ⟨_, rfl, rfl, hb.cells⟩, AllH.bytes.2 rfl⟩, ?_⟩
    rintro b rfl; exact hb.lt
  generalize bv (secretM seed n k bt) = C at *
  generalize bv (sha (textM 1 [seed, be 4 n, [byteN k, byteN bt]])) = HH at *
  generalize bv seed = SC at *
  have HB0 := Lib.hid hb0
  have HB2 := Lib.hid hb2
  have HX0 := Lib.hid hx0
  have HSEED := Lib.hid hseed
  have HFOR := Lib.hid hfor
  have HFI := Lib.hid hfi
  have HCL := Lib.hid hcl
  have HZL := Lib.hid hzl
  have HTS := Lib.hid hts
  have HN := Lib.hid hn
  have HK := Lib.hid hk
  have HBT := Lib.hid hbt
  have HWK : Hid (IntKind.u8.wrap (k : Int) = (k : Int)) := Lib.hid (by simp [IntKind.wrap, IntKind.bits, IntKind.signed]; omega)
  have HWB : Hid (IntKind.u8.wrap (bt : Int) = (bt : Int)) := Lib.hid (by simp [IntKind.wrap, IntKind.bits, IntKind.signed]; omega)
  have HWN : Hid (IntKind.u64.wrap (n : Int) = (n : Int)) := Lib.hid (by simp [IntKind.wrap, IntKind.bits, IntKind.signed]; omega)
  clear hb0 hb1 hb2 hx0 hseed hfor hfi hcl hzl hts hcv hn hk hbt
  go_enter Try.func34, Try.ntmps34
  go_wp2_with (first
    | (refine wpList_alloc _ rfl 35 rfl _ hz ?_)
    | fail)
  (try simp only [World.size_alloc])
  refine stab_store Ext ext_refl ext_trans [[0], [1], [2], [2, 3], [2, 3, 4], [5], [5, 6], [7], [7, 8], [5, 6, 7, 8, 9], [1, 2, 3, 4, 5, 6, 7, 8, 9, 10], [0, 1, 2, 3, 4, 5, 6, 7, 8, 9, 10, 11], [0, 1, 2, 3, 4, 5, 6, 7, 8, 9, 10, 11, 12], [0, 1, 2, 3, 4, 5, 6, 7, 8, 9, 10, 11, 12, 13]] (fun i v wv => match i with | 0 => v = .agg TB.toArray | 1 => v = .slice (some ⟨w.heap.size + 1, 0, none⟩) 32 32 | 2 => v = .int .u32 (n : Int) | 3 => v = .int .u64 (n : Int) | 4 => (Ty.sl .u8).holds wv (fun b => v.ownBlock = some b) [v] (be 4 n) ∧ ∀ b, v.ownBlock = some b → b < wv.heap.size | 5 => v = .int .i64 (k : Int) | 6 => v = .int .u8 (k : Int) | 7 => v = .int .i64 (bt : Int) | 8 => v = .int .u8 (bt : Int) | 9 => (Ty.sl .u8).holds wv (fun b => v.ownBlock = some b) [v] [byteN k, byteN bt] ∧ ∀ b, v.ownBlock = some b → b < wv.heap.size | 10 => ∃ F, (Ty.sl (.sl .u8)).holds wv F [v] [seed, be 4 n, [byteN k, byteN bt]] ∧ ∀ b, F b → b < wv.heap.size | 11 => v = .agg HH.toArray | 12 => v = .agg C.toArray | _ => True) (by kernel_rfl) (by kernel_rfl) (by kernel_rfl) (by kernel_rfl) (by simp) ?_ ?_ ?_
  · intro i v w1 w2 h hx
    match i, h with
    | 0, h => exact h
    | 1, h => exact h
    | 2, h => exact h
    | 3, h => exact h
    | 4, h =>
      replace h : (Ty.sl .u8).holds w1 (fun b => v.ownBlock = some b) [v] (be 4 n) ∧ ∀ b, v.ownBlock = some b → b < w1.heap.size := h
      show (Ty.sl .u8).holds w2 (fun b => v.ownBlock = some b) [v] (be 4 n) ∧ ∀ b, v.ownBlock = some b → b < w2.heap.size
      obtain ⟨h1, h2⟩ := h
      exact ⟨hx.holds h2 h1, fun b hb => Nat.lt_of_lt_of_le (h2 b hb) hx.size⟩
    | 5, h => exact h
    | 6, h => exact h
    | 7, h => exact h
    | 8, h => exact h
    | 9, h =>
      replace h : (Ty.sl .u8).holds w1 (fun b => v.ownBlock = some b) [v] [byteN k, byteN bt] ∧ ∀ b, v.ownBlock = some b → b < w1.heap.size := h
      show (Ty.sl .u8).holds w2 (fun b => v.ownBlock = some b) [v] [byteN k, byteN bt] ∧ ∀ b, v.ownBlock = some b → b < w2.heap.size
      obtain ⟨h1, h2⟩ := h
      exact ⟨hx.holds h2 h1, fun b hb => Nat.lt_of_lt_of_le (h2 b hb) hx.size⟩
    | 10, h =>
      replace h : ∃ F, (Ty.sl (.sl .u8)).holds w1 F [v] [seed, be 4 n, [byteN k, byteN bt]] ∧ ∀ b, F b → b < w1.heap.size := h
      show ∃ F, (Ty.sl (.sl .u8)).holds w2 F [v] [seed, be 4 n, [byteN k, byteN bt]] ∧ ∀ b, F b → b < w2.heap.size
      obtain ⟨F, h1, h2⟩ := h
      exact ⟨F, hx.holds h2 h1, fun b hb => Nat.lt_of_lt_of_le (h2 b hb) hx.size⟩
    | 11, h => exact h
    | 12, h => exact h
    | i + 13, h => trivial
  · intro i hi o ho
    match i, hi, ho with
    | 0, _, ho =>
      obtain rfl := Option.some.inj ho
      intro s W hX hd K hK
      rw [if_pos (wanted_plain rfl)]
      clear hd
      replace hK : ∀ (v : Value) (W' : World), Ext W W' → (v = .agg TB.toArray) → _ := hK
      simp only [mkOf, List.map_cons, List.map_nil, Act.put, List.setIfInBounds_toArray, List.set_cons_succ, List.set_cons_zero, Nat.reduceAdd, Nat.zero_add] at hK ⊢
      refine wp_load_agg 25 (.tmp 5) rfl _ rfl TB _ Try.underlying25 rfl HTS.out (HB0.out.keep hX (by simp)).cells ?_
      exact hK _ _ (Ext.refl _) rfl
    | 1, _, ho =>
      obtain rfl := Option.some.inj ho
      intro s W hX hd K hK
      rw [if_pos (wanted_plain rfl)]
      clear hd
      replace hK : ∀ (v : Value) (W' : World), Ext W W' → (v = .slice (some ⟨w.heap.size + 1, 0, none⟩) 32 32) → _ := hK
      simp only [mkOf, List.map_cons, List.map_nil, Act.put, List.setIfInBounds_toArray, List.set_cons_succ, List.set_cons_zero, Nat.reduceAdd, Nat.zero_add] at hK ⊢
      go_simp
      exact hK _ _ (Ext.refl _) rfl
    | 2, _, ho =>
      obtain rfl := Option.some.inj ho
      intro s W hX hd K hK
      rw [if_pos (wanted_plain rfl)]
      clear hd
      replace hK : ∀ (v : Value) (W' : World), Ext W W' → (v = .int .u32 (n : Int)) → _ := hK
      simp only [mkOf, List.map_cons, List.map_nil, Act.put, List.setIfInBounds_toArray, List.set_cons_succ, List.set_cons_zero, Nat.reduceAdd, Nat.zero_add] at hK ⊢
      go_simp
      exact hK _ _ (Ext.refl _) rfl
    | 3, _, ho =>
      obtain rfl := Option.some.inj ho
      intro s W hX hd K hK
      rw [if_pos (wanted_plain rfl)]
      have d13 : (s 2) = .int .u32 (n : Int) := hd 2 (by decide) (by decide)
      clear hd
      replace hK : ∀ (v : Value) (W' : World), Ext W W' → (v = .int .u64 (n : Int)) → _ := hK
      simp only [mkOf, List.map_cons, List.map_nil, Act.put, List.setIfInBounds_toArray, List.set_cons_succ, List.set_cons_zero, Nat.reduceAdd, Nat.zero_add] at hK ⊢
      simp only [d13] at hK ⊢
      have hn3 := HN.out
      go_simp
      exact hK _ _ (Ext.refl _) (by rw [HWN.out])
    | 4, _, ho =>
      obtain rfl := Option.some.inj ho
      intro s W hX hd K hK
      rw [if_pos (wanted_plain rfl)]
      have d14 : (s 3) = .int .u64 (n : Int) := hd 3 (by decide) (by decide)
      clear hd
      replace hK : ∀ (v : Value) (W' : World), Ext W W' → ((Ty.sl .u8).holds W' (fun b => v.ownBlock = some b) [v] (be 4 n) ∧ ∀ b, v.ownBlock = some b → b < W'.heap.size) → _ := hK
      simp only [mkOf, List.map_cons, List.map_nil, Act.put, List.setIfInBounds_toArray, List.set_cons_succ, List.set_cons_zero, Nat.reduceAdd, Nat.zero_add] at hK ⊢
      simp only [d14] at hK ⊢
      have hn3 := HN.out
      go_simp
      refine (Ref_Num (.slice none 0 0) [] n 4 W (fun _ => False) ⟨none, 0, [], rfl, Nat.le_refl _, by simp [maxLen], by simp, fun h => absurd rfl h, rfl⟩ (fun b h => h.elim) (by omega) (by decide) (by simp)).mono ?_
      rintro e w' ⟨v, rfl, hov, hf⟩
      exact hK _ _ hf.ext ⟨hov.holds, hov.lt⟩
    | 5, _, ho =>
      obtain rfl := Option.some.inj ho
      intro s W hX hd K hK
      rw [if_pos (wanted_plain rfl)]
      clear hd
      replace hK : ∀ (v : Value) (W' : World), Ext W W' → (v = .int .i64 (k : Int)) → _ := hK
      simp only [mkOf, List.map_cons, List.map_nil, Act.put, List.setIfInBounds_toArray, List.set_cons_succ, List.set_cons_zero, Nat.reduceAdd, Nat.zero_add] at hK ⊢
      go_simp
      exact hK _ _ (Ext.refl _) rfl
    | 6, _, ho =>
      obtain rfl := Option.some.inj ho
      intro s W hX hd K hK
      rw [if_pos (wanted_plain rfl)]
      have d16 : (s 5) = .int .i64 (k : Int) := hd 5 (by decide) (by decide)
      clear hd
      replace hK : ∀ (v : Value) (W' : World), Ext W W' → (v = .int .u8 (k : Int)) → _ := hK
      simp only [mkOf, List.map_cons, List.map_nil, Act.put, List.setIfInBounds_toArray, List.set_cons_succ, List.set_cons_zero, Nat.reduceAdd, Nat.zero_add] at hK ⊢
      simp only [d16] at hK ⊢
      go_simp
      exact hK _ _ (Ext.refl _) (by rw [HWK.out])
    | 7, _, ho =>
      obtain rfl := Option.some.inj ho
      intro s W hX hd K hK
      rw [if_pos (wanted_plain rfl)]
      clear hd
      replace hK : ∀ (v : Value) (W' : World), Ext W W' → (v = .int .i64 (bt : Int)) → _ := hK
      simp only [mkOf, List.map_cons, List.map_nil, Act.put, List.setIfInBounds_toArray, List.set_cons_succ, List.set_cons_zero, Nat.reduceAdd, Nat.zero_add] at hK ⊢
      go_simp
      exact hK _ _ (Ext.refl _) rfl
    | 8, _, ho =>
      obtain rfl := Option.some.inj ho
      intro s W hX hd K hK
      rw [if_pos (wanted_plain rfl)]
      have d18 : (s 7) = .int .i64 (bt : Int) := hd 7 (by decide) (by decide)
      clear hd
      replace hK : ∀ (v : Value) (W' : World), Ext W W' → (v = .int .u8 (bt : Int)) → _ := hK
      simp only [mkOf, List.map_cons, List.map_nil, Act.put, List.setIfInBounds_toArray, List.set_cons_succ, List.set_cons_zero, Nat.reduceAdd, Nat.zero_add] at hK ⊢
      simp only [d18] at hK ⊢
      go_simp
      exact hK _ _ (Ext.refl _) (by rw [HWB.out])
    | 9, _, ho =>
      obtain rfl := Option.some.inj ho
      intro s W hX hd K hK
      rw [if_pos (wanted_plain rfl)]
      have d17 : (s 6) = .int .u8 (k : Int) := hd 6 (by decide) (by decide)
      have d19 : (s 8) = .int .u8 (bt : Int) := hd 8 (by decide) (by decide)
      clear hd
      replace hK : ∀ (v : Value) (W' : World), Ext W W' → ((Ty.sl .u8).holds W' (fun b => v.ownBlock = some b) [v] [byteN k, byteN bt] ∧ ∀ b, v.ownBlock = some b → b < W'.heap.size) → _ := hK
      simp only [mkOf, List.map_cons, List.map_nil, Act.put, List.setIfInBounds_toArray, List.set_cons_succ, List.set_cons_zero, Nat.reduceAdd, Nat.zero_add] at hK ⊢
      simp only [d17, d19] at hK ⊢
      go_simp
      exact hK _ _ ((Ext.refl _).alloc _) ⟨sl_made (t := .u8) rfl rfl rfl (by simp [maxLen]) (AllH.bytes.2 (two_bytes HK.out HBT.out)), by rintro b ⟨⟩; simp⟩
    | 10, _, ho =>
      obtain rfl := Option.some.inj ho
      intro s W hX hd K hK
      rw [if_pos (wanted_plain rfl)]
      have d12 : (s 1) = .slice (some ⟨w.heap.size + 1, 0, none⟩) 32 32 := hd 1 (by decide) (by decide)
      have d15 : (Ty.sl .u8).holds W (fun b => (s 4).ownBlock = some b) [(s 4)] (be 4 n) ∧ ∀ b, (s 4).ownBlock = some b → b < W.heap.size := hd 4 (by decide) (by decide)
      have d20 : (Ty.sl .u8).holds W (fun b => (s 9).ownBlock = some b) [(s 9)] [byteN k, byteN bt] ∧ ∀ b, (s 9).ownBlock = some b → b < W.heap.size := hd 9 (by decide) (by decide)
      clear hd
      replace hK : ∀ (v : Value) (W' : World), Ext W W' → (∃ F, (Ty.sl (.sl .u8)).holds W' F [v] [seed, be 4 n, [byteN k, byteN bt]] ∧ ∀ b, F b → b < W'.heap.size) → _ := hK
      simp only [mkOf, List.map_cons, List.map_nil, Act.put, List.setIfInBounds_toArray, List.set_cons_succ, List.set_cons_zero, Nat.reduceAdd, Nat.zero_add] at hK ⊢
      simp only [d12] at hK ⊢
      have hsd := HSEED.out W hX
      obtain ⟨A1, c1, e1⟩ := sl_form d15.1
      obtain ⟨A2, c2, e2⟩ := sl_form d20.1
      rw [e1] at d15
      rw [e2] at d20
      simp only [e1, e2] at hK ⊢
      go_simp
      exact hK _ _ ((Ext.refl _).alloc _) (three_parts hsd.1 hsd.2 d15.1 d15.2 d20.1 d20.2)
    | 11, _, ho =>
      obtain rfl := Option.some.inj ho
      intro s W hX hd K hK
      rw [if_pos (wanted_plain rfl)]
      have d11 : (s 0) = .agg TB.toArray := hd 0 (by decide) (by decide)
      have d21 : ∃ F, (Ty.sl (.sl .u8)).holds W F [(s 10)] [seed, be 4 n, [byteN k, byteN bt]] ∧ ∀ b, F b → b < W.heap.size := hd 10 (by decide) (by decide)
      clear hd
      replace hK : ∀ (v : Value) (W' : World), Ext W W' → (v = .agg HH.toArray) → _ := hK
      simp only [mkOf, List.map_cons, List.map_nil, Act.put, List.setIfInBounds_toArray, List.set_cons_succ, List.set_cons_zero, Nat.reduceAdd, Nat.zero_add] at hK ⊢
      simp only [d11] at hK ⊢
      obtain ⟨F, h1, h2⟩ := d21
      go_simp
      refine (HFOR.out _ W F h1 h2).mono ?_
      rintro e w' ⟨rfl, hx⟩
      exact hK _ _ hx rfl
    | 12, _, ho =>
      obtain rfl := Option.some.inj ho
      intro s W hX hd K hK
      rw [if_pos (wanted_plain rfl)]
      have d22 : (s 11) = .agg HH.toArray := hd 11 (by decide) (by decide)
      clear hd
      replace hK : ∀ (v : Value) (W' : World), Ext W W' → (v = .agg C.toArray) → _ := hK
      simp only [mkOf, List.map_cons, List.map_nil, Act.put, List.setIfInBounds_toArray, List.set_cons_succ, List.set_cons_zero, Nat.reduceAdd, Nat.zero_add] at hK ⊢
      simp only [d22] at hK ⊢
      go_simp
      refine (HFI.out W).mono ?_
      rintro e w' ⟨rfl, hx⟩
      exact hK _ _ hx rfl
    | i + 13, hi, _ => exact absurd hi (by simp)
  · intro o ho
    obtain rfl := Option.some.inj ho
    intro s W hX hd K hK
    rw [if_pos (wanted_plain rfl)]
    have d11 : (s 0) = .agg TB.toArray := hd 0 (by decide)
    have d12 : (s 1) = .slice (some ⟨w.heap.size + 1, 0, none⟩) 32 32 := hd 1 (by decide)
    have d13 : (s 2) = .int .u32 (n : Int) := hd 2 (by decide)
    have d14 : (s 3) = .int .u64 (n : Int) := hd 3 (by decide)
    have d15 : (Ty.sl .u8).holds W (fun b => (s 4).ownBlock = some b) [(s 4)] (be 4 n) ∧ ∀ b, (s 4).ownBlock = some b → b < W.heap.size := hd 4 (by decide)
    have d16 : (s 5) = .int .i64 (k : Int) := hd 5 (by decide)
    have d17 : (s 6) = .int .u8 (k : Int) := hd 6 (by decide)
    have d18 : (s 7) = .int .i64 (bt : Int) := hd 7 (by decide)
    have d19 : (s 8) = .int .u8 (bt : Int) := hd 8 (by decide)
    have d20 : (Ty.sl .u8).holds W (fun b => (s 9).ownBlock = some b) [(s 9)] [byteN k, byteN bt] ∧ ∀ b, (s 9).ownBlock = some b → b < W.heap.size := hd 9 (by decide)
    have d21 : ∃ F, (Ty.sl (.sl .u8)).holds W F [(s 10)] [seed, be 4 n, [byteN k, byteN bt]] ∧ ∀ b, F b → b < W.heap.size := hd 10 (by decide)
    have d22 : (s 11) = .agg HH.toArray := hd 11 (by decide)
    have d23 : (s 12) = .agg C.toArray := hd 12 (by decide)
    clear hd
    simp only [mkOf, List.map_cons, List.map_nil, Act.put, List.setIfInBounds_toArray, List.set_cons_succ, List.set_cons_zero, Nat.reduceAdd, Nat.zero_add]
    refine wp_store_row 35 (.tmp 10) (.tmp 23) rfl (w.heap.size + 1 + 1) rfl Z C _ (by simpa [Act.eval] using d23) (HB2.out.keep hX (by simp)) (rpiece_size HCL.out) (by rw [HCL.out, HZL.out]) hco ?_
    refine hK _ _ ?_
    have hr := HB2.out.keep hX (by simp)
    have hx9 : Ext w (W.setRow (w.heap.size + 1 + 1) C.toArray) := setRow_grown (HX0.out.trans hX) _ _ (by omega)
    have hc9 := Blk.cells (t := 35) (setRow_at (cs' := C.toArray) hr)
    clear hK hX
    (try simp only [Exit.then])
    go_wp2_with fail
    (try simp only [Exit.inBlock, Exit.then])
    refine bodyPost_ret (results_agg rfl _ _ _ _ _ rfl Try.underlying35 rfl (rpiece_size HCL.out) hc9) rfl ?_
    exact ⟨rfl, hx9⟩
end
section
open Go.RowKit

/-- The document's In in memory: its block; what is left, what is wrong, as of the program's. -/
def RIn (w : World) (g : Nat) (F : Fp) (s : InS) : Prop := ∃ A c B at_, Blk w g 67 [.slice A B.length c, .int .i64 ((at_ : Nat) : Int), .int .i64 s.2] ∧ (Ty.sl .u8).holds w F [.slice A B.length c] B ∧ at_ ≤ B.length ∧ (s.2 = 0 → s.1 = B.drop at_) ∧ (s.2 ≠ 0 → s.1 = []) ∧ (∀ b, F b → b < w.heap.size ∧ b ≠ g) ∧ B.length ≤ 140737488355328 ∧ (Lit.int .i64 s.2).wf = true
theorem RIn.keep {w w' : World} {g : Nat} {F : Fp} {s : InS} {row : Option Nat} (h : RIn w g F s) (hg : w.grownBy w' row) (h1 : some g ≠ row) (h2 : ∀ b, F b → some b ≠ row) : RIn w' g F s := by
  obtain ⟨A, c, B, a, hb, hh, ha, e1, e2, hF, hl, hw⟩ := h
  exact ⟨A, c, B, a, hb.keep hg h1, Ty.keep (fun b hb => hg.block b (hF b hb).1 (h2 b hb)) (fun _ h => h) _ hh, ha, e1, e2, fun b hb => ⟨Nat.lt_of_lt_of_le (hF b hb).1 hg.size, (hF b hb).2⟩, hl, hw⟩
theorem RIn.lt {w : World} {g : Nat} {F : Fp} {s : InS} (h : RIn w g F s) : g < w.heap.size := by obtain ⟨_, _, _, _, hb, _⟩ := h; exact hb.lt
section
variable {P : Program}
theorem wp_app_empty {w : World} {o : Oper} {a : Act} {K : Act → World → Prop} {Q : Exit → Act → World → Prop} (s x : Operand) (t t' : TypeId)
    (ho : o.op = .call { callee := .builtin .append, args := #[s, x], argTypes := #[t, t'] })
    (e e' : TypeId) (i : TypeInfo) (z : Value) (ht : P.underlying t = some (.slice e)) (ht' : P.underlying t' = some (.slice e')) (hi : P.info? e = some i) (hz : i.zero = some z)
    (hsize : i.size = 1) (hby : i.bytes = 1) (hzs : z.cells.size = 1)
    (b : Addr) (hs : a.eval s = .slice (some b) 0 0) (hown : Own w e 1 (.slice (some b) 0 0) 0 [])
    (A : Option Addr) (m c : Nat) (news : List Value) (hx : a.eval x = .slice A m c) (hl : news.length = m * 1) (hnews : Src w A m news) (h1 : ∀ u ∈ news, u.oneCell' = true) (hm : 0 < m) (hb : m ≤ 140737488355328)
    (h : ∀ v' w', Own w' e 1 v' m news → Ext w w' → (∀ g, v'.ownBlock = some g → w.heap.size ≤ g) → K (a.put o.dst v') w') : o.wp P a w K Q := by
  obtain ⟨v', w', hr, h2, h3⟩ := run_app (P := P) w t t' o.type e e' i z 1 1 ht ht' hi hz hsize hby hzs (by decide) _ 0 [] hown A m c news hl hnews h1 (by unfold maxLen; omega) (by omega)
  obtain ⟨ad, rfl, hc⟩ := hnews (by omega)
  have hg := run_append_grow (P := P) (w := w) t o.type e i z ht hi hz b 0 0 [] (by simp) (by intro j v hj; simp at hj) ad m c news (by rw [hsize]; exact hl) (fun j v hj => hc j v hj) (by omega) (by omega)
    (by rw [hby, Nat.zero_add, nextslicecap_zero hm]; omega)
  rw [← append_types w ht ht'] at hg
  rw [hr] at hg
  simp only [Result.ok.injEq] at hg
  obtain ⟨hv, hw⟩ := hg
  unfold Oper.wp execOp
  simp only [ho, resolve, invoke, builtin, Sem.run_bind, Sem.run_pure, Result.andThen_ok, List.map_toArray, List.map_cons, List.map_nil, hs, hx, hr]
  refine h v' w' (by simpa using h2) ?_ ?_
  · rw [hw]; exact ((Ext.refl _).drew).alloc _
  · intro g hgb
    rw [hv] at hgb
    simp [Value.ownBlock] at hgb
    omega
end
set_option maxRecDepth 100000 in
set_option maxHeartbeats 4000000 in
theorem RRaw (n : Nat) (hn : n < 1000000) (hn0 : 0 < n) {w : World} {g : Nat} {F : Fp} {s : InS} (h : RIn w g F s) :
    Calls Try.prog 50 #[.pointer (some ⟨g, 0, none⟩), .int .i64 (n : Int)] w fun r w' => ∃ v, r = .returned v ∧ OwnB w' v (cutM n s).1 ∧ RIn w' g F (cutM n s).2 ∧ w.grownBy w' (some g) ∧ ∀ b, v.ownBlock = some b → w.heap.size ≤ b := by
  obtain ⟨i0, hi8, hz0, hz1, hz2⟩ := info_parts u8_info
  obtain ⟨l, bad⟩ := s
  have h0 := h
  obtain ⟨A, c, B, at_, hb, hh, hat, e1, e2, hF, hbl, hwf⟩ := h
  by_cases hbad : bad = 0
  case neg =>
    have hc2 := hb.cell 2
    have hcut : cutM n (l, bad) = ([], (l, bad)) := if_pos hbad
    rw [hcut]
    have hbb : (bad != 0) = true := by simpa using hbad
    have HR := Lib.hid h0
    clear hb hh e1 e2 hF hwf h0 hcut
    replace hc2 : w.cell? ⟨g, 2, none⟩ = some (.int .i64 bad) := hc2
    go_enter Try.func50, Try.ntmps50
    go_wp2
    go_ret
    exact ⟨_, rfl, Own.nil _ _ _, HR.out, World.grownBy.refl _ _, fun b hb => by simp [Value.ownBlock] at hb⟩
  subst hbad
  have hc2 : w.cell? ⟨g, 2, none⟩ = some (.int .i64 0) := hb.cell 2
  have el : l = B.drop at_ := e1 rfl
  have HB : Hid (Blk w.drew g 67 [.slice A B.length c, .int .i64 ((at_ : Nat) : Int), .int .i64 0]) := Lib.hid hb
  have HAT := Lib.hid hat
  have HBL := Lib.hid hbl
  have HSUB : Hid (IntKind.i64.wrap ((B.length : Int) - (at_ : Int)) = ((B.length - at_ : Nat) : Int)) := Lib.hid (by simp [IntKind.wrap, IntKind.bits, IntKind.signed]; omega)
  have HH := Lib.hid hh
  have HF := Lib.hid hF
  have HR := Lib.hid h0
  have HN := Lib.hid hn
  have HN0 := Lib.hid hn0
  have HEL := Lib.hid el
  clear hb hh e1 e2 hF hwf h0 hat hbl hn hn0 el
  go_enter Try.func50, Try.ntmps50
  go_wp2_with fail
  refine stab_plain Ext ext_refl ext_trans [[0], [1], [1, 2], [1, 2, 3], [1, 2, 3, 4], [1, 2, 3, 4, 5], [6], [6, 7], [6, 7, 8], [6, 7, 8, 9], [1, 2, 3, 4, 5, 6, 7, 8, 9, 10], [0, 1, 2, 3, 4, 5, 6, 7, 8, 9, 10, 11]] (fun i v wv => match i with | 0 => v = .int .i64 (n : Int) | 1 => v = .pointer (some ⟨g, 0, none⟩) | 2 => v = .pointer (some ⟨g, 0, none⟩) | 3 => v = .pointer (some ⟨g, 0, none⟩) | 4 => v = .slice A B.length c | 5 => v = .int .i64 (B.length : Int) | 6 => v = .pointer (some ⟨g, 0, none⟩) | 7 => v = .pointer (some ⟨g, 0, none⟩) | 8 => v = .pointer (some ⟨g, 1, none⟩) | 9 => v = .int .i64 (at_ : Int) | 10 => v = .int .i64 ((B.length - at_ : Nat) : Int) | 11 => v = .bool (decide (B.length - at_ < n)) | _ => True) (by kernel_rfl) (by kernel_rfl) (by kernel_rfl) ?_ ?_ ?_
  · intro i v w1 w2 h hx
    match i, h with
    | 0, h => exact h
    | 1, h => exact h
    | 2, h => exact h
    | 3, h => exact h
    | 4, h => exact h
    | 5, h => exact h
    | 6, h => exact h
    | 7, h => exact h
    | 8, h => exact h
    | 9, h => exact h
    | 10, h => exact h
    | 11, h => exact h
    | i + 12, h => trivial
  · intro i hi o ho
    match i, hi, ho with
    | 0, _, ho =>
      obtain rfl := Option.some.inj ho
      intro s W hX hd K hK
      rw [if_pos (wanted_plain rfl)]
      clear hd
      replace hK : ∀ (v : Value) (W' : World), Ext W W' → (v = .int .i64 (n : Int)) → _ := hK
      simp only [mkOf, List.map_cons, List.map_nil, Act.put, List.setIfInBounds_toArray, List.set_cons_succ, List.set_cons_zero, Nat.reduceAdd, Nat.zero_add] at hK ⊢
      go_simp
      exact hK _ _ (Ext.refl _) rfl
    | 1, _, ho =>
      obtain rfl := Option.some.inj ho
      intro s W hX hd K hK
      rw [if_pos (wanted_plain rfl)]
      clear hd
      replace hK : ∀ (v : Value) (W' : World), Ext W W' → (v = .pointer (some ⟨g, 0, none⟩)) → _ := hK
      simp only [mkOf, List.map_cons, List.map_nil, Act.put, List.setIfInBounds_toArray, List.set_cons_succ, List.set_cons_zero, Nat.reduceAdd, Nat.zero_add] at hK ⊢
      go_simp
      exact hK _ _ (Ext.refl _) rfl
    | 2, _, ho =>
      obtain rfl := Option.some.inj ho
      intro s W hX hd K hK
      rw [if_pos (wanted_plain rfl)]
      have d11 : (s 1) = .pointer (some ⟨g, 0, none⟩) := hd 1 (by decide) (by decide)
      clear hd
      replace hK : ∀ (v : Value) (W' : World), Ext W W' → (v = .pointer (some ⟨g, 0, none⟩)) → _ := hK
      simp only [mkOf, List.map_cons, List.map_nil, Act.put, List.setIfInBounds_toArray, List.set_cons_succ, List.set_cons_zero, Nat.reduceAdd, Nat.zero_add] at hK ⊢
      simp only [d11] at hK ⊢
      go_simp
      exact hK _ _ (Ext.refl _) rfl
    | 3, _, ho =>
      obtain rfl := Option.some.inj ho
      intro s W hX hd K hK
      rw [if_pos (wanted_plain rfl)]
      have d12 : (s 2) = .pointer (some ⟨g, 0, none⟩) := hd 2 (by decide) (by decide)
      clear hd
      replace hK : ∀ (v : Value) (W' : World), Ext W W' → (v = .pointer (some ⟨g, 0, none⟩)) → _ := hK
      simp only [mkOf, List.map_cons, List.map_nil, Act.put, List.setIfInBounds_toArray, List.set_cons_succ, List.set_cons_zero, Nat.reduceAdd, Nat.zero_add] at hK ⊢
      simp only [d12] at hK ⊢
      go_simp
      exact hK _ _ (Ext.refl _) rfl
    | 4, _, ho =>
      obtain rfl := Option.some.inj ho
      intro s W hX hd K hK
      rw [if_pos (wanted_plain rfl)]
      have d13 : (s 3) = .pointer (some ⟨g, 0, none⟩) := hd 3 (by decide) (by decide)
      clear hd
      replace hK : ∀ (v : Value) (W' : World), Ext W W' → (v = .slice A B.length c) → _ := hK
      simp only [mkOf, List.map_cons, List.map_nil, Act.put, List.setIfInBounds_toArray, List.set_cons_succ, List.set_cons_zero, Nat.reduceAdd, Nat.zero_add] at hK ⊢
      simp only [d13] at hK ⊢
      have c0 := (HB.out.keep hX (by simp)).cell 0
      replace c0 : W.cell? ⟨g, 0, none⟩ = some (.slice A B.length c) := c0
      go_simp
      exact hK _ _ (Ext.refl _) rfl
    | 5, _, ho =>
      obtain rfl := Option.some.inj ho
      intro s W hX hd K hK
      rw [if_pos (wanted_plain rfl)]
      have d14 : (s 4) = .slice A B.length c := hd 4 (by decide) (by decide)
      clear hd
      replace hK : ∀ (v : Value) (W' : World), Ext W W' → (v = .int .i64 (B.length : Int)) → _ := hK
      simp only [mkOf, List.map_cons, List.map_nil, Act.put, List.setIfInBounds_toArray, List.set_cons_succ, List.set_cons_zero, Nat.reduceAdd, Nat.zero_add] at hK ⊢
      simp only [d14] at hK ⊢
      go_simp
      exact hK _ _ (Ext.refl _) rfl
    | 6, _, ho =>
      obtain rfl := Option.some.inj ho
      intro s W hX hd K hK
      rw [if_pos (wanted_plain rfl)]
      clear hd
      replace hK : ∀ (v : Value) (W' : World), Ext W W' → (v = .pointer (some ⟨g, 0, none⟩)) → _ := hK
      simp only [mkOf, List.map_cons, List.map_nil, Act.put, List.setIfInBounds_toArray, List.set_cons_succ, List.set_cons_zero, Nat.reduceAdd, Nat.zero_add] at hK ⊢
      go_simp
      exact hK _ _ (Ext.refl _) rfl
    | 7, _, ho =>
      obtain rfl := Option.some.inj ho
      intro s W hX hd K hK
      rw [if_pos (wanted_plain rfl)]
      have d16 : (s 6) = .pointer (some ⟨g, 0, none⟩) := hd 6 (by decide) (by decide)
      clear hd
      replace hK : ∀ (v : Value) (W' : World), Ext W W' → (v = .pointer (some ⟨g, 0, none⟩)) → _ := hK
      simp only [mkOf, List.map_cons, List.map_nil, Act.put, List.setIfInBounds_toArray, List.set_cons_succ, List.set_cons_zero, Nat.reduceAdd, Nat.zero_add] at hK ⊢
      simp only [d16] at hK ⊢
      go_simp
      exact hK _ _ (Ext.refl _) rfl
    | 8, _, ho =>
      obtain rfl := Option.some.inj ho
      intro s W hX hd K hK
      rw [if_pos (wanted_plain rfl)]
      have d17 : (s 7) = .pointer (some ⟨g, 0, none⟩) := hd 7 (by decide) (by decide)
      clear hd
      replace hK : ∀ (v : Value) (W' : World), Ext W W' → (v = .pointer (some ⟨g, 1, none⟩)) → _ := hK
      simp only [mkOf, List.map_cons, List.map_nil, Act.put, List.setIfInBounds_toArray, List.set_cons_succ, List.set_cons_zero, Nat.reduceAdd, Nat.zero_add] at hK ⊢
      simp only [d17] at hK ⊢
      go_simp
      exact hK _ _ (Ext.refl _) rfl
    | 9, _, ho =>
      obtain rfl := Option.some.inj ho
      intro s W hX hd K hK
      rw [if_pos (wanted_plain rfl)]
      have d18 : (s 8) = .pointer (some ⟨g, 1, none⟩) := hd 8 (by decide) (by decide)
      clear hd
      replace hK : ∀ (v : Value) (W' : World), Ext W W' → (v = .int .i64 (at_ : Int)) → _ := hK
      simp only [mkOf, List.map_cons, List.map_nil, Act.put, List.setIfInBounds_toArray, List.set_cons_succ, List.set_cons_zero, Nat.reduceAdd, Nat.zero_add] at hK ⊢
      simp only [d18] at hK ⊢
      have c1 := (HB.out.keep hX (by simp)).cell 1
      replace c1 : W.cell? ⟨g, 1, none⟩ = some (.int .i64 (at_ : Int)) := c1
      go_simp
      exact hK _ _ (Ext.refl _) rfl
    | 10, _, ho =>
      obtain rfl := Option.some.inj ho
      intro s W hX hd K hK
      rw [if_pos (wanted_plain rfl)]
      have d15 : (s 5) = .int .i64 (B.length : Int) := hd 5 (by decide) (by decide)
      have d19 : (s 9) = .int .i64 (at_ : Int) := hd 9 (by decide) (by decide)
      clear hd
      replace hK : ∀ (v : Value) (W' : World), Ext W W' → (v = .int .i64 ((B.length - at_ : Nat) : Int)) → _ := hK
      simp only [mkOf, List.map_cons, List.map_nil, Act.put, List.setIfInBounds_toArray, List.set_cons_succ, List.set_cons_zero, Nat.reduceAdd, Nat.zero_add] at hK ⊢
      simp only [d15, d19] at hK ⊢
      have h1 := HAT.out
      have h2 := HBL.out
      go_simp
      exact hK _ _ (Ext.refl _) (by first | rw [HSUB.out] | (congr 1; omega))
    | 11, _, ho =>
      obtain rfl := Option.some.inj ho
      intro s W hX hd K hK
      rw [if_pos (wanted_plain rfl)]
      have d10 : (s 0) = .int .i64 (n : Int) := hd 0 (by decide) (by decide)
      have d20 : (s 10) = .int .i64 ((B.length - at_ : Nat) : Int) := hd 10 (by decide) (by decide)
      clear hd
      replace hK : ∀ (v : Value) (W' : World), Ext W W' → (v = .bool (decide (B.length - at_ < n))) → _ := hK
      simp only [mkOf, List.map_cons, List.map_nil, Act.put, List.setIfInBounds_toArray, List.set_cons_succ, List.set_cons_zero, Nat.reduceAdd, Nat.zero_add] at hK ⊢
      simp only [d10, d20] at hK ⊢
      go_simp
      exact hK _ _ (Ext.refl _) rfl
    | i + 12, hi, _ => exact absurd hi (by simp)
  · intro s W hX hd
    have d10 : (s 0) = .int .i64 (n : Int) := hd 0 (by decide)
    have d11 : (s 1) = .pointer (some ⟨g, 0, none⟩) := hd 1 (by decide)
    have d12 : (s 2) = .pointer (some ⟨g, 0, none⟩) := hd 2 (by decide)
    have d13 : (s 3) = .pointer (some ⟨g, 0, none⟩) := hd 3 (by decide)
    have d14 : (s 4) = .slice A B.length c := hd 4 (by decide)
    have d15 : (s 5) = .int .i64 (B.length : Int) := hd 5 (by decide)
    have d16 : (s 6) = .pointer (some ⟨g, 0, none⟩) := hd 6 (by decide)
    have d17 : (s 7) = .pointer (some ⟨g, 0, none⟩) := hd 7 (by decide)
    have d18 : (s 8) = .pointer (some ⟨g, 1, none⟩) := hd 8 (by decide)
    have d19 : (s 9) = .int .i64 (at_ : Int) := hd 9 (by decide)
    have d20 : (s 10) = .int .i64 ((B.length - at_ : Nat) : Int) := hd 10 (by decide)
    have d21 : (s 11) = .bool (decide (B.length - at_ < n)) := hd 11 (by decide)
    clear hd
    simp only [mkOf, List.map_cons, List.map_nil, Act.put, List.setIfInBounds_toArray, List.set_cons_succ, List.set_cons_zero, Nat.reduceAdd, Nat.zero_add]
    have hbW := HB.out.keep hX (by simp)
    have hxW : Ext w W := (Ext.refl w).drew.trans hX
    have HRW := Lib.hid (HR.out.keep hxW (by simp) (fun b _ => by simp))
    by_cases hlt : B.length - at_ < n
    · have hs2 := hbW.cell 2
      have hf2 := hbW.free 2
      replace hs2 : W.cell? ⟨g, 2, none⟩ = some (.int .i64 0) := hs2
      have hcut : cutM n (l, 0) = ([], ([], 9)) := by
        unfold cutM
        rw [if_neg (by simp), if_pos (by show l.length < n; rw [HEL.out, List.length_drop]; exact hlt)]
      have HCUT := Lib.hid hcut
      have hset := hbW.set 2 (.int .i64 9)
      have hgr : w.grownBy (W.setCell ⟨g, 2, none⟩ (.int .i64 9)) (some g) := grown_then (hxW.any (some g)) (only_set 2 _) (.inl rfl)
      have HRI : Hid (RIn (W.setCell ⟨g, 2, none⟩ (.int .i64 9)) g F ([], 9)) := Lib.hid ⟨A, c, B, at_, hset, Ty.keep (fun b hb => ((only_set (w := W) (g := g) 2 (.int .i64 9)).block b (Nat.lt_of_lt_of_le (HF.out b hb).1 hxW.size) (by have := (HF.out b hb).2; simpa using this)).trans (hxW.block b (HF.out b hb).1 (by simp))) (fun _ h => h) _ HH.out, HAT.out, fun h => by simp at h, fun _ => rfl, fun b hb => ⟨by have := (HF.out b hb).1; have h2 := hxW.size; simp; omega, (HF.out b hb).2⟩, HBL.out, by decide⟩
      have HGR := Lib.hid hgr
      have hd : decide (B.length - at_ < n) = true := decide_eq_true hlt
      rw [hd] at d21
      simp only [d21]
      clear hbW hxW hset hgr hX hcut hd d10 d11 d12 d13 d14 d15 d16 d17 d18 d19 d20
      (try simp only [Exit.then])
      go_wp2
      go_ret
      rw [HCUT.out]
      exact ⟨_, rfl, Own.nil _ _ _, HRI.out, HGR.out, fun b hb => by simp [Value.ownBlock] at hb⟩
    · have hle : at_ + n ≤ B.length := by have := HAT.out; omega
      have hh2 := HH.out
      obtain ⟨ad, rfl⟩ : ∃ ad, A = some ad := by
        obtain ⟨A2, c2, xs, hv, _, _, hA, hcell, _⟩ := hh2
        cases hv
        obtain ⟨ad, h1, _⟩ := hcell (by rintro rfl; have := HN0.out; simp at hle; omega)
        exact ⟨ad, h1⟩
      have HS2 : Hid (IntKind.i64.wrap (((at_ + n : Nat) : Int) - (n : Int)) = (at_ : Int)) := Lib.hid (by have := HBL.out; simp [IntKind.wrap, IntKind.bits, IntKind.signed]; omega)
      have HS3 : Hid (IntKind.i64.wrap (at_ : Int) = (at_ : Int)) := Lib.hid (by have := HBL.out; simp [IntKind.wrap, IntKind.bits, IntKind.signed]; omega)
      have HCL : Hid (B.length ≤ c) := Lib.hid (by obtain ⟨A2, c2, xs, hv, h5, _⟩ := hh2; cases hv; exact h5)
      have HLEN : Hid (((B.drop at_).take n).length = n) := Lib.hid (by rw [List.length_take, List.length_drop]; omega)
      have HCUT : Hid (cutM n (l, 0) = ((B.drop at_).take n, (B.drop (at_ + n), 0))) := Lib.hid (by
        unfold cutM
        rw [if_neg (by simp), if_neg (by show ¬ l.length < n; rw [HEL.out, List.length_drop]; exact hlt), HEL.out, List.drop_drop])
      clear hh2
      have hs1 : W.cell? ⟨g, 1, none⟩ = some (.int .i64 (at_ : Int)) := hbW.cell 1
      have hf1 := hbW.free 1
      have hset : Blk (W.setCell ⟨g, 1, none⟩ (.int .i64 ((at_ : Int) + (n : Int)))).drew g 67 [.slice (some ad) B.length c, .int .i64 ((at_ + n : Nat) : Int), .int .i64 0] := by
        rw [Int.natCast_add]
        exact (hbW.set 1 (.int .i64 ((at_ : Int) + (n : Int)))).keep (Ext.refl _).drew (by simp)
      have hgr : w.grownBy (W.setCell ⟨g, 1, none⟩ (.int .i64 ((at_ : Int) + (n : Int)))).drew (some g) := grown_then (grown_then (hxW.any (some g)) (only_set 1 _) (.inl rfl)) ((Ext.refl _).drew.any _) (.inl rfl)
      have hhV : (Ty.sl .u8).holds (W.setCell ⟨g, 1, none⟩ (.int .i64 ((at_ : Int) + (n : Int)))).drew F [.slice (some ad) B.length c] B := Ty.keep (fun b hb => hgr.block b (HF.out b hb).1 (by have := (HF.out b hb).2; simpa using this)) (fun _ h => h) _ HH.out
      have HGR := Lib.hid hgr
      have HHV := Lib.hid hhV
      clear hgr hhV
      have HBV := Lib.hid hset
      have HATN := Lib.hid hle
      have hd : decide (B.length - at_ < n) = false := decide_eq_false hlt
      rw [hd] at d21
      simp only [d21]
      have hN := HN.out
      have hBL := HBL.out
      clear hset hd d10 d11 d12 d13 d14 d15 d16 d17 d18 d19 d20
      (try simp only [Exit.then])
      go_wp2_with fail
      clear hs1 hf1 hN hBL d21 hbW hxW HRW
      generalize W.setCell ⟨g, 1, none⟩ (.int .i64 ((at_ : Int) + (n : Int))) = V at *
      have HSRC : Hid (∀ W2, Ext V.drew W2 → Cells W2 (ad.add at_) (bv ((B.drop at_).take n))) := Lib.hid fun W2 h => by
        obtain ⟨A2, c2, xs, hv, _, _, _, hcell, hall⟩ := h.holds (fun b hb => Nat.lt_of_lt_of_le (HF.out b hb).1 HGR.out.size) HHV.out
        cases hv
        obtain ⟨ad2, h1, _, h3⟩ := hcell (by rintro rfl; have := HN0.out; simp at hle; omega)
        cases h1
        rw [AllH.bytes.1 hall] at h3
        have h4 := (h3.drop at_).take n
        rw [show ((bv B).drop at_).take n = bv ((B.drop at_).take n) by simp [bv, List.map_drop, List.map_take]] at h4
        exact h4
      refine stab_plain Ext ext_refl ext_trans [[0], [1], [1, 2], [1, 2, 3], [1, 2, 3, 4], [5], [5, 6], [5, 6, 7], [5, 6, 7, 8], [9], [5, 6, 7, 8, 9, 10], [11], [11, 12], [11, 12, 13], [11, 12, 13, 14], [1, 2, 3, 4, 5, 6, 7, 8, 9, 10, 11, 12, 13, 14, 15], [0, 1, 2, 3, 4, 5, 6, 7, 8, 9, 10, 11, 12, 13, 14, 15, 16], [0, 1, 2, 3, 4, 5, 6, 7, 8, 9, 10, 11, 12, 13, 14, 15, 16, 17]] (fun i v wv => match i with | 0 => OwnB wv v [] ∧ ∃ b, v = .slice (some b) 0 0 | 1 => v = .pointer (some ⟨g, 0, none⟩) | 2 => v = .pointer (some ⟨g, 0, none⟩) | 3 => v = .pointer (some ⟨g, 0, none⟩) | 4 => v = .slice (some ad) B.length c | 5 => v = .pointer (some ⟨g, 0, none⟩) | 6 => v = .pointer (some ⟨g, 0, none⟩) | 7 => v = .pointer (some ⟨g, 1, none⟩) | 8 => v = .int .i64 ((at_ + n : Nat) : Int) | 9 => v = .int .i64 (n : Int) | 10 => v = .int .i64 (at_ : Int) | 11 => v = .pointer (some ⟨g, 0, none⟩) | 12 => v = .pointer (some ⟨g, 0, none⟩) | 13 => v = .pointer (some ⟨g, 1, none⟩) | 14 => v = .int .i64 ((at_ + n : Nat) : Int) | 15 => ∃ c2, v = .slice (some (ad.add at_)) n c2 | 16 => OwnB wv v ((B.drop at_).take n) ∧ ∀ b, v.ownBlock = some b → V.heap.size ≤ b | 17 => OwnB wv v ((B.drop at_).take n) ∧ ∀ b, v.ownBlock = some b → V.heap.size ≤ b | _ => True) (by kernel_rfl) (by kernel_rfl) (by kernel_rfl) ?_ ?_ ?_
      · intro i v w1 w2 h hx
        match i, h with
        | 0, h =>
          replace h : OwnB w1 v [] ∧ ∃ b, v = .slice (some b) 0 0 := h
          show OwnB w2 v [] ∧ ∃ b, v = .slice (some b) 0 0
          obtain ⟨h1, h2⟩ := h
          exact ⟨h1.ext hx, h2⟩
        | 1, h => exact h
        | 2, h => exact h
        | 3, h => exact h
        | 4, h => exact h
        | 5, h => exact h
        | 6, h => exact h
        | 7, h => exact h
        | 8, h => exact h
        | 9, h => exact h
        | 10, h => exact h
        | 11, h => exact h
        | 12, h => exact h
        | 13, h => exact h
        | 14, h => exact h
        | 15, h =>
          replace h : ∃ c2, v = .slice (some (ad.add at_)) n c2 := h
          show ∃ c2, v = .slice (some (ad.add at_)) n c2
          exact h
        | 16, h =>
          replace h : OwnB w1 v ((B.drop at_).take n) ∧ ∀ b, v.ownBlock = some b → V.heap.size ≤ b := h
          show OwnB w2 v ((B.drop at_).take n) ∧ ∀ b, v.ownBlock = some b → V.heap.size ≤ b
          obtain ⟨h1, h2⟩ := h
          exact ⟨h1.ext hx, h2⟩
        | 17, h =>
          replace h : OwnB w1 v ((B.drop at_).take n) ∧ ∀ b, v.ownBlock = some b → V.heap.size ≤ b := h
          show OwnB w2 v ((B.drop at_).take n) ∧ ∀ b, v.ownBlock = some b → V.heap.size ≤ b
          obtain ⟨h1, h2⟩ := h
          exact ⟨h1.ext hx, h2⟩
        | i + 18, h => trivial
      · intro i hi o ho
        match i, hi, ho with
        | 0, _, ho =>
          obtain rfl := Option.some.inj ho
          intro s W2 hX hd K hK
          rw [if_pos (wanted_plain rfl)]
          clear hd
          replace hK : ∀ (v : Value) (W2' : World), Ext W2 W2' → (OwnB W2' v [] ∧ ∃ b, v = .slice (some b) 0 0) → _ := hK
          simp only [mkOf, List.map_cons, List.map_nil, Act.put, List.setIfInBounds_toArray, List.set_cons_succ, List.set_cons_zero, Nat.reduceAdd, Nat.zero_add] at hK ⊢
          refine wp_bs0 55 rfl 5 Try.underlying55 u8_size1 u8_zero1 ?_
          exact hK _ _ ((Ext.refl _).alloc _) ⟨own_empty rfl, ⟨_, rfl⟩⟩
        | 1, _, ho =>
          obtain rfl := Option.some.inj ho
          intro s W2 hX hd K hK
          rw [if_pos (wanted_plain rfl)]
          clear hd
          replace hK : ∀ (v : Value) (W2' : World), Ext W2 W2' → (v = .pointer (some ⟨g, 0, none⟩)) → _ := hK
          simp only [mkOf, List.map_cons, List.map_nil, Act.put, List.setIfInBounds_toArray, List.set_cons_succ, List.set_cons_zero, Nat.reduceAdd, Nat.zero_add] at hK ⊢
          go_simp
          exact hK _ _ (Ext.refl _) rfl
        | 2, _, ho =>
          obtain rfl := Option.some.inj ho
          intro s W2 hX hd K hK
          rw [if_pos (wanted_plain rfl)]
          have d35 : (s 1) = .pointer (some ⟨g, 0, none⟩) := hd 1 (by decide) (by decide)
          clear hd
          replace hK : ∀ (v : Value) (W2' : World), Ext W2 W2' → (v = .pointer (some ⟨g, 0, none⟩)) → _ := hK
          simp only [mkOf, List.map_cons, List.map_nil, Act.put, List.setIfInBounds_toArray, List.set_cons_succ, List.set_cons_zero, Nat.reduceAdd, Nat.zero_add] at hK ⊢
          simp only [d35] at hK ⊢
          go_simp
          exact hK _ _ (Ext.refl _) rfl
        | 3, _, ho =>
          obtain rfl := Option.some.inj ho
          intro s W2 hX hd K hK
          rw [if_pos (wanted_plain rfl)]
          have d36 : (s 2) = .pointer (some ⟨g, 0, none⟩) := hd 2 (by decide) (by decide)
          clear hd
          replace hK : ∀ (v : Value) (W2' : World), Ext W2 W2' → (v = .pointer (some ⟨g, 0, none⟩)) → _ := hK
          simp only [mkOf, List.map_cons, List.map_nil, Act.put, List.setIfInBounds_toArray, List.set_cons_succ, List.set_cons_zero, Nat.reduceAdd, Nat.zero_add] at hK ⊢
          simp only [d36] at hK ⊢
          go_simp
          exact hK _ _ (Ext.refl _) rfl
        | 4, _, ho =>
          obtain rfl := Option.some.inj ho
          intro s W2 hX hd K hK
          rw [if_pos (wanted_plain rfl)]
          have d37 : (s 3) = .pointer (some ⟨g, 0, none⟩) := hd 3 (by decide) (by decide)
          clear hd
          replace hK : ∀ (v : Value) (W2' : World), Ext W2 W2' → (v = .slice (some ad) B.length c) → _ := hK
          simp only [mkOf, List.map_cons, List.map_nil, Act.put, List.setIfInBounds_toArray, List.set_cons_succ, List.set_cons_zero, Nat.reduceAdd, Nat.zero_add] at hK ⊢
          simp only [d37] at hK ⊢
          have c0 := (HBV.out.keep hX (by simp)).cell 0
          replace c0 : W2.cell? ⟨g, 0, none⟩ = some (.slice (some ad) B.length c) := c0
          go_simp
          exact hK _ _ (Ext.refl _) rfl
        | 5, _, ho =>
          obtain rfl := Option.some.inj ho
          intro s W2 hX hd K hK
          rw [if_pos (wanted_plain rfl)]
          clear hd
          replace hK : ∀ (v : Value) (W2' : World), Ext W2 W2' → (v = .pointer (some ⟨g, 0, none⟩)) → _ := hK
          simp only [mkOf, List.map_cons, List.map_nil, Act.put, List.setIfInBounds_toArray, List.set_cons_succ, List.set_cons_zero, Nat.reduceAdd, Nat.zero_add] at hK ⊢
          go_simp
          exact hK _ _ (Ext.refl _) rfl
        | 6, _, ho =>
          obtain rfl := Option.some.inj ho
          intro s W2 hX hd K hK
          rw [if_pos (wanted_plain rfl)]
          have d39 : (s 5) = .pointer (some ⟨g, 0, none⟩) := hd 5 (by decide) (by decide)
          clear hd
          replace hK : ∀ (v : Value) (W2' : World), Ext W2 W2' → (v = .pointer (some ⟨g, 0, none⟩)) → _ := hK
          simp only [mkOf, List.map_cons, List.map_nil, Act.put, List.setIfInBounds_toArray, List.set_cons_succ, List.set_cons_zero, Nat.reduceAdd, Nat.zero_add] at hK ⊢
          simp only [d39] at hK ⊢
          go_simp
          exact hK _ _ (Ext.refl _) rfl
        | 7, _, ho =>
          obtain rfl := Option.some.inj ho
          intro s W2 hX hd K hK
          rw [if_pos (wanted_plain rfl)]
          have d40 : (s 6) = .pointer (some ⟨g, 0, none⟩) := hd 6 (by decide) (by decide)
          clear hd
          replace hK : ∀ (v : Value) (W2' : World), Ext W2 W2' → (v = .pointer (some ⟨g, 1, none⟩)) → _ := hK
          simp only [mkOf, List.map_cons, List.map_nil, Act.put, List.setIfInBounds_toArray, List.set_cons_succ, List.set_cons_zero, Nat.reduceAdd, Nat.zero_add] at hK ⊢
          simp only [d40] at hK ⊢
          go_simp
          exact hK _ _ (Ext.refl _) rfl
        | 8, _, ho =>
          obtain rfl := Option.some.inj ho
          intro s W2 hX hd K hK
          rw [if_pos (wanted_plain rfl)]
          have d41 : (s 7) = .pointer (some ⟨g, 1, none⟩) := hd 7 (by decide) (by decide)
          clear hd
          replace hK : ∀ (v : Value) (W2' : World), Ext W2 W2' → (v = .int .i64 ((at_ + n : Nat) : Int)) → _ := hK
          simp only [mkOf, List.map_cons, List.map_nil, Act.put, List.setIfInBounds_toArray, List.set_cons_succ, List.set_cons_zero, Nat.reduceAdd, Nat.zero_add] at hK ⊢
          simp only [d41] at hK ⊢
          have c1 := (HBV.out.keep hX (by simp)).cell 1
          replace c1 : W2.cell? ⟨g, 1, none⟩ = some (.int .i64 ((at_ + n : Nat) : Int)) := c1
          go_simp
          exact hK _ _ (Ext.refl _) rfl
        | 9, _, ho =>
          obtain rfl := Option.some.inj ho
          intro s W2 hX hd K hK
          rw [if_pos (wanted_plain rfl)]
          clear hd
          replace hK : ∀ (v : Value) (W2' : World), Ext W2 W2' → (v = .int .i64 (n : Int)) → _ := hK
          simp only [mkOf, List.map_cons, List.map_nil, Act.put, List.setIfInBounds_toArray, List.set_cons_succ, List.set_cons_zero, Nat.reduceAdd, Nat.zero_add] at hK ⊢
          go_simp
          exact hK _ _ (Ext.refl _) rfl
        | 10, _, ho =>
          obtain rfl := Option.some.inj ho
          intro s W2 hX hd K hK
          rw [if_pos (wanted_plain rfl)]
          have d42 : (s 8) = .int .i64 ((at_ + n : Nat) : Int) := hd 8 (by decide) (by decide)
          have d43 : (s 9) = .int .i64 (n : Int) := hd 9 (by decide) (by decide)
          clear hd
          replace hK : ∀ (v : Value) (W2' : World), Ext W2 W2' → (v = .int .i64 (at_ : Int)) → _ := hK
          simp only [mkOf, List.map_cons, List.map_nil, Act.put, List.setIfInBounds_toArray, List.set_cons_succ, List.set_cons_zero, Nat.reduceAdd, Nat.zero_add] at hK ⊢
          simp only [d42, d43] at hK ⊢
          have h1 := HATN.out
          have h2 := HBL.out
          go_simp
          refine hK _ _ (Ext.refl _) ?_
          (first | rfl | (rw [HS2.out]; done) | (rw [HS3.out]; done) | (congr 1; omega))
        | 11, _, ho =>
          obtain rfl := Option.some.inj ho
          intro s W2 hX hd K hK
          rw [if_pos (wanted_plain rfl)]
          clear hd
          replace hK : ∀ (v : Value) (W2' : World), Ext W2 W2' → (v = .pointer (some ⟨g, 0, none⟩)) → _ := hK
          simp only [mkOf, List.map_cons, List.map_nil, Act.put, List.setIfInBounds_toArray, List.set_cons_succ, List.set_cons_zero, Nat.reduceAdd, Nat.zero_add] at hK ⊢
          go_simp
          exact hK _ _ (Ext.refl _) rfl
        | 12, _, ho =>
          obtain rfl := Option.some.inj ho
          intro s W2 hX hd K hK
          rw [if_pos (wanted_plain rfl)]
          have d45 : (s 11) = .pointer (some ⟨g, 0, none⟩) := hd 11 (by decide) (by decide)
          clear hd
          replace hK : ∀ (v : Value) (W2' : World), Ext W2 W2' → (v = .pointer (some ⟨g, 0, none⟩)) → _ := hK
          simp only [mkOf, List.map_cons, List.map_nil, Act.put, List.setIfInBounds_toArray, List.set_cons_succ, List.set_cons_zero, Nat.reduceAdd, Nat.zero_add] at hK ⊢
          simp only [d45] at hK ⊢
          go_simp
          exact hK _ _ (Ext.refl _) rfl
        | 13, _, ho =>
          obtain rfl := Option.some.inj ho
          intro s W2 hX hd K hK
          rw [if_pos (wanted_plain rfl)]
          have d46 : (s 12) = .pointer (some ⟨g, 0, none⟩) := hd 12 (by decide) (by decide)
          clear hd
          replace hK : ∀ (v : Value) (W2' : World), Ext W2 W2' → (v = .pointer (some ⟨g, 1, none⟩)) → _ := hK
          simp only [mkOf, List.map_cons, List.map_nil, Act.put, List.setIfInBounds_toArray, List.set_cons_succ, List.set_cons_zero, Nat.reduceAdd, Nat.zero_add] at hK ⊢
          simp only [d46] at hK ⊢
          go_simp
          exact hK _ _ (Ext.refl _) rfl
        | 14, _, ho =>
          obtain rfl := Option.some.inj ho
          intro s W2 hX hd K hK
          rw [if_pos (wanted_plain rfl)]
          have d47 : (s 13) = .pointer (some ⟨g, 1, none⟩) := hd 13 (by decide) (by decide)
          clear hd
          replace hK : ∀ (v : Value) (W2' : World), Ext W2 W2' → (v = .int .i64 ((at_ + n : Nat) : Int)) → _ := hK
          simp only [mkOf, List.map_cons, List.map_nil, Act.put, List.setIfInBounds_toArray, List.set_cons_succ, List.set_cons_zero, Nat.reduceAdd, Nat.zero_add] at hK ⊢
          simp only [d47] at hK ⊢
          have c1 := (HBV.out.keep hX (by simp)).cell 1
          replace c1 : W2.cell? ⟨g, 1, none⟩ = some (.int .i64 ((at_ + n : Nat) : Int)) := c1
          go_simp
          exact hK _ _ (Ext.refl _) rfl
        | 15, _, ho =>
          obtain rfl := Option.some.inj ho
          intro s W2 hX hd K hK
          rw [if_pos (wanted_plain rfl)]
          have d38 : (s 4) = .slice (some ad) B.length c := hd 4 (by decide) (by decide)
          have d44 : (s 10) = .int .i64 (at_ : Int) := hd 10 (by decide) (by decide)
          have d48 : (s 14) = .int .i64 ((at_ + n : Nat) : Int) := hd 14 (by decide) (by decide)
          clear hd
          replace hK : ∀ (v : Value) (W2' : World), Ext W2 W2' → (∃ c2, v = .slice (some (ad.add at_)) n c2) → _ := hK
          simp only [mkOf, List.map_cons, List.map_nil, Act.put, List.setIfInBounds_toArray, List.set_cons_succ, List.set_cons_zero, Nat.reduceAdd, Nat.zero_add] at hK ⊢
          simp only [d38, d44, d48] at hK ⊢
          have h1 := HATN.out
          have h2 := HBL.out
          have h3 := HCL.out
          have h4 := HN0.out
          go_simp
          rw [if_pos ⟨by omega, by omega⟩, if_pos (by omega), if_neg (by omega), show ((at_ : Int) + (n : Int)).toNat - at_ = n by omega]
          (try go_simp)
          exact hK _ _ (Ext.refl _) ⟨_, rfl⟩
        | 16, _, ho =>
          obtain rfl := Option.some.inj ho
          intro s W2 hX hd K hK
          rw [if_pos (wanted_plain rfl)]
          have d34 : OwnB W2 (s 0) [] ∧ ∃ b, (s 0) = .slice (some b) 0 0 := hd 0 (by decide) (by decide)
          have d49 : ∃ c2, (s 15) = .slice (some (ad.add at_)) n c2 := hd 15 (by decide) (by decide)
          clear hd
          replace hK : ∀ (v : Value) (W2' : World), Ext W2 W2' → (OwnB W2' v ((B.drop at_).take n) ∧ ∀ b, v.ownBlock = some b → V.heap.size ≤ b) → _ := hK
          simp only [mkOf, List.map_cons, List.map_nil, Act.put, List.setIfInBounds_toArray, List.set_cons_succ, List.set_cons_zero, Nat.reduceAdd, Nat.zero_add] at hK ⊢
          obtain ⟨ho, b, hb⟩ := d34
          obtain ⟨c2, h49⟩ := d49
          rw [hb] at ho
          refine wp_app_empty (.tmp 34) (.tmp 49) 55 55 rfl 5 5 i0 _ Try.underlying55 Try.underlying55 hi8 hz0 hz1 hz2 rfl b (by simpa [Act.eval] using hb) ho (some (ad.add at_)) n c2 (bv ((B.drop at_).take n)) (by simpa [Act.eval] using h49) (by rw [bv_length, HLEN.out]; omega) (fun _ => ⟨_, rfl, HSRC.out W2 hX⟩) (bv_one _) HN0.out (by have := HN.out; omega) ?_
          intro v9 w9 ho9 hx9 hn9
          exact hK _ _ hx9 ⟨by unfold OwnB; rw [HLEN.out]; exact ho9, fun b hb => Nat.le_trans hX.size (hn9 b hb)⟩
        | 17, _, ho =>
          obtain rfl := Option.some.inj ho
          intro s W2 hX hd K hK
          rw [if_pos (wanted_plain rfl)]
          have d50 : OwnB W2 (s 16) ((B.drop at_).take n) ∧ ∀ b, (s 16).ownBlock = some b → V.heap.size ≤ b := hd 16 (by decide) (by decide)
          clear hd
          replace hK : ∀ (v : Value) (W2' : World), Ext W2 W2' → (OwnB W2' v ((B.drop at_).take n) ∧ ∀ b, v.ownBlock = some b → V.heap.size ≤ b) → _ := hK
          simp only [mkOf, List.map_cons, List.map_nil, Act.put, List.setIfInBounds_toArray, List.set_cons_succ, List.set_cons_zero, Nat.reduceAdd, Nat.zero_add] at hK ⊢
          go_simp
          exact hK _ _ (Ext.refl _) d50
        | i + 18, hi, _ => exact absurd hi (by simp)
      · intro s W2 hX hd
        have d34 : OwnB W2 (s 0) [] ∧ ∃ b, (s 0) = .slice (some b) 0 0 := hd 0 (by decide)
        have d35 : (s 1) = .pointer (some ⟨g, 0, none⟩) := hd 1 (by decide)
        have d36 : (s 2) = .pointer (some ⟨g, 0, none⟩) := hd 2 (by decide)
        have d37 : (s 3) = .pointer (some ⟨g, 0, none⟩) := hd 3 (by decide)
        have d38 : (s 4) = .slice (some ad) B.length c := hd 4 (by decide)
        have d39 : (s 5) = .pointer (some ⟨g, 0, none⟩) := hd 5 (by decide)
        have d40 : (s 6) = .pointer (some ⟨g, 0, none⟩) := hd 6 (by decide)
        have d41 : (s 7) = .pointer (some ⟨g, 1, none⟩) := hd 7 (by decide)
        have d42 : (s 8) = .int .i64 ((at_ + n : Nat) : Int) := hd 8 (by decide)
        have d43 : (s 9) = .int .i64 (n : Int) := hd 9 (by decide)
        have d44 : (s 10) = .int .i64 (at_ : Int) := hd 10 (by decide)
        have d45 : (s 11) = .pointer (some ⟨g, 0, none⟩) := hd 11 (by decide)
        have d46 : (s 12) = .pointer (some ⟨g, 0, none⟩) := hd 12 (by decide)
        have d47 : (s 13) = .pointer (some ⟨g, 1, none⟩) := hd 13 (by decide)
        have d48 : (s 14) = .int .i64 ((at_ + n : Nat) : Int) := hd 14 (by decide)
        have d49 : ∃ c2, (s 15) = .slice (some (ad.add at_)) n c2 := hd 15 (by decide)
        have d50 : OwnB W2 (s 16) ((B.drop at_).take n) ∧ ∀ b, (s 16).ownBlock = some b → V.heap.size ≤ b := hd 16 (by decide)
        have d4 : OwnB W2 (s 17) ((B.drop at_).take n) ∧ ∀ b, (s 17).ownBlock = some b → V.heap.size ≤ b := hd 17 (by decide)
        clear hd
        simp only [mkOf, List.map_cons, List.map_nil, Act.put, List.setIfInBounds_toArray, List.set_cons_succ, List.set_cons_zero, Nat.reduceAdd, Nat.zero_add]
        have HRI : Hid (RIn W2 g F (B.drop (at_ + n), 0)) := Lib.hid ⟨some ad, c, B, at_ + n, HBV.out.keep hX (by simp), hX.holds (fun b hb => Nat.lt_of_lt_of_le (HF.out b hb).1 HGR.out.size) HHV.out, HATN.out, fun _ => rfl, fun h => absurd rfl h, fun b hb => ⟨Nat.lt_of_lt_of_le (Nat.lt_of_lt_of_le (HF.out b hb).1 HGR.out.size) hX.size, (HF.out b hb).2⟩, HBL.out, (show (Lit.int .i64 0).wf = true by decide)⟩
        have HG9 : Hid (w.grownBy W2 (some g)) := Lib.hid (grown_then HGR.out (hX.any _) (.inl rfl))
        have HSZ : Hid (w.heap.size ≤ V.heap.size) := Lib.hid HGR.out.size
        clear hX
        (try simp only [Exit.then])
        go_wp2_with fail
        go_ret
        rw [HCUT.out]
        exact ⟨_, rfl, d4.1, HRI.out, HG9.out, fun b hb => Nat.le_trans HSZ.out (d4.2 b hb)⟩
end
end Go.Proofs.Ytfoomnibfibfnaa

/- The walk of the document's Secret of layer 4. Conditions: the seed has its length, the numbers are in their bounds. -/
import Derived.Test.YtfoomnibfibfnaaLRCover
import Derived.Test.YtfoomnibfibfnaaRef1
set_option linter.unusedVariables false
set_option linter.unusedSimpArgs false
set_option linter.unnecessarySimpa false
namespace Go.Proofs.Ytfoomnibfibfnaa
open Go.RowKit

set_option maxRecDepth 100000 in
set_option maxHeartbeats 4000000 in
theorem RSecret (seed : List UInt8) (hs : seed.length = 32) (n : Nat) (hn : n < 4294967296) (k : Nat) (hk : k < 32) (bt : Nat) (hbt : bt < 2) (w : World) :
    Calls Try.prog 34 #[.agg tabsC.toArray, .agg (bv seed).toArray, .int .u32 (n : Int), .int .i64 (k : Int), .int .i64 (bt : Int)] w fun e w' => e = .returned (.agg (bv (secretM seed n k bt)).toArray) ∧ Ext w w' := by
  obtain ⟨Z, hz, hzl⟩ : ∃ Z : List Value, (Try.prog.info? 35).bind (fun i => i.zero.map (·.cells)) = some Z.toArray ∧ Z.length = 16 := ⟨_, rpiece_zero, by simp⟩
  have hfor := fun v W F hp2 hF => RFor 1 1 rfl [seed, be 4 n, [byteN k, byteN bt]] (by simp [blob, be_length, hs]) v W F hp2 hF
  have hfi := fun W => RFirst (sha (textM 1 [seed, be 4 n, [byteN k, byteN bt]])) (sha_length _) W
  have hcv : (sha (textM 1 [seed, be 4 n, [byteN k, byteN bt]])).take 16 = secretM seed n k bt := rfl
  rw [hcv] at hfi
  have hts : (Try.prog.info? 25).map (·.size) = some tabsC.length := tabs_size rfl
  generalize tabsC = TB at *
  have hcl : (bv (secretM seed n k bt)).length = 16 := by rw [bv_length, secretM_length]
  have hco := bv_one (secretM seed n k bt)
  have hb0 : Blk (((w.alloc (.cells TB.toArray 25)).alloc (.cells (bv seed).toArray 22)).alloc (.cells Z.toArray 35)).drew w.heap.size 25 TB := (((Blk.new _ _ _).keep ((Ext.refl _).alloc _) (by simp)).keep ((Ext.refl _).alloc _) (by simp)).keep (Ext.refl _).drew (by simp)
  have hb1 : Blk (((w.alloc (.cells TB.toArray 25)).alloc (.cells (bv seed).toArray 22)).alloc (.cells Z.toArray 35)).drew (w.heap.size + 1) 22 (bv seed) := ((Blk.fresh (by simp) _ _).keep ((Ext.refl _).alloc _) (by simp)).keep (Ext.refl _).drew (by simp)
  have hb2 : Blk (((w.alloc (.cells TB.toArray 25)).alloc (.cells (bv seed).toArray 22)).alloc (.cells Z.toArray 35)).drew (w.heap.size + 1 + 1) 35 Z := (Blk.fresh (by simp) _ _).keep (Ext.refl _).drew (by simp)
  have hx0 : Ext w (((w.alloc (.cells TB.toArray 25)).alloc (.cells (bv seed).toArray 22)).alloc (.cells Z.toArray 35)).drew := ((((Ext.refl w).alloc _).alloc _).alloc _).trans (Ext.refl _).drew
  have hseed : ∀ W, Ext (((w.alloc (.cells TB.toArray 25)).alloc (.cells (bv seed).toArray 22)).alloc (.cells Z.toArray 35)).drew W → (Ty.sl .u8).holds W (fun b => b = w.heap.size + 1) [.slice (some ⟨w.heap.size + 1, 0, none⟩) 32 32] seed ∧ ∀ b, b = w.heap.size + 1 → b < W.heap.size := by
    intro W hX
    have hb := hb1.keep hX (by simp)
    refine ⟨⟨_, _, bv seed, by rw [hs], by rw [hs]; exact Nat.le_refl _, by simp [maxLen], by simp, fun _ => ⟨_, rfl, rfl, hb.cells⟩, AllH.bytes.2 rfl⟩, ?_⟩
    rintro b rfl; exact hb.lt
  generalize bv (secretM seed n k bt) = C at *
  generalize bv (sha (textM 1 [seed, be 4 n, [byteN k, byteN bt]])) = HH at *
  generalize bv seed = SC at *
  have HB0 := Lib.hid hb0
  have HB2 := Lib.hid hb2
  have HX0 := Lib.hid hx0
  have HSEED := Lib.hid hseed
  have HFOR := Lib.hid hfor
  have HFI := Lib.hid hfi
  have HCL := Lib.hid hcl
  have HZL := Lib.hid hzl
  have HTS := Lib.hid hts
  have HN := Lib.hid hn
  have HK := Lib.hid hk
  have HBT := Lib.hid hbt
  have HWK : Hid (IntKind.u8.wrap (k : Int) = (k : Int)) := Lib.hid (by simp [IntKind.wrap, IntKind.bits, IntKind.signed]; omega)
  have HWB : Hid (IntKind.u8.wrap (bt : Int) = (bt : Int)) := Lib.hid (by simp [IntKind.wrap, IntKind.bits, IntKind.signed]; omega)
  have HWN : Hid (IntKind.u64.wrap (n : Int) = (n : Int)) := Lib.hid (by simp [IntKind.wrap, IntKind.bits, IntKind.signed]; omega)
  clear hb0 hb1 hb2 hx0 hseed hfor hfi hcl hzl hts hcv hn hk hbt
  go_enter Try.func34, Try.ntmps34
  go_wp2_with (first
    | (refine wpList_alloc _ rfl 35 rfl _ hz ?_)
    | fail)
  (try simp only [World.size_alloc])
  refine stab_store Ext ext_refl ext_trans [[0], [1], [2], [2, 3], [2, 3, 4], [5], [5, 6], [7], [7, 8], [5, 6, 7, 8, 9], [1, 2, 3, 4, 5, 6, 7, 8, 9, 10], [0, 1, 2, 3, 4, 5, 6, 7, 8, 9, 10, 11], [0, 1, 2, 3, 4, 5, 6, 7, 8, 9, 10, 11, 12], [0, 1, 2, 3, 4, 5, 6, 7, 8, 9, 10, 11, 12, 13]] (fun i v wv => match i with | 0 => v = .agg TB.toArray | 1 => v = .slice (some ⟨w.heap.size + 1, 0, none⟩) 32 32 | 2 => v = .int .u32 (n : Int) | 3 => v = .int .u64 (n : Int) | 4 => (Ty.sl .u8).holds wv (fun b => v.ownBlock = some b) [v] (be 4 n) ∧ ∀ b, v.ownBlock = some b → b < wv.heap.size | 5 => v = .int .i64 (k : Int) | 6 => v = .int .u8 (k : Int) | 7 => v = .int .i64 (bt : Int) | 8 => v = .int .u8 (bt : Int) | 9 => (Ty.sl .u8).holds wv (fun b => v.ownBlock = some b) [v] [byteN k, byteN bt] ∧ ∀ b, v.ownBlock = some b → b < wv.heap.size | 10 => ∃ F, (Ty.sl (.sl .u8)).holds wv F [v] [seed, be 4 n, [byteN k, byteN bt]] ∧ ∀ b, F b → b < wv.heap.size | 11 => v = .agg HH.toArray | 12 => v = .agg C.toArray | _ => True) (by kernel_rfl) (by kernel_rfl) (by kernel_rfl) (by kernel_rfl) (by simp) ?_ ?_ ?_
  · intro i v w1 w2 h hx
    match i, h with
    | 0, h => exact h
    | 1, h => exact h
    | 2, h => exact h
    | 3, h => exact h
    | 4, h =>
      replace h : (Ty.sl .u8).holds w1 (fun b => v.ownBlock = some b) [v] (be 4 n) ∧ ∀ b, v.ownBlock = some b → b < w1.heap.size := h
      show (Ty.sl .u8).holds w2 (fun b => v.ownBlock = some b) [v] (be 4 n) ∧ ∀ b, v.ownBlock = some b → b < w2.heap.size
      obtain ⟨h1, h2⟩ := h
      exact ⟨hx.holds h2 h1, fun b hb => Nat.lt_of_lt_of_le (h2 b hb) hx.size⟩
    | 5, h => exact h
    | 6, h => exact h
    | 7, h => exact h
    | 8, h => exact h
    | 9, h =>
      replace h : (Ty.sl .u8).holds w1 (fun b => v.ownBlock = some b) [v] [byteN k, byteN bt] ∧ ∀ b, v.ownBlock = some b → b < w1.heap.size := h
      show (Ty.sl .u8).holds w2 (fun b => v.ownBlock = some b) [v] [byteN k, byteN bt] ∧ ∀ b, v.ownBlock = some b → b < w2.heap.size
      obtain ⟨h1, h2⟩ := h
      exact ⟨hx.holds h2 h1, fun b hb => Nat.lt_of_lt_of_le (h2 b hb) hx.size⟩
    | 10, h =>
      replace h : ∃ F, (Ty.sl (.sl .u8)).holds w1 F [v] [seed, be 4 n, [byteN k, byteN bt]] ∧ ∀ b, F b → b < w1.heap.size := h
      show ∃ F, (Ty.sl (.sl .u8)).holds w2 F [v] [seed, be 4 n, [byteN k, byteN bt]] ∧ ∀ b, F b → b < w2.heap.size
      obtain ⟨F, h1, h2⟩ := h
      exact ⟨F, hx.holds h2 h1, fun b hb => Nat.lt_of_lt_of_le (h2 b hb) hx.size⟩
    | 11, h => exact h
    | 12, h => exact h
    | i + 13, h => trivial
  · intro i hi o ho
    match i, hi, ho with
    | 0, _, ho =>
      obtain rfl := Option.some.inj ho
      intro s W hX hd K hK
      rw [if_pos (wanted_plain rfl)]
      clear hd
      replace hK : ∀ (v : Value) (W' : World), Ext W W' → (v = .agg TB.toArray) → _ := hK
      simp only [mkOf, List.map_cons, List.map_nil, Act.put, List.setIfInBounds_toArray, List.set_cons_succ, List.set_cons_zero, Nat.reduceAdd, Nat.zero_add] at hK ⊢
      refine wp_load_agg 25 (.tmp 5) rfl _ rfl TB _ Try.underlying25 rfl HTS.out (HB0.out.keep hX (by simp)).cells ?_
      exact hK _ _ (Ext.refl _) rfl
    | 1, _, ho =>
      obtain rfl := Option.some.inj ho
      intro s W hX hd K hK
      rw [if_pos (wanted_plain rfl)]
      clear hd
      replace hK : ∀ (v : Value) (W' : World), Ext W W' → (v = .slice (some ⟨w.heap.size + 1, 0, none⟩) 32 32) → _ := hK
      simp only [mkOf, List.map_cons, List.map_nil, Act.put, List.setIfInBounds_toArray, List.set_cons_succ, List.set_cons_zero, Nat.reduceAdd, Nat.zero_add] at hK ⊢
      go_simp
      exact hK _ _ (Ext.refl _) rfl
    | 2, _, ho =>
      obtain rfl := Option.some.inj ho
      intro s W hX hd K hK
      rw [if_pos (wanted_plain rfl)]
      clear hd
      replace hK : ∀ (v : Value) (W' : World), Ext W W' → (v = .int .u32 (n : Int)) → _ := hK
      simp only [mkOf, List.map_cons, List.map_nil, Act.put, List.setIfInBounds_toArray, List.set_cons_succ, List.set_cons_zero, Nat.reduceAdd, Nat.zero_add] at hK ⊢
      go_simp
      exact hK _ _ (Ext.refl _) rfl
    | 3, _, ho =>
      obtain rfl := Option.some.inj ho
      intro s W hX hd K hK
      rw [if_pos (wanted_plain rfl)]
      have d13 : (s 2) = .int .u32 (n : Int) := hd 2 (by decide) (by decide)
      clear hd
      replace hK : ∀ (v : Value) (W' : World), Ext W W' → (v = .int .u64 (n : Int)) → _ := hK
      simp only [mkOf, List.map_cons, List.map_nil, Act.put, List.setIfInBounds_toArray, List.set_cons_succ, List.set_cons_zero, Nat.reduceAdd, Nat.zero_add] at hK ⊢
      simp only [d13] at hK ⊢
      have hn3 := HN.out
      go_simp
      exact hK _ _ (Ext.refl _) (by rw [HWN.out])
    | 4, _, ho =>
      obtain rfl := Option.some.inj ho
      intro s W hX hd K hK
      rw [if_pos (wanted_plain rfl)]
      have d14 : (s 3) = .int .u64 (n : Int) := hd 3 (by decide) (by decide)
      clear hd
      replace hK : ∀ (v : Value) (W' : World), Ext W W' → ((Ty.sl .u8).holds W' (fun b => v.ownBlock = some b) [v] (be 4 n) ∧ ∀ b, v.ownBlock = some b → b < W'.heap.size) → _ := hK
      simp only [mkOf, List.map_cons, List.map_nil, Act.put, List.setIfInBounds_toArray, List.set_cons_succ, List.set_cons_zero, Nat.reduceAdd, Nat.zero_add] at hK ⊢
      simp only [d14] at hK ⊢
      have hn3 := HN.out
      go_simp
      refine (Ref_Num (.slice none 0 0) [] n 4 W (fun _ => False) ⟨none, 0, [], rfl, Nat.le_refl _, by simp [maxLen], by simp, fun h => absurd rfl h, rfl⟩ (fun b h => h.elim) (by omega) (by decide) (by simp)).mono ?_
      rintro e w' ⟨v, rfl, hov, hf⟩
      exact hK _ _ hf.ext ⟨hov.holds, hov.lt⟩
    | 5, _, ho =>
      obtain rfl := Option.some.inj ho
      intro s W hX hd K hK
      rw [if_pos (wanted_plain rfl)]
      clear hd
      replace hK : ∀ (v : Value) (W' : World), Ext W W' → (v = .int .i64 (k : Int)) → _ := hK
      simp only [mkOf, List.map_cons, List.map_nil, Act.put, List.setIfInBounds_toArray, List.set_cons_succ, List.set_cons_zero, Nat.reduceAdd, Nat.zero_add] at hK ⊢
      go_simp
      exact hK _ _ (Ext.refl _) rfl
    | 6, _, ho =>
      obtain rfl := Option.some.inj ho
      intro s W hX hd K hK
      rw [if_pos (wanted_plain rfl)]
      have d16 : (s 5) = .int .i64 (k : Int) := hd 5 (by decide) (by decide)
      clear hd
      replace hK : ∀ (v : Value) (W' : World), Ext W W' → (v = .int .u8 (k : Int)) → _ := hK
      simp only [mkOf, List.map_cons, List.map_nil, Act.put, List.setIfInBounds_toArray, List.set_cons_succ, List.set_cons_zero, Nat.reduceAdd, Nat.zero_add] at hK ⊢
      simp only [d16] at hK ⊢
      go_simp
      exact hK _ _ (Ext.refl _) (by rw [HWK.out])
    | 7, _, ho =>
      obtain rfl := Option.some.inj ho
      intro s W hX hd K hK
      rw [if_pos (wanted_plain rfl)]
      clear hd
      replace hK : ∀ (v : Value) (W' : World), Ext W W' → (v = .int .i64 (bt : Int)) → _ := hK
      simp only [mkOf, List.map_cons, List.map_nil, Act.put, List.setIfInBounds_toArray, List.set_cons_succ, List.set_cons_zero, Nat.reduceAdd, Nat.zero_add] at hK ⊢
      go_simp
      exact hK _ _ (Ext.refl _) rfl
    | 8, _, ho =>
      obtain rfl := Option.some.inj ho
      intro s W hX hd K hK
      rw [if_pos (wanted_plain rfl)]
      have d18 : (s 7) = .int .i64 (bt : Int) := hd 7 (by decide) (by decide)
      clear hd
      replace hK : ∀ (v : Value) (W' : World), Ext W W' → (v = .int .u8 (bt : Int)) → _ := hK
      simp only [mkOf, List.map_cons, List.map_nil, Act.put, List.setIfInBounds_toArray, List.set_cons_succ, List.set_cons_zero, Nat.reduceAdd, Nat.zero_add] at hK ⊢
      simp only [d18] at hK ⊢
      go_simp
      exact hK _ _ (Ext.refl _) (by rw [HWB.out])
    | 9, _, ho =>
      obtain rfl := Option.some.inj ho
      intro s W hX hd K hK
      rw [if_pos (wanted_plain rfl)]
      have d17 : (s 6) = .int .u8 (k : Int) := hd 6 (by decide) (by decide)
      have d19 : (s 8) = .int .u8 (bt : Int) := hd 8 (by decide) (by decide)
      clear hd
      replace hK : ∀ (v : Value) (W' : World), Ext W W' → ((Ty.sl .u8).holds W' (fun b => v.ownBlock = some b) [v] [byteN k, byteN bt] ∧ ∀ b, v.ownBlock = some b → b < W'.heap.size) → _ := hK
      simp only [mkOf, List.map_cons, List.map_nil, Act.put, List.setIfInBounds_toArray, List.set_cons_succ, List.set_cons_zero, Nat.reduceAdd, Nat.zero_add] at hK ⊢
      simp only [d17, d19] at hK ⊢
      go_simp
      exact hK _ _ ((Ext.refl _).alloc _) ⟨sl_made (t := .u8) rfl rfl rfl (by simp [maxLen]) (AllH.bytes.2 (two_bytes HK.out HBT.out)), by rintro b ⟨⟩; simp⟩
    | 10, _, ho =>
      obtain rfl := Option.some.inj ho
      intro s W hX hd K hK
      rw [if_pos (wanted_plain rfl)]
      have d12 : (s 1) = .slice (some ⟨w.heap.size + 1, 0, none⟩) 32 32 := hd 1 (by decide) (by decide)
      have d15 : (Ty.sl .u8).holds W (fun b => (s 4).ownBlock = some b) [(s 4)] (be 4 n) ∧ ∀ b, (s 4).ownBlock = some b → b < W.heap.size := hd 4 (by decide) (by decide)
      have d20 : (Ty.sl .u8).holds W (fun b => (s 9).ownBlock = some b) [(s 9)] [byteN k, byteN bt] ∧ ∀ b, (s 9).ownBlock = some b → b < W.heap.size := hd 9 (by decide) (by decide)
      clear hd
      replace hK : ∀ (v : Value) (W' : World), Ext W W' → (∃ F, (Ty.sl (.sl .u8)).holds W' F [v] [seed, be 4 n, [byteN k, byteN bt]] ∧ ∀ b, F b → b < W'.heap.size) → _ := hK
      simp only [mkOf, List.map_cons, List.map_nil, Act.put, List.setIfInBounds_toArray, List.set_cons_succ, List.set_cons_zero, Nat.reduceAdd, Nat.zero_add] at hK ⊢
      simp only [d12] at hK ⊢
      have hsd := HSEED.out W hX
      obtain ⟨A1, c1, e1⟩ := sl_form d15.1
      obtain ⟨A2, c2, e2⟩ := sl_form d20.1
      rw [e1] at d15
      rw [e2] at d20
      simp only [e1, e2] at hK ⊢
      go_simp
      exact hK _ _ ((Ext.refl _).alloc _) (three_parts hsd.1 hsd.2 d15.1 d15.2 d20.1 d20.2)
    | 11, _, ho =>
      obtain rfl := Option.some.inj ho
      intro s W hX hd K hK
      rw [if_pos (wanted_plain rfl)]
      have d11 : (s 0) = .agg TB.toArray := hd 0 (by decide) (by decide)
      have d21 : ∃ F, (Ty.sl (.sl .u8)).holds W F [(s 10)] [seed, be 4 n, [byteN k, byteN bt]] ∧ ∀ b, F b → b < W.heap.size := hd 10 (by decide) (by decide)
      clear hd
      replace hK : ∀ (v : Value) (W' : World), Ext W W' → (v = .agg HH.toArray) → _ := hK
      simp only [mkOf, List.map_cons, List.map_nil, Act.put, List.setIfInBounds_toArray, List.set_cons_succ, List.set_cons_zero, Nat.reduceAdd, Nat.zero_add] at hK ⊢
      simp only [d11] at hK ⊢
      obtain ⟨F, h1, h2⟩ := d21
      go_simp
      refine (HFOR.out _ W F h1 h2).mono ?_
      rintro e w' ⟨rfl, hx⟩
      exact hK _ _ hx rfl
    | 12, _, ho =>
      obtain rfl := Option.some.inj ho
      intro s W hX hd K hK
      rw [if_pos (wanted_plain rfl)]
      have d22 : (s 11) = .agg HH.toArray := hd 11 (by decide) (by decide)
      clear hd
      replace hK : ∀ (v : Value) (W' : World), Ext W W' → (v = .agg C.toArray) → _ := hK
      simp only [mkOf, List.map_cons, List.map_nil, Act.put, List.setIfInBounds_toArray, List.set_cons_succ, List.set_cons_zero, Nat.reduceAdd, Nat.zero_add] at hK ⊢
      simp only [d22] at hK ⊢
      go_simp
      refine (HFI.out W).mono ?_
      rintro e w' ⟨rfl, hx⟩
      exact hK _ _ hx rfl
    | i + 13, hi, _ => exact absurd hi (by simp)
  · intro o ho
    obtain rfl := Option.some.inj ho
    intro s W hX hd K hK
    rw [if_pos (wanted_plain rfl)]
    have d11 : (s 0) = .agg TB.toArray := hd 0 (by decide)
    have d12 : (s 1) = .slice (some ⟨w.heap.size + 1, 0, none⟩) 32 32 := hd 1 (by decide)
    have d13 : (s 2) = .int .u32 (n : Int) := hd 2 (by decide)
    have d14 : (s 3) = .int .u64 (n : Int) := hd 3 (by decide)
    have d15 : (Ty.sl .u8).holds W (fun b => (s 4).ownBlock = some b) [(s 4)] (be 4 n) ∧ ∀ b, (s 4).ownBlock = some b → b < W.heap.size := hd 4 (by decide)
    have d16 : (s 5) = .int .i64 (k : Int) := hd 5 (by decide)
    have d17 : (s 6) = .int .u8 (k : Int) := hd 6 (by decide)
    have d18 : (s 7) = .int .i64 (bt : Int) := hd 7 (by decide)
    have d19 : (s 8) = .int .u8 (bt : Int) := hd 8 (by decide)
    have d20 : (Ty.sl .u8).holds W (fun b => (s 9).ownBlock = some b) [(s 9)] [byteN k, byteN bt] ∧ ∀ b, (s 9).ownBlock = some b → b < W.heap.size := hd 9 (by decide)
    have d21 : ∃ F, (Ty.sl (.sl .u8)).holds W F [(s 10)] [seed, be 4 n, [byteN k, byteN bt]] ∧ ∀ b, F b → b < W.heap.size := hd 10 (by decide)
    have d22 : (s 11) = .agg HH.toArray := hd 11 (by decide)
    have d23 : (s 12) = .agg C.toArray := hd 12 (by decide)
    clear hd
    simp only [mkOf, List.map_cons, List.map_nil, Act.put, List.setIfInBounds_toArray, List.set_cons_succ, List.set_cons_zero, Nat.reduceAdd, Nat.zero_add]
    refine wp_store_row 35 (.tmp 10) (.tmp 23) rfl (w.heap.size + 1 + 1) rfl Z C _ (by simpa [Act.eval] using d23) (HB2.out.keep hX (by simp)) (rpiece_size HCL.out) (by rw [HCL.out, HZL.out]) hco ?_
    refine hK _ _ ?_
    have hr := HB2.out.keep hX (by simp)
    have hx9 : Ext w (W.setRow (w.heap.size + 1 + 1) C.toArray) := setRow_grown (HX0.out.trans hX) _ _ (by omega)
    have hc9 := Blk.cells (t := 35) (setRow_at (cs' := C.toArray) hr)
    clear hK hX
    (try simp only [Exit.then])
    go_wp2_with fail
    (try simp only [Exit.inBlock, Exit.then])
    refine bodyPost_ret (results_agg rfl _ _ _ _ _ rfl Try.underlying35 rfl (rpiece_size HCL.out) hc9) rfl ?_
    exact ⟨rfl, hx9⟩
end Go.Proofs.Ytfoomnibfibfnaa

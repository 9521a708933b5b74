/- The walk of lamp's secret. Conditions: the seed has its length, the numbers are in their bounds. -/
import Derived.Test.YtfoomnibfibfnaaLCover
import Derived.Test.YtfoomnibfibfnaaFour0
import Derived.Test.YtfoomnibfibfnaaStab
import Derived.Test.YtfoomnibfibfnaaMono2
set_option linter.unusedVariables false
set_option linter.unusedSimpArgs false
set_option linter.unnecessarySimpa false
namespace Go.Proofs.Ytfoomnibfibfnaa
open Go.RowKit

theorem u8_size1 : (Try.prog.info? 5).map (·.size) = some 1 := by kernel_rfl
theorem u8_zero1 : ((Try.prog.info? 5).bind (·.zero)).isSome = true := by kernel_rfl
theorem wp_bs0 {P : Program} {w : World} {o : Oper} {a : Act} {K : Act → World → Prop} {Q : Exit → Act → World → Prop} (t : TypeId) (ho : o.op = .buildSlice t 0 #[])
    (e : TypeId) (ht : P.underlying t = some (.slice e)) (hi : (P.info? e).map (·.size) = some 1) (hz : ((P.info? e).bind (·.zero)).isSome = true)
    (h : K (a.put o.dst (.slice (some ⟨w.heap.size, 0, none⟩) 0 0)) (w.alloc (.cells #[] e))) : o.wp P a w K Q := by
    obtain ⟨i, hi', hs⟩ := Option.map_eq_some_iff.1 hi
    rw [hi', Option.bind_some] at hz
    obtain ⟨z, hz⟩ := Option.isSome_iff_exists.1 hz
    unfold Oper.wp execOp
    have hrun : (Instr.buildSlice t 0 #[]).run P w = .ok (.slice (some ⟨w.heap.size, 0, none⟩) 0 0) (w.alloc (.cells #[] e)) := by
      unfold Instr.buildSlice
      simp [Sem.run_bind, run_underlying ht, Result.andThen_ok, sizeOf, typeInfo, run_program, hi', Sem.run_pure, hs, zeroValue, hz, newRow, Instr.fill]
      have e : ∀ f : Nat → Value, Array.map f (Array.range 0) = #[] := fun f => Array.eq_empty_of_size_eq_zero (by simp)
      rw [e]
    simp only [ho, List.map_toArray, List.map_nil, Sem.run_bind, hrun, Result.andThen_ok, Sem.run_pure]
    exact h
theorem byteN_val {k : Nat} (h : k < 256) : (((byteN k).toNat : Nat) : Int) = (k : Int) := by
  have : (byteN k).toNat = k := by unfold byteN; simp; omega
  rw [this]
theorem two_bytes {k b : Nat} (hk : k < 32) (hb : b < 2) : [Value.int .u8 (k : Int), Value.int .u8 (b : Int)] = bv [byteN k, byteN b] := by
  simp [bv, byteN_val (show k < 256 by omega), byteN_val (show b < 256 by omega)]
theorem sl_form {w : World} {F : Fp} {v : Value} {l : List UInt8} (h : (Ty.sl .u8).holds w F [v] l) : ∃ A c, v = .slice A l.length c := by
  obtain ⟨A, c, xs, hv, _⟩ := h
  exact ⟨A, c, by simpa using hv⟩
theorem three_parts {w : World} {a b c : Value} {p q r : List UInt8} {F : Fp} {T : TypeId} (ha : (Ty.sl .u8).holds w F [a] p) (hF : ∀ x, F x → x < w.heap.size) (hb : (Ty.sl .u8).holds w (fun x => b.ownBlock = some x) [b] q) (hG : ∀ x, b.ownBlock = some x → x < w.heap.size)
    (hc : (Ty.sl .u8).holds w (fun x => c.ownBlock = some x) [c] r) (hH : ∀ x, c.ownBlock = some x → x < w.heap.size) :
    ∃ F', (Ty.sl (.sl .u8)).holds (w.alloc (.cells #[a, b, c] T)) F' [.slice (some ⟨w.heap.size, 0, none⟩) 3 3] [p, q, r] ∧ ∀ x, F' x → x < (w.alloc (.cells #[a, b, c] T)).heap.size := by
  refine ⟨_, parts_new (w := w) (vs := [a, b, c]) (F := fun x => F x ∨ b.ownBlock = some x ∨ c.ownBlock = some x) rfl rfl (by simp [maxLen]) ?_ ?_, ?_⟩
  · exact ⟨[a], [b, c], rfl, Ty.keep (fun _ _ => rfl) (fun _ h => .inl h) _ ha, [b], [c], rfl, Ty.keep (fun _ _ => rfl) (fun _ h => .inr (.inl h)) _ hb, [c], [], rfl, Ty.keep (fun _ _ => rfl) (fun _ h => .inr (.inr h)) _ hc, rfl⟩
  · rintro x (h | h | h)
    · exact hF x h
    · exact hG x h
    · exact hH x h
  · rintro x ((h | h | h) | rfl)
    · have := hF x h; simp; omega
    · have := hG x h; simp; omega
    · have := hH x h; simp; omega
    · simp
set_option maxRecDepth 100000 in
set_option maxHeartbeats 4000000 in
theorem Secret (seed : List UInt8) (hs : seed.length = 32) (n : Nat) (hn : (Lit.int .u32 (n : Int)).wf = true) (k : Nat) (hk : k < 32) (bt : Nat) (hbt : bt < 2) (w : World) :
    Calls Try.prog 31 #[.agg (keyC seed n).toArray, .int .i64 (k : Int), .int .u8 (bt : Int)] w fun e w' => e = .returned (.agg (bv (secretM seed n k bt)).toArray) ∧ Ext w w' := by
  have hz := piece_zero
  have hzd := digest_zero
  have hzl : (bv (List.replicate 16 0)).length = 16 := by simp
  have hdl : (bv (List.replicate 32 0)).length = 32 := by simp
  generalize bv (List.replicate 16 0) = Z at hz hzl
  generalize bv (List.replicate 32 0) = D at hzd hdl
  have hx0 : Ext w ((w.alloc (.cells (keyC seed n).toArray 28)).alloc (.cells Z.toArray 40)).drew := ((((Ext.refl w).alloc _).alloc _)).trans (Ext.refl _).drew
  have hb0 : Blk ((w.alloc (.cells (keyC seed n).toArray 28)).alloc (.cells Z.toArray 40)).drew w.heap.size 28 (keyC seed n) := ((Blk.new _ _ _).keep ((Ext.refl _).alloc _) (by simp)).keep (Ext.refl _).drew (by simp)
  have hb1 : Blk ((w.alloc (.cells (keyC seed n).toArray 28)).alloc (.cells Z.toArray 40)).drew (w.heap.size + 1) 40 Z := (blk_new_at (w := w.alloc (.cells (keyC seed n).toArray 28)) (by simp) _ _).keep (Ext.refl _).drew (by simp)
  have hseed : ∀ W, Ext ((w.alloc (.cells (keyC seed n).toArray 28)).alloc (.cells Z.toArray 40)).drew W → (Ty.sl .u8).holds W (fun b => b = w.heap.size) [.slice (some ⟨w.heap.size, 0, none⟩) 32 32] seed ∧ ∀ b, b = w.heap.size → b < W.heap.size := by
    intro W hX
    have hb := hb0.keep hX (by simp)
    refine ⟨⟨_, _, bv seed, by rw [hs], by rw [hs]; exact Nat.le_refl _, by simp [maxLen], by simp, fun _ => ⟨_, rfl, rfl, ?_⟩, AllH.bytes.2 rfl⟩, ?_⟩
    · have h := hb.cells.take 32
      have e : (keyC seed n).take 32 = bv seed := by simp [keyC, hs]
      rw [e] at h
      exact h
    · rintro b rfl; exact hb.lt
  have hkn : (keyC seed n)[32]? = some (.int .u32 (n : Int)) := by simp [keyC, hs]
  have hrl : (bv (sha (textM 1 [seed, be 4 n, [byteN k, byteN bt]]))).length = 32 := by rw [bv_length, sha_length]
  have hro := bv_one (sha (textM 1 [seed, be 4 n, [byteN k, byteN bt]]))
  have hcl : (bv (secretM seed n k bt)).length = 16 := by rw [bv_length, secretM_length]
  have hco := bv_one (secretM seed n k bt)
  have htk : (bv (sha (textM 1 [seed, be 4 n, [byteN k, byteN bt]]))).take 16 = bv (secretM seed n k bt) := by simp [secretM, bv, List.map_take]
  generalize hR : bv (sha (textM 1 [seed, be 4 n, [byteN k, byteN bt]])) = R at hrl hro htk
  generalize hC : bv (secretM seed n k bt) = C at hcl hco htk ⊢
  generalize hKC : keyC seed n = KC at hx0 hb0 hb1 hseed hkn ⊢
  have HKEY := Lib.hid hb0
  have HKN := Lib.hid hkn
  have HN := Lib.hid hn
  have HK := Lib.hid hk
  have HWK : Hid (IntKind.u8.wrap (k : Int) = (k : Int)) := Lib.hid (by simp [IntKind.wrap, IntKind.bits, IntKind.signed]; omega)
  have HBT := Lib.hid hbt
  have HSEED := Lib.hid hseed
  have HSL := Lib.hid hs
  have HR := Lib.hid hR
  have HRL := Lib.hid hrl
  have HDL := Lib.hid hdl
  have HZL := Lib.hid hzl
  have HCL := Lib.hid hcl
  have HTK := Lib.hid htk
  have HB1 := Lib.hid hb1
  have HX0 := Lib.hid hx0
  clear hb0 hkn hn hk hbt hseed hs hR hrl hdl hzl hcl htk hb1 hx0 hC hKC
  go_enter Try.func31, Try.ntmps31
  go_wp2_with (first
    | (refine wpList_alloc _ rfl 40 rfl _ hz ?_)
    | fail)
  simp only [World.size_alloc]
  refine stab_store Ext ext_refl ext_trans [[0], [0, 1], [2], [3], [3, 4], [3, 4, 5], [2, 3, 4, 5, 6], [7], [7, 8], [9], [7, 8, 9, 10], [0, 1, 2, 3, 4, 5, 6, 7, 8, 9, 10, 11], [0, 1, 2, 3, 4, 5, 6, 7, 8, 9, 10, 11, 12], [13], [0, 1, 2, 3, 4, 5, 6, 7, 8, 9, 10, 11, 12, 13, 14]] (fun i v wv => match i with | 0 => v = .pointer (some ⟨w.heap.size, 0, none⟩) | 1 => v = .slice (some ⟨w.heap.size, 0, none⟩) 32 32 | 2 => OwnB wv v [] ∧ ∃ b, v = .slice (some b) 0 0 | 3 => v = .pointer (some ⟨w.heap.size, 32, none⟩) | 4 => v = .int .u32 (n : Int) | 5 => (Ty.sl (.nat .u32)).holds wv (fun b => v.ownBlock = some b) [v] [n] ∧ ∀ b, v.ownBlock = some b → b < wv.heap.size | 6 => (Ty.sl .u8).holds wv (fun b => v.ownBlock = some b) [v] (be 4 n) ∧ ∀ b, v.ownBlock = some b → b < wv.heap.size | 7 => v = .int .i64 (k : Int) | 8 => v = .int .u8 (k : Int) | 9 => v = .int .u8 (bt : Int) | 10 => (Ty.sl .u8).holds wv (fun b => v.ownBlock = some b) [v] [byteN k, byteN bt] ∧ ∀ b, v.ownBlock = some b → b < wv.heap.size | 11 => ∃ F, (Ty.sl (.sl .u8)).holds wv F [v] [seed, be 4 n, [byteN k, byteN bt]] ∧ ∀ b, F b → b < wv.heap.size | 12 => v = .agg R.toArray | 13 => ∃ g, v = .pointer (some ⟨g, 0, none⟩) ∧ w.heap.size + 2 ≤ g ∧ Blk wv g 31 D | _ => True) (by kernel_rfl) (by kernel_rfl) (by kernel_rfl) (by kernel_rfl) (by simp) ?_ ?_ ?_
  · intro i v w1 w2 h hx
    match i, h with
    | 0, h => exact h
    | 1, h => exact h
    | 2, h =>
      replace h : OwnB w1 v [] ∧ ∃ b, v = .slice (some b) 0 0 := h
      show OwnB w2 v [] ∧ ∃ b, v = .slice (some b) 0 0
      obtain ⟨h1, h2⟩ := h
      exact ⟨h1.ext hx, h2⟩
    | 3, h => exact h
    | 4, h => exact h
    | 5, h =>
      replace h : (Ty.sl (.nat .u32)).holds w1 (fun b => v.ownBlock = some b) [v] [n] ∧ ∀ b, v.ownBlock = some b → b < w1.heap.size := h
      show (Ty.sl (.nat .u32)).holds w2 (fun b => v.ownBlock = some b) [v] [n] ∧ ∀ b, v.ownBlock = some b → b < w2.heap.size
      obtain ⟨h1, h2⟩ := h
      exact ⟨hx.holds h2 h1, fun b hb => Nat.lt_of_lt_of_le (h2 b hb) hx.size⟩
    | 6, h =>
      replace h : (Ty.sl .u8).holds w1 (fun b => v.ownBlock = some b) [v] (be 4 n) ∧ ∀ b, v.ownBlock = some b → b < w1.heap.size := h
      show (Ty.sl .u8).holds w2 (fun b => v.ownBlock = some b) [v] (be 4 n) ∧ ∀ b, v.ownBlock = some b → b < w2.heap.size
      obtain ⟨h1, h2⟩ := h
      exact ⟨hx.holds h2 h1, fun b hb => Nat.lt_of_lt_of_le (h2 b hb) hx.size⟩
    | 7, h => exact h
    | 8, h => exact h
    | 9, h => exact h
    | 10, h =>
      replace h : (Ty.sl .u8).holds w1 (fun b => v.ownBlock = some b) [v] [byteN k, byteN bt] ∧ ∀ b, v.ownBlock = some b → b < w1.heap.size := h
      show (Ty.sl .u8).holds w2 (fun b => v.ownBlock = some b) [v] [byteN k, byteN bt] ∧ ∀ b, v.ownBlock = some b → b < w2.heap.size
      obtain ⟨h1, h2⟩ := h
      exact ⟨hx.holds h2 h1, fun b hb => Nat.lt_of_lt_of_le (h2 b hb) hx.size⟩
    | 11, h =>
      replace h : ∃ F, (Ty.sl (.sl .u8)).holds w1 F [v] [seed, be 4 n, [byteN k, byteN bt]] ∧ ∀ b, F b → b < w1.heap.size := h
      show ∃ F, (Ty.sl (.sl .u8)).holds w2 F [v] [seed, be 4 n, [byteN k, byteN bt]] ∧ ∀ b, F b → b < w2.heap.size
      obtain ⟨F, h1, h2⟩ := h
      exact ⟨F, hx.holds h2 h1, fun b hb => Nat.lt_of_lt_of_le (h2 b hb) hx.size⟩
    | 12, h => exact h
    | 13, h =>
      replace h : ∃ g, v = .pointer (some ⟨g, 0, none⟩) ∧ w.heap.size + 2 ≤ g ∧ Blk w1 g 31 D := h
      show ∃ g, v = .pointer (some ⟨g, 0, none⟩) ∧ w.heap.size + 2 ≤ g ∧ Blk w2 g 31 D
      obtain ⟨g, h1, h2, h3⟩ := h
      exact ⟨g, h1, h2, h3.keep hx (by simp)⟩
    | i + 14, h => trivial
  · intro i hi o ho
    match i, hi, ho with
    | 0, _, ho =>
      obtain rfl := Option.some.inj ho
      intro s W hX hd K hK
      rw [if_pos (wanted_plain rfl)]
      clear hd
      replace hK : ∀ (v : Value) (W' : World), Ext W W' → (v = .pointer (some ⟨w.heap.size, 0, none⟩)) → _ := hK
      simp only [mkOf, List.map_cons, List.map_nil, Act.put, List.setIfInBounds_toArray, List.set_cons_succ, List.set_cons_zero, Nat.reduceAdd, Nat.zero_add] at hK ⊢
      go_simp
      exact hK _ _ (Ext.refl _) rfl
    | 1, _, ho =>
      obtain rfl := Option.some.inj ho
      intro s W hX hd K hK
      rw [if_pos (wanted_plain rfl)]
      have d8 : (s 0) = .pointer (some ⟨w.heap.size, 0, none⟩) := hd 0 (by decide) (by decide)
      clear hd
      replace hK : ∀ (v : Value) (W' : World), Ext W W' → (v = .slice (some ⟨w.heap.size, 0, none⟩) 32 32) → _ := hK
      simp only [mkOf, List.map_cons, List.map_nil, Act.put, List.setIfInBounds_toArray, List.set_cons_succ, List.set_cons_zero, Nat.reduceAdd, Nat.zero_add] at hK ⊢
      simp only [d8] at hK ⊢
      go_simp
      exact hK _ _ (Ext.refl _) rfl
    | 2, _, ho =>
      obtain rfl := Option.some.inj ho
      intro s W hX hd K hK
      rw [if_pos (wanted_plain rfl)]
      clear hd
      replace hK : ∀ (v : Value) (W' : World), Ext W W' → (OwnB W' v [] ∧ ∃ b, v = .slice (some b) 0 0) → _ := hK
      simp only [mkOf, List.map_cons, List.map_nil, Act.put, List.setIfInBounds_toArray, List.set_cons_succ, List.set_cons_zero, Nat.reduceAdd, Nat.zero_add] at hK ⊢
      refine wp_bs0 56 rfl 5 Try.underlying56 u8_size1 u8_zero1 ?_
      exact hK _ _ ((Ext.refl _).alloc _) ⟨own_empty rfl, ⟨_, rfl⟩⟩
    | 3, _, ho =>
      obtain rfl := Option.some.inj ho
      intro s W hX hd K hK
      rw [if_pos (wanted_plain rfl)]
      clear hd
      replace hK : ∀ (v : Value) (W' : World), Ext W W' → (v = .pointer (some ⟨w.heap.size, 32, none⟩)) → _ := hK
      simp only [mkOf, List.map_cons, List.map_nil, Act.put, List.setIfInBounds_toArray, List.set_cons_succ, List.set_cons_zero, Nat.reduceAdd, Nat.zero_add] at hK ⊢
      go_simp
      exact hK _ _ (Ext.refl _) rfl
    | 4, _, ho =>
      obtain rfl := Option.some.inj ho
      intro s W hX hd K hK
      rw [if_pos (wanted_plain rfl)]
      have d11 : (s 3) = .pointer (some ⟨w.heap.size, 32, none⟩) := hd 3 (by decide) (by decide)
      clear hd
      replace hK : ∀ (v : Value) (W' : World), Ext W W' → (v = .int .u32 (n : Int)) → _ := hK
      simp only [mkOf, List.map_cons, List.map_nil, Act.put, List.setIfInBounds_toArray, List.set_cons_succ, List.set_cons_zero, Nat.reduceAdd, Nat.zero_add] at hK ⊢
      simp only [d11] at hK ⊢
      have c32 := (HKEY.out.keep hX (by simp)).cell 32
      rw [HKN.out] at c32
      go_simp
      exact hK _ _ (Ext.refl _) rfl
    | 5, _, ho =>
      obtain rfl := Option.some.inj ho
      intro s W hX hd K hK
      rw [if_pos (wanted_plain rfl)]
      have d12 : (s 4) = .int .u32 (n : Int) := hd 4 (by decide) (by decide)
      clear hd
      replace hK : ∀ (v : Value) (W' : World), Ext W W' → ((Ty.sl (.nat .u32)).holds W' (fun b => v.ownBlock = some b) [v] [n] ∧ ∀ b, v.ownBlock = some b → b < W'.heap.size) → _ := hK
      simp only [mkOf, List.map_cons, List.map_nil, Act.put, List.setIfInBounds_toArray, List.set_cons_succ, List.set_cons_zero, Nat.reduceAdd, Nat.zero_add] at hK ⊢
      simp only [d12] at hK ⊢
      go_simp
      exact hK _ _ ((Ext.refl _).alloc _) ⟨sl_made (t := .nat .u32) rfl rfl rfl (by simp [maxLen]) (one_nat HN.out), by rintro b ⟨⟩; simp⟩
    | 6, _, ho =>
      obtain rfl := Option.some.inj ho
      intro s W hX hd K hK
      rw [if_pos (wanted_plain rfl)]
      have d10 : OwnB W (s 2) [] ∧ ∃ b, (s 2) = .slice (some b) 0 0 := hd 2 (by decide) (by decide)
      have d13 : (Ty.sl (.nat .u32)).holds W (fun b => (s 5).ownBlock = some b) [(s 5)] [n] ∧ ∀ b, (s 5).ownBlock = some b → b < W.heap.size := hd 5 (by decide) (by decide)
      clear hd
      replace hK : ∀ (v : Value) (W' : World), Ext W W' → ((Ty.sl .u8).holds W' (fun b => v.ownBlock = some b) [v] (be 4 n) ∧ ∀ b, v.ownBlock = some b → b < W'.heap.size) → _ := hK
      simp only [mkOf, List.map_cons, List.map_nil, Act.put, List.setIfInBounds_toArray, List.set_cons_succ, List.set_cons_zero, Nat.reduceAdd, Nat.zero_add] at hK ⊢
      obtain ⟨ho, b, hb⟩ := d10
      rw [hb] at ho
      simp only [hb] at hK ⊢
      go_simp
      refine (four0 b _ n W _ ho d13.1 d13.2).mono ?_
      rintro e w' ⟨v, rfl, hov, hx, _⟩
      exact hK _ _ hx ⟨hov.holds, hov.lt⟩
    | 7, _, ho =>
      obtain rfl := Option.some.inj ho
      intro s W hX hd K hK
      rw [if_pos (wanted_plain rfl)]
      clear hd
      replace hK : ∀ (v : Value) (W' : World), Ext W W' → (v = .int .i64 (k : Int)) → _ := hK
      simp only [mkOf, List.map_cons, List.map_nil, Act.put, List.setIfInBounds_toArray, List.set_cons_succ, List.set_cons_zero, Nat.reduceAdd, Nat.zero_add] at hK ⊢
      go_simp
      exact hK _ _ (Ext.refl _) rfl
    | 8, _, ho =>
      obtain rfl := Option.some.inj ho
      intro s W hX hd K hK
      rw [if_pos (wanted_plain rfl)]
      have d15 : (s 7) = .int .i64 (k : Int) := hd 7 (by decide) (by decide)
      clear hd
      replace hK : ∀ (v : Value) (W' : World), Ext W W' → (v = .int .u8 (k : Int)) → _ := hK
      simp only [mkOf, List.map_cons, List.map_nil, Act.put, List.setIfInBounds_toArray, List.set_cons_succ, List.set_cons_zero, Nat.reduceAdd, Nat.zero_add] at hK ⊢
      simp only [d15] at hK ⊢
      go_simp
      exact hK _ _ (Ext.refl _) (by rw [HWK.out])
    | 9, _, ho =>
      obtain rfl := Option.some.inj ho
      intro s W hX hd K hK
      rw [if_pos (wanted_plain rfl)]
      clear hd
      replace hK : ∀ (v : Value) (W' : World), Ext W W' → (v = .int .u8 (bt : Int)) → _ := hK
      simp only [mkOf, List.map_cons, List.map_nil, Act.put, List.setIfInBounds_toArray, List.set_cons_succ, List.set_cons_zero, Nat.reduceAdd, Nat.zero_add] at hK ⊢
      go_simp
      exact hK _ _ (Ext.refl _) rfl
    | 10, _, ho =>
      obtain rfl := Option.some.inj ho
      intro s W hX hd K hK
      rw [if_pos (wanted_plain rfl)]
      have d16 : (s 8) = .int .u8 (k : Int) := hd 8 (by decide) (by decide)
      have d17 : (s 9) = .int .u8 (bt : Int) := hd 9 (by decide) (by decide)
      clear hd
      replace hK : ∀ (v : Value) (W' : World), Ext W W' → ((Ty.sl .u8).holds W' (fun b => v.ownBlock = some b) [v] [byteN k, byteN bt] ∧ ∀ b, v.ownBlock = some b → b < W'.heap.size) → _ := hK
      simp only [mkOf, List.map_cons, List.map_nil, Act.put, List.setIfInBounds_toArray, List.set_cons_succ, List.set_cons_zero, Nat.reduceAdd, Nat.zero_add] at hK ⊢
      simp only [d16, d17] at hK ⊢
      go_simp
      exact hK _ _ ((Ext.refl _).alloc _) ⟨sl_made (t := .u8) rfl rfl rfl (by simp [maxLen]) (AllH.bytes.2 (two_bytes HK.out HBT.out)), by rintro b ⟨⟩; simp⟩
    | 11, _, ho =>
      obtain rfl := Option.some.inj ho
      intro s W hX hd K hK
      rw [if_pos (wanted_plain rfl)]
      have d9 : (s 1) = .slice (some ⟨w.heap.size, 0, none⟩) 32 32 := hd 1 (by decide) (by decide)
      have d14 : (Ty.sl .u8).holds W (fun b => (s 6).ownBlock = some b) [(s 6)] (be 4 n) ∧ ∀ b, (s 6).ownBlock = some b → b < W.heap.size := hd 6 (by decide) (by decide)
      have d18 : (Ty.sl .u8).holds W (fun b => (s 10).ownBlock = some b) [(s 10)] [byteN k, byteN bt] ∧ ∀ b, (s 10).ownBlock = some b → b < W.heap.size := hd 10 (by decide) (by decide)
      clear hd
      replace hK : ∀ (v : Value) (W' : World), Ext W W' → (∃ F, (Ty.sl (.sl .u8)).holds W' F [v] [seed, be 4 n, [byteN k, byteN bt]] ∧ ∀ b, F b → b < W'.heap.size) → _ := hK
      simp only [mkOf, List.map_cons, List.map_nil, Act.put, List.setIfInBounds_toArray, List.set_cons_succ, List.set_cons_zero, Nat.reduceAdd, Nat.zero_add] at hK ⊢
      simp only [d9] at hK ⊢
      have hsd := HSEED.out W hX
      obtain ⟨A1, c1, e1⟩ := sl_form d14.1
      obtain ⟨A2, c2, e2⟩ := sl_form d18.1
      rw [e1] at d14
      rw [e2] at d18
      simp only [e1, e2] at hK ⊢
      go_simp
      exact hK _ _ ((Ext.refl _).alloc _) (three_parts hsd.1 hsd.2 d14.1 d14.2 d18.1 d18.2)
    | 12, _, ho =>
      obtain rfl := Option.some.inj ho
      intro s W hX hd K hK
      rw [if_pos (wanted_plain rfl)]
      have d19 : ∃ F, (Ty.sl (.sl .u8)).holds W F [(s 11)] [seed, be 4 n, [byteN k, byteN bt]] ∧ ∀ b, F b → b < W.heap.size := hd 11 (by decide) (by decide)
      clear hd
      replace hK : ∀ (v : Value) (W' : World), Ext W W' → (v = .agg R.toArray) → _ := hK
      simp only [mkOf, List.map_cons, List.map_nil, Act.put, List.setIfInBounds_toArray, List.set_cons_succ, List.set_cons_zero, Nat.reduceAdd, Nat.zero_add] at hK ⊢
      obtain ⟨F, h1, h2⟩ := d19
      go_simp
      refine (For_i 1 1 rfl _ _ W F h1 h2 (by simp [blob, be_length, HSL.out])).mono ?_
      rintro e w' ⟨rfl, hx⟩
      exact hK _ _ hx (by rw [HR.out])
    | 13, _, ho =>
      obtain rfl := Option.some.inj ho
      intro s W hX hd K hK
      rw [if_pos (wanted_plain rfl)]
      clear hd
      replace hK : ∀ (v : Value) (W' : World), Ext W W' → (∃ g, v = .pointer (some ⟨g, 0, none⟩) ∧ w.heap.size + 2 ≤ g ∧ Blk W' g 31 D) → _ := hK
      simp only [mkOf, List.map_cons, List.map_nil, Act.put, List.setIfInBounds_toArray, List.set_cons_succ, List.set_cons_zero, Nat.reduceAdd, Nat.zero_add] at hK ⊢
      refine wp_alloc_agg 31 rfl D hzd ?_
      exact hK _ _ ((Ext.refl _).alloc _) ⟨_, rfl, by have := hX.size; simp at this; omega, Blk.new _ _ _⟩
    | i + 14, hi, _ => exact absurd hi (by simp)
  · intro o ho
    obtain rfl := Option.some.inj ho
    intro s W hX hd K hK
    rw [if_pos (wanted_plain rfl)]
    have d8 : (s 0) = .pointer (some ⟨w.heap.size, 0, none⟩) := hd 0 (by decide)
    have d9 : (s 1) = .slice (some ⟨w.heap.size, 0, none⟩) 32 32 := hd 1 (by decide)
    have d10 : OwnB W (s 2) [] ∧ ∃ b, (s 2) = .slice (some b) 0 0 := hd 2 (by decide)
    have d11 : (s 3) = .pointer (some ⟨w.heap.size, 32, none⟩) := hd 3 (by decide)
    have d12 : (s 4) = .int .u32 (n : Int) := hd 4 (by decide)
    have d13 : (Ty.sl (.nat .u32)).holds W (fun b => (s 5).ownBlock = some b) [(s 5)] [n] ∧ ∀ b, (s 5).ownBlock = some b → b < W.heap.size := hd 5 (by decide)
    have d14 : (Ty.sl .u8).holds W (fun b => (s 6).ownBlock = some b) [(s 6)] (be 4 n) ∧ ∀ b, (s 6).ownBlock = some b → b < W.heap.size := hd 6 (by decide)
    have d15 : (s 7) = .int .i64 (k : Int) := hd 7 (by decide)
    have d16 : (s 8) = .int .u8 (k : Int) := hd 8 (by decide)
    have d17 : (s 9) = .int .u8 (bt : Int) := hd 9 (by decide)
    have d18 : (Ty.sl .u8).holds W (fun b => (s 10).ownBlock = some b) [(s 10)] [byteN k, byteN bt] ∧ ∀ b, (s 10).ownBlock = some b → b < W.heap.size := hd 10 (by decide)
    have d19 : ∃ F, (Ty.sl (.sl .u8)).holds W F [(s 11)] [seed, be 4 n, [byteN k, byteN bt]] ∧ ∀ b, F b → b < W.heap.size := hd 11 (by decide)
    have d20 : (s 12) = .agg R.toArray := hd 12 (by decide)
    have d7 : ∃ g, (s 13) = .pointer (some ⟨g, 0, none⟩) ∧ w.heap.size + 2 ≤ g ∧ Blk W g 31 D := hd 13 (by decide)
    clear hd
    simp only [mkOf, List.map_cons, List.map_nil, Act.put, List.setIfInBounds_toArray, List.set_cons_succ, List.set_cons_zero, Nat.reduceAdd, Nat.zero_add]
    obtain ⟨g, hg, hgb, hB⟩ := d7
    refine wp_store_row 31 (.tmp 7) (.tmp 20) rfl g (by simpa [Act.eval] using hg) D R _ (by simpa [Act.eval] using d20) hB (digest_size HRL.out) (by rw [HRL.out, HDL.out]) hro ?_
    refine hK _ _ ?_
    have hcs : Cells (W.setRow g R.toArray) ⟨g, 0, none⟩ C := by rw [← HTK.out]; exact (Blk.cells (t := 31) (setRow_at hB)).take 16
    have hb1 : Blk (W.setRow g R.toArray) (w.heap.size + 1) 40 Z := (HB1.out.keep hX (by simp)).keep (setRow_only _) (by simp; omega)
    have hxw : Ext w (W.setRow g R.toArray) := setRow_grown (HX0.out.trans hX) _ _ (by omega)
    have hat := at_any (P := Try.prog) 40 5 16 (some ⟨g, 0, none⟩) 16 32 Try.underlying40 (Nat.le_refl 16)
    have HB2 := Lib.hid hb1
    have HXW := Lib.hid hxw
    clear hb1 hxw hK hX hB
    generalize W.setRow g R.toArray = V at *
    (try simp only [Exit.then])
    go_wp2_with (first
      | (refine wpList_load_agg _ rfl 40 (.tmp 22) rfl _ rfl C _ Try.underlying40 rfl (piece_size HCL.out) hcs ?_)
      | (refine wpList_store_row _ rfl 40 (.tmp 6) (.tmp 23) rfl (w.heap.size + 1) rfl Z C _ rfl HB2.out (piece_size HCL.out) (by rw [HCL.out, HZL.out]) hco ?_)
      | fail)
    have hc : Cells (V.setRow (w.heap.size + 1) C.toArray) ⟨w.heap.size + 1, 0, none⟩ C := Blk.cells (t := 40) (setRow_at HB2.out)
    (try simp only [Exit.inBlock, Exit.then])
    refine bodyPost_ret (results_agg rfl _ _ _ _ _ rfl Try.underlying40 rfl (piece_size HCL.out) hc) rfl ?_
    exact ⟨rfl, setRow_grown HXW.out _ _ (by omega)⟩
end Go.Proofs.Ytfoomnibfibfnaa

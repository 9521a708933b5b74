/- Walks and plain laws, put together in build order. Conditions: what each of them names. -/
import Derived.Test.YtfoomnibfibfnaaW1798c18b5c
set_option linter.unusedVariables false
set_option linter.unusedSimpArgs false
set_option linter.unnecessarySimpa false
namespace Go.Proofs.Ytfoomnibfibfnaa
section
open Go.RowKit

theorem u8_size1 : (Try.prog.info? 5).map (·.size) = some 1 := by kernel_rfl
theorem u8_zero1 : ((Try.prog.info? 5).bind (·.zero)).isSome = true := by kernel_rfl
theorem wp_bs0 {P : Program} {w : World} {o : Oper} {a : Act} {K : Act → World → Prop} {Q : Exit → Act → World → Prop} (t : TypeId) (ho : o.op = .buildSlice t 0 #[])
    (e : TypeId) (ht : P.underlying t = some (.slice e)) (hi : (P.info? e).map (·.size) = some 1) (hz : ((P.info? e).bind (·.zero)).isSome = true)
    (h : K (a.put o.dst (.slice (some ⟨w.heap.size, 0, none⟩) 0 0)) (w.alloc (.cells #[] e))) : o.wp P a w K Q := by
    obtain ⟨i, hi', hs⟩ := Option.map_eq_some_iff.1 hi
    rw [hi', Option.bind_some] at hz
    obtain ⟨z, hz⟩ := Option.isSome_iff_exists.1 hz
    unfold Oper.wp execOp
    have hrun : (Instr.buildSlice t 0 #[]).run P w = .ok (.slice (some ⟨w.heap.size, 0, none⟩) 0 0) (w.alloc (.cells #[] e)) := by
      unfold Instr.buildSlice
      simp [Sem.run_bind, run_underlying ht, Result.andThen_ok, sizeOf, typeInfo, run_program, hi', Sem.run_pure, hs, zeroValue, hz, newRow, Instr.fill]
      have e : ∀ f : Nat → Value, Array.map f (Array.range 0) = #[] := fun f => Array.eq_empty_of_size_eq_zero (by simp)
      rw [e]
    simp only [ho, List.map_toArray, List.map_nil, Sem.run_bind, hrun, Result.andThen_ok, Sem.run_pure]
    exact h
theorem byteN_val {k : Nat} (h : k < 256) : (((byteN k).toNat : Nat) : Int) = (k : Int) := by
  have : (byteN k).toNat = k := by unfold byteN; simp; omega
  rw [this]
theorem two_bytes {k b : Nat} (hk : k < 32) (hb : b < 2) : [Value.int .u8 (k : Int), Value.int .u8 (b : Int)] = bv [byteN k, byteN b] := by
  simp [bv, byteN_val (show k < 256 by omega), byteN_val (show b < 256 by omega)]
theorem sl_form {w : World} {F : Fp} {v : Value} {l : List UInt8} (h : (Ty.sl .u8).holds w F [v] l) : ∃ A c, v = .slice A l.length c := by
  obtain ⟨A, c, xs, hv, _⟩ := h
  exact ⟨A, c, by simpa using hv⟩
theorem three_parts {w : World} {a b c : Value} {p q r : List UInt8} {F : Fp} {T : TypeId} (ha : (Ty.sl .u8).holds w F [a] p) (hF : ∀ x, F x → x < w.heap.size) (hb : (Ty.sl .u8).holds w (fun x => b.ownBlock = some x) [b] q) (hG : ∀ x, b.ownBlock = some x → x < w.heap.size)
    (hc : (Ty.sl .u8).holds w (fun x => c.ownBlock = some x) [c] r) (hH : ∀ x, c.ownBlock = some x → x < w.heap.size) :
    ∃ F', (Ty.sl (.sl .u8)).holds (w.alloc (.cells #[a, b, c] T)) F' [.slice (some ⟨w.heap.size, 0, none⟩) 3 3] [p, q, r] ∧ ∀ x, F' x → x < (w.alloc (.cells #[a, b, c] T)).heap.size := by
  refine ⟨_, parts_new (w := w) (vs := [a, b, c]) (F := fun x => F x ∨ b.ownBlock = some x ∨ c.ownBlock = some x) rfl rfl (by simp [maxLen]) ?_ ?_, ?_⟩
  · exact ⟨[a], [b, c], rfl, Ty.keep (fun _ _ => rfl) (fun _ h => .inl h) _ ha, [b], [c], rfl, Ty.keep (fun _ _ => rfl) (fun _ h => .inr (.inl h)) _ hb, [c], [], rfl, Ty.keep (fun _ _ => rfl) (fun _ h => .inr (.inr h)) _ hc, rfl⟩
  · rintro x (h | h | h)
    · exact hF x h
    · exact hG x h
    · exact hH x h
  · rintro x ((h | h | h) | rfl)
    · have := hF x h; simp; omega
    · have := hG x h; simp; omega
    · have := hH x h; simp; omega
    · simp
set_option maxRecDepth 100000 in
set_option maxHeartbeats 4000000 in
theorem Secret (seed : List UInt8) (hs : seed.length = 32) (n : Nat) (hn : (Lit.int .u32 (n : Int)).wf = true) (k : Nat) (hk : k < 32) (bt : Nat) (hbt : bt < 2) (w : World) :
    Calls Try.prog 31 #[.agg (keyC seed n).toArray, .int .i64 (k : Int), .int .u8 (bt : Int)] w fun e w' => e = .returned (.agg (bv (secretM seed n k bt)).toArray) ∧ Ext w w' := by
  have hz := piece_zero
  have hzd := digest_zero
  have hzl : (bv (List.replicate 16 0)).length = 16 := by simp
  have hdl : (bv (List.replicate 32 0)).length = 32 := by simp
  generalize bv (List.replicate 16 0) = Z at hz hzl
  generalize bv (List.replicate 32 0) = D at hzd hdl
  have hx0 : Ext w ((w.alloc (.cells (keyC seed n).toArray 28)).alloc (.cells Z.toArray 40)).drew := ((((Ext.refl w).alloc _).alloc _)).trans (Ext.refl _).drew
  have hb0 : Blk ((w.alloc (.cells (keyC seed n).toArray 28)).alloc (.cells Z.toArray 40)).drew w.heap.size 28 (keyC seed n) := ((Blk.new _ _ _).keep ((Ext.refl _).alloc _) (by simp)).keep (Ext.refl _).drew (by simp)
  have hb1 : Blk ((w.alloc (.cells (keyC seed n).toArray 28)).alloc (.cells Z.toArray 40)).drew (w.heap.size + 1) 40 Z := (blk_new_at (w := w.alloc (.cells (keyC seed n).toArray 28)) (by simp) _ _).keep (Ext.refl _).drew (by simp)
  have hseed : ∀ W, Ext ((w.alloc (.cells (keyC seed n).toArray 28)).alloc (.cells Z.toArray 40)).drew W → (Ty.sl .u8).holds W (fun b => b = w.heap.size) [.slice (some ⟨w.heap.size, 0, none⟩) 32 32] seed ∧ ∀ b, b = w.heap.size → b < W.heap.size := by
    intro W hX
    have hb := hb0.keep hX (by simp)
    refine ⟨⟨_, _, bv seed, by rw [hs], by rw [hs]; exact Nat.le_refl _, by simp [maxLen], by simp, fun _ => ⟨_, rfl, rfl, ?_⟩, AllH.bytes.2 rfl⟩, ?_⟩
    · have h := hb.cells.take 32
      have e : (keyC seed n).take 32 = bv seed := by simp [keyC, hs]
      rw [e] at h
      exact h
    · rintro b rfl; exact hb.lt
  have hkn : (keyC seed n)[32]? = some (.int .u32 (n : Int)) := by simp [keyC, hs]
  have hrl : (bv (sha (textM 1 [seed, be 4 n, [byteN k, byteN bt]]))).length = 32 := by rw [bv_length, sha_length]
  have hro := bv_one (sha (textM 1 [seed, be 4 n, [byteN k, byteN bt]]))
  have hcl : (bv (secretM seed n k bt)).length = 16 := by rw [bv_length, secretM_length]
  have hco := bv_one (secretM seed n k bt)
  have htk : (bv (sha (textM 1 [seed, be 4 n, [byteN k, byteN bt]]))).take 16 = bv (secretM seed n k bt) := by simp [secretM, bv, List.map_take]
  generalize hR : bv (sha (textM 1 [seed, be 4 n, [byteN k, byteN bt]])) = R at hrl hro htk
  generalize hC : bv (secretM seed n k bt) = C at hcl hco htk ⊢
  generalize hKC : keyC seed n = KC at hx0 hb0 hb1 hseed hkn ⊢
  have HKEY := Lib.hid hb0
  have HKN := Lib.hid hkn
  have HN := Lib.hid hn
  have HK := Lib.hid hk
  have HWK : Hid (IntKind.u8.wrap (k : Int) = (k : Int)) := Lib.hid (by simp [IntKind.wrap, IntKind.bits, IntKind.signed]; omega)
  have HBT := Lib.hid hbt
  have HSEED := Lib.hid hseed
  have HSL := Lib.hid hs
  have HR := Lib.hid hR
  have HRL := Lib.hid hrl
  have HDL := Lib.hid hdl
  have HZL := Lib.hid hzl
  have HCL := Lib.hid hcl
  have HTK := Lib.hid htk
  have HB1 := Lib.hid hb1
  have HX0 := Lib.hid hx0
  clear hb0 hkn hn hk hbt hseed hs hR hrl hdl hzl hcl htk hb1 hx0 hC hKC
  go_enter Try.func31, Try.ntmps31
  go_wp2_with (first
    | (refine wpList_alloc _ rfl 40 rfl _ hz ?_)
    | fail)
  simp only [World.size_alloc]
  refine stab_store Ext ext_refl ext_trans [[0], [0, 1], [2], [3], [3, 4], [3, 4, 5], [2, 3, 4, 5, 6], [7], [7, 8], [9], [7, 8, 9, 10], [0, 1, 2, 3, 4, 5, 6, 7, 8, 9, 10, 11], [0, 1, 2, 3, 4, 5, 6, 7, 8, 9, 10, 11, 12], [13], [0, 1, 2, 3, 4, 5, 6, 7, 8, 9, 10, 11, 12, 13, 14]] (fun i v wv => match i with | 0 => v = .pointer (some ⟨w.heap.size, 0, none⟩) | 1 => v = .slice (some ⟨w.heap.size, 0, none⟩) 32 32 | 2 => OwnB wv v [] ∧ ∃ b, v = .slice (some b) 0 0 | 3 => v = .pointer (some ⟨w.heap.size, 32, none⟩) | 4 => v = .int .u32 (n : Int) | 5 => (Ty.sl (.nat .u32)).holds wv (fun b => v.ownBlock = some b) [v] [n] ∧ ∀ b, v.ownBlock = some b → b < wv.heap.size | 6 => (Ty.sl .u8).holds wv (fun b => v.ownBlock = some b) [v] (be 4 n) ∧ ∀ b, v.ownBlock = some b → b < wv.heap.size | 7 => v = .int .i64 (k : Int) | 8 => v = .int .u8 (k : Int) | 9 => v = .int .u8 (bt : Int) | 10 => (Ty.sl .u8).holds wv (fun b => v.ownBlock = some b) [v] [byteN k, byteN bt] ∧ ∀ b, v.ownBlock = some b → b < wv.heap.size | 11 => ∃ F, (Ty.sl (.sl .u8)).holds wv F [v] [seed, be 4 n, [byteN k, byteN bt]] ∧ ∀ b, F b → b < wv.heap.size | 12 => v = .agg R.toArray | 13 => ∃ g, v = .pointer (some ⟨g, 0, none⟩) ∧ w.heap.size + 2 ≤ g ∧ Blk wv g 31 D | _ => True) (by kernel_rfl) (by kernel_rfl) (by kernel_rfl) (by kernel_rfl) (by simp) ?_ ?_ ?_
  · intro i v w1 w2 h hx
    match i, h with
    | 0, h => exact h
    | 1, h => exact h
    | 2, h =>
      replace h : OwnB w1 v [] ∧ ∃ b, v = .slice (some b) 0 0 := h
      show OwnB w2 v [] ∧ ∃ b, v = .slice (some b) 0 0
      obtain ⟨h1, h2⟩ := h
      exact ⟨h1.ext hx, h2⟩
    | 3, h => exact h
    | 4, h => exact h
    | 5, h =>
      replace h : (Ty.sl (.nat .u32)).holds w1 (fun b => v.ownBlock = some b) [v] [n] ∧ ∀ b, v.ownBlock = some b → b < w1.heap.size := h
      show (Ty.sl (.nat .u32)).holds w2 (fun b => v.ownBlock = some b) [v] [n] ∧ ∀ b, v.ownBlock = some b → b < w2.heap.size
      obtain ⟨h1, h2⟩ := h
      exact ⟨hx.holds h2 h1, fun b hb => Nat.lt_of_lt_of_le (h2 b hb) hx.size⟩
    | 6, h =>
      replace h : (Ty.sl .u8).holds w1 (fun b => v.ownBlock = some b) [v] (be 4 n) ∧ ∀ b, v.ownBlock = some b → b < w1.heap.size := h
      show (Ty.sl .u8).holds w2 (fun b => v.ownBlock = some b) [v] (be 4 n) ∧ ∀ b, v.ownBlock = some b → b < w2.heap.size
      obtain ⟨h1, h2⟩ := h
      exact ⟨hx.holds h2 h1, fun b hb => Nat.lt_of_lt_of_le (h2 b hb) hx.size⟩
    | 7, h => exact h
    | 8, h => exact h
    | 9, h => exact h
    | 10, h =>
      replace h : (Ty.sl .u8).holds w1 (fun b => v.ownBlock = some b) [v] [byteN k, byteN bt] ∧ ∀ b, v.ownBlock = some b → b < w1.heap.size := h
      show (Ty.sl .u8).holds w2 (fun b => v.ownBlock = some b) [v] [byteN k, byteN bt] ∧ ∀ b, v.ownBlock = some b → b < w2.heap.size
      obtain ⟨h1, h2⟩ := h
      exact ⟨hx.holds h2 h1, fun b hb => Nat.lt_of_lt_of_le (h2 b hb) hx.size⟩
    | 11, h =>
      replace h : ∃ F, (Ty.sl (.sl .u8)).holds w1 F [v] [seed, be 4 n, [byteN k, byteN bt]] ∧ ∀ b, F b → b < w1.heap.size := h
      show ∃ F, (Ty.sl (.sl .u8)).holds w2 F [v] [seed, be 4 n, [byteN k, byteN bt]] ∧ ∀ b, F b → b < w2.heap.size
      obtain ⟨F, h1, h2⟩ := h
      exact ⟨F, hx.holds h2 h1, fun b hb => Nat.lt_of_lt_of_le (h2 b hb) hx.size⟩
    | 12, h => exact h
    | 13, h =>
      replace h : ∃ g, v = .pointer (some ⟨g, 0, none⟩) ∧ w.heap.size + 2 ≤ g ∧ Blk w1 g 31 D := h
      show ∃ g, v = .pointer (some ⟨g, 0, none⟩) ∧ w.heap.size + 2 ≤ g ∧ Blk w2 g 31 D
      obtain ⟨g, h1, h2, h3⟩ := h
      exact ⟨g, h1, h2, h3.keep hx (by simp)⟩
    | i + 14, h => trivial
  · intro i hi o ho
    match i, hi, ho with
    | 0, _, ho =>
      obtain rfl := Option.some.inj ho
      intro s W hX hd K hK
      rw [if_pos (wanted_plain rfl)]
      clear hd
      replace hK : ∀ (v : Value) (W' : World), Ext W W' → (v = .pointer (some ⟨w.heap.size, 0, none⟩)) → _ := hK
      simp only [mkOf, List.map_cons, List.map_nil, Act.put, List.setIfInBounds_toArray, List.set_cons_succ, List.set_cons_zero, Nat.reduceAdd, Nat.zero_add] at hK ⊢
      go_simp
      exact hK _ _ (Ext.refl _) rfl
    | 1, _, ho =>
      obtain rfl := Option.some.inj ho
      intro s W hX hd K hK
      rw [if_pos (wanted_plain rfl)]
      have d8 : (s 0) = .pointer (some ⟨w.heap.size, 0, none⟩) := hd 0 (by decide) (by decide)
      clear hd
      replace hK : ∀ (v : Value) (W' : World), Ext W W' → (v = .slice (some ⟨w.heap.size, 0, none⟩) 32 32) → _ := hK
      simp only [mkOf, List.map_cons, List.map_nil, Act.put, List.setIfInBounds_toArray, List.set_cons_succ, List.set_cons_zero, Nat.reduceAdd, Nat.zero_add] at hK ⊢
      simp only [d8] at hK ⊢
      go_simp
      exact hK _ _ (Ext.refl _) rfl
    | 2, _, ho =>
      obtain rfl := Option.some.inj ho
      intro s W hX hd K hK
      rw [if_pos (wanted_plain rfl)]
      clear hd
      replace hK : ∀ (v : Value) (W' : World), Ext W W' → (OwnB W' v [] ∧ ∃ b, v = .slice (some b) 0 0) → _ := hK
      simp only [mkOf, List.map_cons, List.map_nil, Act.put, List.setIfInBounds_toArray, List.set_cons_succ, List.set_cons_zero, Nat.reduceAdd, Nat.zero_add] at hK ⊢
      refine wp_bs0 56 rfl 5 Try.underlying56 u8_size1 u8_zero1 ?_
      exact hK _ _ ((Ext.refl _).alloc _) ⟨own_empty rfl, ⟨_, rfl⟩⟩
    | 3, _, ho =>
      obtain rfl := Option.some.inj ho
      intro s W hX hd K hK
      rw [if_pos (wanted_plain rfl)]
      clear hd
      replace hK : ∀ (v : Value) (W' : World), Ext W W' → (v = .pointer (some ⟨w.heap.size, 32, none⟩)) → _ := hK
      simp only [mkOf, List.map_cons, List.map_nil, Act.put, List.setIfInBounds_toArray, List.set_cons_succ, List.set_cons_zero, Nat.reduceAdd, Nat.zero_add] at hK ⊢
      go_simp
      exact hK _ _ (Ext.refl _) rfl
    | 4, _, ho =>
      obtain rfl := Option.some.inj ho
      intro s W hX hd K hK
      rw [if_pos (wanted_plain rfl)]
      have d11 : (s 3) = .pointer (some ⟨w.heap.size, 32, none⟩) := hd 3 (by decide) (by decide)
      clear hd
      replace hK : ∀ (v : Value) (W' : World), Ext W W' → (v = .int .u32 (n : Int)) → _ := hK
      simp only [mkOf, List.map_cons, List.map_nil, Act.put, List.setIfInBounds_toArray, List.set_cons_succ, List.set_cons_zero, Nat.reduceAdd, Nat.zero_add] at hK ⊢
      simp only [d11] at hK ⊢
      have c32 := (HKEY.out.keep hX (by simp)).cell 32
      rw [HKN.out] at c32
      go_simp
      exact hK _ _ (Ext.refl _) rfl
    | 5, _, ho =>
      obtain rfl := Option.some.inj ho
      intro s W hX hd K hK
      rw [if_pos (wanted_plain rfl)]
      have d12 : (s 4) = .int .u32 (n : Int) := hd 4 (by decide) (by decide)
      clear hd
      replace hK : ∀ (v : Value) (W' : World), Ext W W' → ((Ty.sl (.nat .u32)).holds W' (fun b => v.ownBlock = some b) [v] [n] ∧ ∀ b, v.ownBlock = some b → b < W'.heap.size) → _ := hK
      simp only [mkOf, List.map_cons, List.map_nil, Act.put, List.setIfInBounds_toArray, List.set_cons_succ, List.set_cons_zero, Nat.reduceAdd, Nat.zero_add] at hK ⊢
      simp only [d12] at hK ⊢
      go_simp
      exact hK _ _ ((Ext.refl _).alloc _) ⟨sl_made (t := .nat .u32) rfl rfl rfl (by simp [maxLen]) (one_nat HN.out), by rintro b ⟨⟩; simp⟩
    | 6, _, ho =>
      obtain rfl := Option.some.inj ho
      intro s W hX hd K hK
      rw [if_pos (wanted_plain rfl)]
      have d10 : OwnB W (s 2) [] ∧ ∃ b, (s 2) = .slice (some b) 0 0 := hd 2 (by decide) (by decide)
      have d13 : (Ty.sl (.nat .u32)).holds W (fun b => (s 5).ownBlock = some b) [(s 5)] [n] ∧ ∀ b, (s 5).ownBlock = some b → b < W.heap.size := hd 5 (by decide) (by decide)
      clear hd
      replace hK : ∀ (v : Value) (W' : World), Ext W W' → ((Ty.sl .u8).holds W' (fun b => v.ownBlock = some b) [v] (be 4 n) ∧ ∀ b, v.ownBlock = some b → b < W'.heap.size) → _ := hK
      simp only [mkOf, List.map_cons, List.map_nil, Act.put, List.setIfInBounds_toArray, List.set_cons_succ, List.set_cons_zero, Nat.reduceAdd, Nat.zero_add] at hK ⊢
      obtain ⟨ho, b, hb⟩ := d10
      rw [hb] at ho
      simp only [hb] at hK ⊢
      go_simp
      refine (four0 b _ n W _ ho d13.1 d13.2).mono ?_
      rintro e w' ⟨v, rfl, hov, hx, _⟩
      exact hK _ _ hx ⟨hov.holds, hov.lt⟩
    | 7, _, ho =>
      obtain rfl := Option.some.inj ho
      intro s W hX hd K hK
      rw [if_pos (wanted_plain rfl)]
      clear hd
      replace hK : ∀ (v : Value) (W' : World), Ext W W' → (v = .int .i64 (k : Int)) → _ := hK
      simp only [mkOf, List.map_cons, List.map_nil, Act.put, List.setIfInBounds_toArray, List.set_cons_succ, List.set_cons_zero, Nat.reduceAdd, Nat.zero_add] at hK ⊢
      go_simp
      exact hK _ _ (Ext.refl _) rfl
    | 8, _, ho =>
      obtain rfl := Option.some.inj ho
      intro s W hX hd K hK
      rw [if_pos (wanted_plain rfl)]
      have d15 : (s 7) = .int .i64 (k : Int) := hd 7 (by decide) (by decide)
      clear hd
      replace hK : ∀ (v : Value) (W' : World), Ext W W' → (v = .int .u8 (k : Int)) → _ := hK
      simp only [mkOf, List.map_cons, List.map_nil, Act.put, List.setIfInBounds_toArray, List.set_cons_succ, List.set_cons_zero, Nat.reduceAdd, Nat.zero_add] at hK ⊢
      simp only [d15] at hK ⊢
      go_simp
      exact hK _ _ (Ext.refl _) (by rw [HWK.out])
    | 9, _, ho =>
      obtain rfl := Option.some.inj ho
      intro s W hX hd K hK
      rw [if_pos (wanted_plain rfl)]
      clear hd
      replace hK : ∀ (v : Value) (W' : World), Ext W W' → (v = .int .u8 (bt : Int)) → _ := hK
      simp only [mkOf, List.map_cons, List.map_nil, Act.put, List.setIfInBounds_toArray, List.set_cons_succ, List.set_cons_zero, Nat.reduceAdd, Nat.zero_add] at hK ⊢
      go_simp
      exact hK _ _ (Ext.refl _) rfl
    | 10, _, ho =>
      obtain rfl := Option.some.inj ho
      intro s W hX hd K hK
      rw [if_pos (wanted_plain rfl)]
      have d16 : (s 8) = .int .u8 (k : Int) := hd 8 (by decide) (by decide)
      have d17 : (s 9) = .int .u8 (bt : Int) := hd 9 (by decide) (by decide)
      clear hd
      replace hK : ∀ (v : Value) (W' : World), Ext W W' → ((Ty.sl .u8).holds W' (fun b => v.ownBlock = some b) [v] [byteN k, byteN bt] ∧ ∀ b, v.ownBlock = some b → b < W'.heap.size) → _ := hK
      simp only [mkOf, List.map_cons, List.map_nil, Act.put, List.setIfInBounds_toArray, List.set_cons_succ, List.set_cons_zero, Nat.reduceAdd, Nat.zero_add] at hK ⊢
      simp only [d16, d17] at hK ⊢
      go_simp
      exact hK _ _ ((Ext.refl _).alloc _) ⟨sl_made (t := .u8) rfl rfl rfl (by simp [maxLen]) (AllH.bytes.2 (two_bytes HK.out HBT.out)), by rintro b ⟨⟩; simp⟩
    | 11, _, ho =>
      obtain rfl := Option.some.inj ho
      intro s W hX hd K hK
      rw [if_pos (wanted_plain rfl)]
      have d9 : (s 1) = .slice (some ⟨w.heap.size, 0, none⟩) 32 32 := hd 1 (by decide) (by decide)
      have d14 : (Ty.sl .u8).holds W (fun b => (s 6).ownBlock = some b) [(s 6)] (be 4 n) ∧ ∀ b, (s 6).ownBlock = some b → b < W.heap.size := hd 6 (by decide) (by decide)
      have d18 : (Ty.sl .u8).holds W (fun b => (s 10).ownBlock = some b) [(s 10)] [byteN k, byteN bt] ∧ ∀ b, (s 10).ownBlock = some b → b < W.heap.size := hd 10 (by decide) (by decide)
      clear hd
      replace hK : ∀ (v : Value) (W' : World), Ext W W' → (∃ F, (Ty.sl (.sl .u8)).holds W' F [v] [seed, be 4 n, [byteN k, byteN bt]] ∧ ∀ b, F b → b < W'.heap.size) → _ := hK
      simp only [mkOf, List.map_cons, List.map_nil, Act.put, List.setIfInBounds_toArray, List.set_cons_succ, List.set_cons_zero, Nat.reduceAdd, Nat.zero_add] at hK ⊢
      simp only [d9] at hK ⊢
      have hsd := HSEED.out W hX
      obtain ⟨A1, c1, e1⟩ := sl_form d14.1
      obtain ⟨A2, c2, e2⟩ := sl_form d18.1
      rw [e1] at d14
      rw [e2] at d18
      simp only [e1, e2] at hK ⊢
      go_simp
      exact hK _ _ ((Ext.refl _).alloc _) (three_parts hsd.1 hsd.2 d14.1 d14.2 d18.1 d18.2)
    | 12, _, ho =>
      obtain rfl := Option.some.inj ho
      intro s W hX hd K hK
      rw [if_pos (wanted_plain rfl)]
      have d19 : ∃ F, (Ty.sl (.sl .u8)).holds W F [(s 11)] [seed, be 4 n, [byteN k, byteN bt]] ∧ ∀ b, F b → b < W.heap.size := hd 11 (by decide) (by decide)
      clear hd
      replace hK : ∀ (v : Value) (W' : World), Ext W W' → (v = .agg R.toArray) → _ := hK
      simp only [mkOf, List.map_cons, List.map_nil, Act.put, List.setIfInBounds_toArray, List.set_cons_succ, List.set_cons_zero, Nat.reduceAdd, Nat.zero_add] at hK ⊢
      obtain ⟨F, h1, h2⟩ := d19
      go_simp
      refine (For_i 1 1 rfl _ _ W F h1 h2 (by simp [blob, be_length, HSL.out])).mono ?_
      rintro e w' ⟨rfl, hx⟩
      exact hK _ _ hx (by rw [HR.out])
    | 13, _, ho =>
      obtain rfl := Option.some.inj ho
      intro s W hX hd K hK
      rw [if_pos (wanted_plain rfl)]
      clear hd
      replace hK : ∀ (v : Value) (W' : World), Ext W W' → (∃ g, v = .pointer (some ⟨g, 0, none⟩) ∧ w.heap.size + 2 ≤ g ∧ Blk W' g 31 D) → _ := hK
      simp only [mkOf, List.map_cons, List.map_nil, Act.put, List.setIfInBounds_toArray, List.set_cons_succ, List.set_cons_zero, Nat.reduceAdd, Nat.zero_add] at hK ⊢
      refine wp_alloc_agg 31 rfl D hzd ?_
      exact hK _ _ ((Ext.refl _).alloc _) ⟨_, rfl, by have := hX.size; simp at this; omega, Blk.new _ _ _⟩
    | i + 14, hi, _ => exact absurd hi (by simp)
  · intro o ho
    obtain rfl := Option.some.inj ho
    intro s W hX hd K hK
    rw [if_pos (wanted_plain rfl)]
    have d8 : (s 0) = .pointer (some ⟨w.heap.size, 0, none⟩) := hd 0 (by decide)
    have d9 : (s 1) = .slice (some ⟨w.heap.size, 0, none⟩) 32 32 := hd 1 (by decide)
    have d10 : OwnB W (s 2) [] ∧ ∃ b, (s 2) = .slice (some b) 0 0 := hd 2 (by decide)
    have d11 : (s 3) = .pointer (some ⟨w.heap.size, 32, none⟩) := hd 3 (by decide)
    have d12 : (s 4) = .int .u32 (n : Int) := hd 4 (by decide)
    have d13 : (Ty.sl (.nat .u32)).holds W (fun b => (s 5).ownBlock = some b) [(s 5)] [n] ∧ ∀ b, (s 5).ownBlock = some b → b < W.heap.size := hd 5 (by decide)
    have d14 : (Ty.sl .u8).holds W (fun b => (s 6).ownBlock = some b) [(s 6)] (be 4 n) ∧ ∀ b, (s 6).ownBlock = some b → b < W.heap.size := hd 6 (by decide)
    have d15 : (s 7) = .int .i64 (k : Int) := hd 7 (by decide)
    have d16 : (s 8) = .int .u8 (k : Int) := hd 8 (by decide)
    have d17 : (s 9) = .int .u8 (bt : Int) := hd 9 (by decide)
    have d18 : (Ty.sl .u8).holds W (fun b => (s 10).ownBlock = some b) [(s 10)] [byteN k, byteN bt] ∧ ∀ b, (s 10).ownBlock = some b → b < W.heap.size := hd 10 (by decide)
    have d19 : ∃ F, (Ty.sl (.sl .u8)).holds W F [(s 11)] [seed, be 4 n, [byteN k, byteN bt]] ∧ ∀ b, F b → b < W.heap.size := hd 11 (by decide)
    have d20 : (s 12) = .agg R.toArray := hd 12 (by decide)
    have d7 : ∃ g, (s 13) = .pointer (some ⟨g, 0, none⟩) ∧ w.heap.size + 2 ≤ g ∧ Blk W g 31 D := hd 13 (by decide)
    clear hd
    simp only [mkOf, List.map_cons, List.map_nil, Act.put, List.setIfInBounds_toArray, List.set_cons_succ, List.set_cons_zero, Nat.reduceAdd, Nat.zero_add]
    obtain ⟨g, hg, hgb, hB⟩ := d7
    refine wp_store_row 31 (.tmp 7) (.tmp 20) rfl g (by simpa [Act.eval] using hg) D R _ (by simpa [Act.eval] using d20) hB (digest_size HRL.out) (by rw [HRL.out, HDL.out]) hro ?_
    refine hK _ _ ?_
    have hcs : Cells (W.setRow g R.toArray) ⟨g, 0, none⟩ C := by rw [← HTK.out]; exact (Blk.cells (t := 31) (setRow_at hB)).take 16
    have hb1 : Blk (W.setRow g R.toArray) (w.heap.size + 1) 40 Z := (HB1.out.keep hX (by simp)).keep (setRow_only _) (by simp; omega)
    have hxw : Ext w (W.setRow g R.toArray) := setRow_grown (HX0.out.trans hX) _ _ (by omega)
    have hat := at_any (P := Try.prog) 40 5 16 (some ⟨g, 0, none⟩) 16 32 Try.underlying40 (Nat.le_refl 16)
    have HB2 := Lib.hid hb1
    have HXW := Lib.hid hxw
    clear hb1 hxw hK hX hB
    generalize W.setRow g R.toArray = V at *
    (try simp only [Exit.then])
    go_wp2_with (first
      | (refine wpList_load_agg _ rfl 40 (.tmp 22) rfl _ rfl C _ Try.underlying40 rfl (piece_size HCL.out) hcs ?_)
      | (refine wpList_store_row _ rfl 40 (.tmp 6) (.tmp 23) rfl (w.heap.size + 1) rfl Z C _ rfl HB2.out (piece_size HCL.out) (by rw [HCL.out, HZL.out]) hco ?_)
      | fail)
    have hc : Cells (V.setRow (w.heap.size + 1) C.toArray) ⟨w.heap.size + 1, 0, none⟩ C := Blk.cells (t := 40) (setRow_at HB2.out)
    (try simp only [Exit.inBlock, Exit.then])
    refine bodyPost_ret (results_agg rfl _ _ _ _ _ rfl Try.underlying40 rfl (piece_size HCL.out) hc) rfl ?_
    exact ⟨rfl, setRow_grown HXW.out _ _ (by omega)⟩
end
section
open Go.RowKit

theorem Blk.fresh {w : World} {G : Nat} (hG : w.heap.size = G) (t : TypeId) (cs : List Value) : Blk (w.alloc (.cells cs.toArray t)) G t cs := by subst hG; exact Blk.new w t cs
/-- A list with a stretch of it replaced. -/
def putAt (old : List Value) (off : Nat) (cs : List Value) : List Value := old.take off ++ cs ++ old.drop (off + cs.length)
theorem putAt_len {old cs : List Value} {off : Nat} (h : off + cs.length ≤ old.length) : (putAt old off cs).length = old.length := by
  simp only [putAt, List.length_append, List.length_take, List.length_drop]; omega
theorem putAt_get {old cs : List Value} {off : Nat} (h : off + cs.length ≤ old.length) (i : Nat) :
    (putAt old off cs)[i]? = if i < off then old[i]? else if i < off + cs.length then cs[i - off]? else old[i]? := by
  have h1 : (old.take off).length = off := by rw [List.length_take]; omega
  unfold putAt
  rw [List.append_assoc]
  by_cases hi : i < off
  · rw [if_pos hi, List.getElem?_append_left (by omega), List.getElem?_take, if_pos hi]
  · rw [if_neg hi, List.getElem?_append_right (by omega), h1]
    by_cases hj : i < off + cs.length
    · rw [if_pos hj, List.getElem?_append_left (by omega)]
    · rw [if_neg hj, List.getElem?_append_right (by omega), List.getElem?_drop]
      congr 1; omega
theorem putAt_one {old cs : List Value} {off : Nat} (h1 : ∀ u ∈ old, u.oneCell' = true) (h2 : ∀ u ∈ cs, u.oneCell' = true) : ∀ u ∈ putAt old off cs, u.oneCell' = true := by
  intro u hu
  rcases List.mem_append.1 hu with hu | hu
  · rcases List.mem_append.1 hu with hu | hu
    · exact h1 u (List.mem_of_mem_take hu)
    · exact h2 u hu
  · exact h1 u (List.mem_of_mem_drop hu)
section
variable {P : Program} (w : World)
theorem run_store_part (g off : Nat) (t : TypeId) (old cs : List Value) (hg : w.heap[g]? = some (.cells old.toArray t (0, 0))) (hl : off + cs.length ≤ old.length) (h1 : ∀ u ∈ cs, u.oneCell' = true) :
    (storeCells ⟨g, off, none⟩ cs).run P w = .ok () (w.setRow g (putAt old off cs).toArray) := by
  have h := run_storeCells_at P g off t cs 0 old.toArray w hg (by simpa using hl) h1
  simpa [putAt] using h
theorem wpList_store_part {ops : Array Oper} {rest : List Oper} {o : Oper} {a : Act} {Q : Exit → Act → World → Prop} (hgd : o.guard = none) (ty : TypeId) (p x : Operand) (ho : o.op = .store ty p x)
    (g off : Nat) (hp : a.eval p = .pointer (some ⟨g, off, none⟩)) (old cs : List Value) (t : TypeId) (hx : a.eval x = .agg cs.toArray) (hg : w.heap[g]? = some (.cells old.toArray t (0, 0)))
    (hi : (P.info? ty).map (·.size) = some cs.length) (hl : off + cs.length ≤ old.length) (h1 : ∀ u ∈ cs, u.oneCell' = true)
    (h : wpList P ops Q rest (a.put o.dst undef) (w.setRow g (putAt old off cs).toArray)) : wpList P ops Q (o :: rest) a w :=
  wpList_plain hgd fun K hK => by
    obtain ⟨i, hi', hs⟩ := Option.map_eq_some_iff.1 hi
    unfold Oper.wp execOp
    simp only [ho, hp, hx, Instr.storeAt, Instr.sureAddr, storeVar, sizeOf, typeInfo, Sem.run_bind, run_program, Result.andThen_ok, hi', Sem.run_pure, hs, Value.cells, List.size_toArray, ne_eq, not_true, if_false,
      run_store_part w g off t old cs hg hl h1]
    exact hK _ _ h
theorem wp_store_part {o : Oper} {a : Act} {K : Act → World → Prop} {Q : Exit → Act → World → Prop} (ty : TypeId) (p x : Operand) (ho : o.op = .store ty p x)
    (g off : Nat) (hp : a.eval p = .pointer (some ⟨g, off, none⟩)) (old cs : List Value) (t : TypeId) (hx : a.eval x = .agg cs.toArray) (hg : w.heap[g]? = some (.cells old.toArray t (0, 0)))
    (hi : (P.info? ty).map (·.size) = some cs.length) (hl : off + cs.length ≤ old.length) (h1 : ∀ u ∈ cs, u.oneCell' = true)
    (h : K (a.put o.dst undef) (w.setRow g (putAt old off cs).toArray)) : o.wp P a w K Q := by
  obtain ⟨i, hi', hs⟩ := Option.map_eq_some_iff.1 hi
  unfold Oper.wp execOp
  simp only [ho, hp, hx, Instr.storeAt, Instr.sureAddr, storeVar, sizeOf, typeInfo, Sem.run_bind, run_program, Result.andThen_ok, hi', Sem.run_pure, hs, Value.cells, List.size_toArray, ne_eq, not_true, if_false,
    run_store_part w g off t old cs hg hl h1]
  exact h
end

theorem addr_at (g n : Nat) : (⟨g, 0, none⟩ : Addr).add n = ⟨g, n, none⟩ := by unfold Addr.add; split <;> simp_all
/-- Of a signature's pieces the first k pairs are there. -/
def mixAt (C Z : List Value) (k : Nat) : List Value := (List.range 1024).map fun i => if i % 512 < k * 16 then C.getD i undef else Z.getD i undef
theorem mixAt_len (C Z : List Value) (k : Nat) : (mixAt C Z k).length = 1024 := by simp [mixAt]
theorem mixAt_get (C Z : List Value) (hC : C.length = 1024) (hZ : Z.length = 1024) (k i : Nat) : (mixAt C Z k)[i]? = if i % 512 < k * 16 then C[i]? else Z[i]? := by
  unfold mixAt
  rw [List.getElem?_map]
  by_cases hi : i < 1024
  · rw [List.getElem?_range hi]
    show some (if i % 512 < k * 16 then C.getD i undef else Z.getD i undef) = _
    by_cases hk : i % 512 < k * 16
    · rw [if_pos hk, if_pos hk, List.getElem?_eq_getElem (by omega), List.getD_eq_getElem?_getD, List.getElem?_eq_getElem (by omega)]; rfl
    · rw [if_neg hk, if_neg hk, List.getElem?_eq_getElem (by omega), List.getD_eq_getElem?_getD, List.getElem?_eq_getElem (by omega)]; rfl
  · rw [List.getElem?_eq_none (by simpa using hi)]
    show none = _
    split
    · rw [List.getElem?_eq_none (by omega)]
    · rw [List.getElem?_eq_none (by omega)]
theorem mixAt_zero (C Z : List Value) (hC : C.length = 1024) (hZ : Z.length = 1024) : mixAt C Z 0 = Z := by
  apply List.ext_getElem?
  intro i
  rw [mixAt_get C Z hC hZ, if_neg (by omega)]
theorem mixAt_all (C Z : List Value) (hC : C.length = 1024) (hZ : Z.length = 1024) : mixAt C Z 32 = C := by
  apply List.ext_getElem?
  intro i
  rw [mixAt_get C Z hC hZ, if_pos (by omega)]
theorem piece_len {C : List Value} (hC : C.length = 1024) {o : Nat} (ho : o ≤ 1008) : ((C.drop o).take 16).length = 16 := by
  rw [List.length_take, List.length_drop]; omega
theorem piece_get {C : List Value} {o i : Nat} (h : i < 16) : ((C.drop o).take 16)[i]? = C[o + i]? := by
  rw [List.getElem?_take, if_pos h, List.getElem?_drop]
set_option maxRecDepth 100000 in
theorem mixAt_step (C Z : List Value) (hC : C.length = 1024) (hZ : Z.length = 1024) (k : Nat) (hk : k < 32) :
    putAt (putAt (mixAt C Z k) (k * 16) ((C.drop (k * 16)).take 16)) (512 + k * 16) ((C.drop (512 + k * 16)).take 16) = mixAt C Z (k + 1) := by
  have l1 := piece_len hC (o := k * 16) (by omega)
  have l2 := piece_len hC (o := 512 + k * 16) (by omega)
  have m := mixAt_len C Z k
  apply List.ext_getElem?
  intro i
  by_cases hi : i < 1024
  case neg => rw [List.getElem?_eq_none (by rw [putAt_len (by rw [putAt_len (by omega)]; omega), putAt_len (by omega)]; omega), List.getElem?_eq_none (by rw [mixAt_len]; omega)]
  rw [putAt_get (by rw [putAt_len (by omega)]; omega), putAt_get (by omega), mixAt_get C Z hC hZ, mixAt_get C Z hC hZ, l1, l2]
  by_cases a : i < k * 16 <;> by_cases b : i < k * 16 + 16 <;> by_cases c : i < 512 + k * 16 <;> by_cases d : i < 512 + k * 16 + 16 <;> by_cases e : i % 512 < k * 16 <;> by_cases f : i % 512 < (k + 1) * 16 <;> first | (exfalso; omega) | (simp only [a, b, c, d, e, f, if_true, if_false]; done) | (simp only [a, b, c, d, e, f, if_true, if_false]; rw [piece_get (by omega)]; congr 1; omega)
set_option maxRecDepth 100000 in
theorem mixAt_comm (C Z : List Value) (hC : C.length = 1024) (k : Nat) (hk : k < 32) :
    putAt (putAt (mixAt C Z k) (512 + k * 16) ((C.drop (512 + k * 16)).take 16)) (k * 16) ((C.drop (k * 16)).take 16) = putAt (putAt (mixAt C Z k) (k * 16) ((C.drop (k * 16)).take 16)) (512 + k * 16) ((C.drop (512 + k * 16)).take 16) := by
  have l1 := piece_len hC (o := k * 16) (by omega)
  have l2 := piece_len hC (o := 512 + k * 16) (by omega)
  have m := mixAt_len C Z k
  apply List.ext_getElem?
  intro i
  rw [putAt_get (by rw [putAt_len (by omega)]; omega), putAt_get (by omega), putAt_get (by rw [putAt_len (by omega)]; omega), putAt_get (by omega), l1, l2]
  by_cases a : i < k * 16 <;> by_cases b : i < k * 16 + 16 <;> by_cases c : i < 512 + k * 16 <;> by_cases d : i < 512 + k * 16 + 16 <;> first | (exfalso; omega) | simp only [a, b, c, d, if_true, if_false]
theorem mixAt_one (C Z : List Value) (h1 : ∀ u ∈ C, u.oneCell' = true) (h2 : ∀ u ∈ Z, u.oneCell' = true) (hC : C.length = 1024) (hZ : Z.length = 1024) (k : Nat) : ∀ u ∈ mixAt C Z k, u.oneCell' = true := by
  intro u hu
  obtain ⟨i, hi⟩ := List.getElem?_of_mem hu
  rw [mixAt_get C Z hC hZ] at hi
  split at hi
  · exact h1 u (List.mem_of_getElem? hi)
  · exact h2 u (List.mem_of_getElem? hi)
end
section
open Go.RowKit

theorem szPieceTo04 {n : Nat} (h : n = 16) : (Try.prog.info? 35).map (·.size) = some n := by subst h; kernel_rfl
theorem szPieceBTo04 {n : Nat} (h : n = 16) : (Try.prog.info? 40).map (·.size) = some n := by subst h; kernel_rfl
theorem szSigTo04 {n : Nat} (h : n = 1024) : (Try.prog.info? 43).map (·.size) = some n := by subst h; kernel_rfl
theorem zSigTo04 : (Try.prog.info? 43).bind (fun i => i.zero.map (·.cells)) = some (List.replicate 1024 (Value.int .u8 0)).toArray := by kernel_rfl
set_option maxRecDepth 100000 in
set_option maxHeartbeats 4000000 in
theorem To04 (C : List Value) (w : World) (hC : C.length = 1024) (hone : ∀ u ∈ C, u.oneCell' = true) :
    Calls Try.prog 16 #[.agg C.toArray] w fun e w' => e = .returned (.agg C.toArray) ∧ Ext w w' := by
  obtain ⟨Z, hz, hzl, hzo⟩ : ∃ Z : List Value, (Try.prog.info? 43).bind (fun i => i.zero.map (·.cells)) = some Z.toArray ∧ Z.length = 1024 ∧ ∀ u ∈ Z, u.oneCell' = true := ⟨_, zSigTo04, List.length_replicate, fun u hu => by rw [List.eq_of_mem_replicate hu]; rfl⟩
  have HCL := Lib.hid hC
  have HZL := Lib.hid hzl
  have HZO := Lib.hid hzo
  have hb1 : Blk (((w.alloc (.cells C.toArray 38)).alloc (.cells Z.toArray 43)).alloc (.cells Z.toArray 43)) w.heap.size 38 C := ((Blk.new _ _ _).keep ((Ext.refl _).alloc _) (by simp)).keep ((Ext.refl _).alloc _) (by simp)
  have hb2 : Blk (((w.alloc (.cells C.toArray 38)).alloc (.cells Z.toArray 43)).alloc (.cells Z.toArray 43)) (w.heap.size + 1) 43 Z := (Blk.fresh (by simp) _ _).keep ((Ext.refl _).alloc _) (by simp)
  have hb3 : Blk (((w.alloc (.cells C.toArray 38)).alloc (.cells Z.toArray 43)).alloc (.cells Z.toArray 43)) (w.heap.size + 2) 43 Z := Blk.fresh (by simp) _ _
  have hx0 : Ext w (((w.alloc (.cells C.toArray 38)).alloc (.cells Z.toArray 43)).alloc (.cells Z.toArray 43)) := (((Ext.refl w).alloc _).alloc _).alloc _
  have HB1 := Lib.hid hb1
  have HB2 := Lib.hid hb2
  have HB3 := Lib.hid hb3
  have HX0 := Lib.hid hx0
  clear hb1 hb2 hb3 hx0 hC hzl hzo
  go_enter Try.func16, Try.ntmps16
  go_wp2_with (first
    | (refine wpList_alloc _ rfl 43 rfl _ hz ?_)
    | fail)
  go_loopw [4, 5] (fun p i wr => ∃ k : Nat, k ≤ 32 ∧ i = .int .i64 k ∧ Ext w wr ∧ Blk wr w.heap.size 38 C ∧ Blk wr (w.heap.size + 1) 43 Z ∧ Blk wr (w.heap.size + 2) 43 (mixAt C Z k) ∧ ∃ q, p = q) (fun _ i _ => 32 - (intOf i).toNat)
  case atStart => exact ⟨0, by omega, rfl, HX0.out, HB1.out, HB2.out, by rw [mixAt_zero C Z HCL.out HZL.out]; exact HB3.out, _, rfl⟩
  case round =>
    clear HX0 HB1 HB2 HB3
    obtain ⟨k, hk, rfl, hx, hb1, hb2, hb3, q, rfl⟩ := hrel
    by_cases hlt : k < 32
    · have HX := Lib.hid hx
      have HB1 := Lib.hid hb1
      have HB2 := Lib.hid hb2
      have HB3 := Lib.hid hb3
      clear hx hb1 hb2 hb3
      go_wp2
      have hx : Ext w wr.drew := HX.out.drew
      have hb1 : Blk wr.drew w.heap.size 38 C := HB1.out
      have hb2 : Blk wr.drew (w.heap.size + 1) 43 Z := HB2.out
      have hb3 : Blk wr.drew (w.heap.size + 2) 43 (mixAt C Z k) := HB3.out
      refine startM (KeepB fun b => b = w.heap.size) (by kernel_rfl) ?_
      (try simp only [Act.put, List.setIfInBounds_toArray, List.set_cons_succ, List.set_cons_zero])
      generalize wr.drew = w0 at *
      have hk1 : Cells w0 ⟨w.heap.size, k * 16, none⟩ ((C.drop (k * 16)).take 16) := by have h := (hb1.cells.drop (k * 16)).take 16; rw [addr_at] at h; exact h
      have hk2 : Cells w0 ⟨w.heap.size, 512 + k * 16, none⟩ ((C.drop (512 + k * 16)).take 16) := by have h := (hb1.cells.drop (512 + k * 16)).take 16; rw [addr_at] at h; exact h
      have hp1 := piece_len HCL.out (o := k * 16) (by omega)
      have hp2 := piece_len HCL.out (o := 512 + k * 16) (by omega)
      have hst := mixAt_step C Z HCL.out HZL.out k hlt
      have ho1 : ∀ u ∈ (C.drop (k * 16)).take 16, u.oneCell' = true := fun u hu => hone u (List.mem_of_mem_drop (List.mem_of_mem_take hu))
      have ho2 : ∀ u ∈ (C.drop (512 + k * 16)).take 16, u.oneCell' = true := fun u hu => hone u (List.mem_of_mem_drop (List.mem_of_mem_take hu))
      generalize (C.drop (k * 16)).take 16 = P1 at *
      generalize (C.drop (512 + k * 16)).take 16 = P2 at *
      have HX := Lib.hid hx
      have HB1 := Lib.hid hb1
      have HB2 := Lib.hid hb2
      have HB3 := Lib.hid hb3
      have HK1 := Lib.hid hk1
      have HK2 := Lib.hid hk2
      have HP1 := Lib.hid hp1
      have HP2 := Lib.hid hp2
      have HST := Lib.hid hst
      have HO1 := Lib.hid ho1
      have HO2 := Lib.hid ho2
      clear hx hb1 hb2 hb3 hk1 hk2 hp1 hp2 hst ho1 ho2
      refine takeK 0 rfl (by kernel_rfl) (by kernel_rfl) (by kernel_rfl) rfl (fun _ _ _ _ h => h) rfl (fun K hK => ?_)
      go_big_quiet_op
      first | refine hK _ ?_ | refine ⟨_, fun _ _ => rfl, hK _ ?_⟩
      clear hK K
      refine takeK 1 rfl (by kernel_rfl) (by kernel_rfl) (by kernel_rfl) rfl (fun _ _ _ _ h => h) rfl (fun K hK => ?_)
      go_big_quiet_op
      first | refine hK _ ?_ | refine ⟨_, fun _ _ => rfl, hK _ ?_⟩
      clear hK K
      refine takeK 2 rfl (by kernel_rfl) (by kernel_rfl) (by kernel_rfl) rfl (fun _ _ _ _ h => h) rfl (fun K hK => ?_)
      go_big_quiet_op
      first | refine hK _ ?_ | refine ⟨_, fun _ _ => rfl, hK _ ?_⟩
      clear hK K
      refine takeK 3 rfl (by kernel_rfl) (by kernel_rfl) (by kernel_rfl) rfl (fun _ _ _ _ h => h) rfl (fun K hK => ?_)
      go_big_quiet_op
      first | refine hK _ ?_ | refine ⟨_, fun _ _ => rfl, hK _ ?_⟩
      clear hK K
      refine takeK 4 rfl (by kernel_rfl) (by kernel_rfl) (by kernel_rfl) rfl (fun _ _ _ _ h => h) rfl (fun K hK => ?_)
      go_big_quiet_op
      first | refine hK _ ?_ | refine ⟨_, fun _ _ => rfl, hK _ ?_⟩
      clear hK K
      refine takeK 5 rfl (by kernel_rfl) (by kernel_rfl) (by kernel_rfl) rfl (fun _ _ _ _ h => h) rfl (fun K hK => ?_)
      refine quiet_agg 35 (.tmp 12) rfl _ rfl P1 _ Try.underlying35 rfl (szPieceTo04 HP1.out) (fun W' h => KeepB.cells h HK1.out rfl) ?_
      refine hK _ ?_
      simp only [Act.put, List.setIfInBounds_toArray, List.set_cons_succ, List.set_cons_zero]
      clear hK K
      refine takeK 6 rfl (by kernel_rfl) (by kernel_rfl) (by kernel_rfl) rfl (fun _ _ _ _ h => h) rfl (fun K hK => ?_)
      go_big_quiet_op
      first | refine hK _ ?_ | refine ⟨_, fun _ _ => rfl, hK _ ?_⟩
      clear hK K
      refine takeK 7 rfl (by kernel_rfl) (by kernel_rfl) (by kernel_rfl) rfl (fun _ _ _ _ h => h) rfl (fun K hK => ?_)
      go_big_quiet_op
      first | refine hK _ ?_ | refine ⟨_, fun _ _ => rfl, hK _ ?_⟩
      clear hK K
      refine takeK 8 rfl (by kernel_rfl) (by kernel_rfl) (by kernel_rfl) rfl (fun _ _ _ _ h => h) rfl (fun K hK => ?_)
      go_big_quiet_op
      first | refine hK _ ?_ | refine ⟨_, fun _ _ => rfl, hK _ ?_⟩
      clear hK K
      refine takeK 9 rfl (by kernel_rfl) (by kernel_rfl) (by kernel_rfl) rfl (fun _ _ _ _ h => h) rfl (fun K hK => ?_)
      refine quiet_agg 35 (.tmp 16) rfl _ rfl P2 _ Try.underlying35 rfl (szPieceTo04 HP2.out) (fun W' h => KeepB.cells h HK2.out rfl) ?_
      refine hK _ ?_
      simp only [Act.put, List.setIfInBounds_toArray, List.set_cons_succ, List.set_cons_zero]
      clear hK K
      refine takeK 10 rfl (by kernel_rfl) (by kernel_rfl) (by kernel_rfl) rfl (fun _ _ _ _ h => h) rfl (fun K hK => ?_)
      go_big_quiet_op
      first | refine hK _ ?_ | refine ⟨_, fun _ _ => rfl, hK _ ?_⟩
      clear hK K
      refine takeK 11 rfl (by kernel_rfl) (by kernel_rfl) (by kernel_rfl) rfl (fun _ _ _ _ h => h) rfl (fun K hK => ?_)
      go_big_quiet_op
      first | refine hK _ ?_ | refine ⟨_, fun _ _ => rfl, hK _ ?_⟩
      clear hK K
      refine takeK 13 rfl (by kernel_rfl) (by kernel_rfl) (by kernel_rfl) rfl (fun _ _ _ _ h => h) rfl (fun K hK => ?_)
      go_big_quiet_op
      first | refine hK _ ?_ | refine ⟨_, fun _ _ => rfl, hK _ ?_⟩
      clear hK K
      refine stepM 12 rfl (by kernel_rfl) rfl (fun K hK => ?_)
      refine wp_store_part w0 40 (.tmp 19) (.tmp 13) rfl (w.heap.size + 2) (k * 16) rfl (mixAt C Z k) P1 _ rfl HB3.out (szPieceBTo04 HP1.out) (by rw [mixAt_len, HP1.out]; omega) HO1.out ?_
      refine hK _ _ (fun b hb => (setRow_only _).block b (by have := HB1.out.lt; rcases hb with rfl; exact this) (by rcases hb with rfl; simp)) ?_
      clear hK K
      (try simp only [Act.put, List.setIfInBounds_toArray, List.set_cons_succ, List.set_cons_zero])
      refine takeK 14 rfl (by kernel_rfl) (by kernel_rfl) (by kernel_rfl) rfl (fun _ _ _ _ h => h) rfl (fun K hK => ?_)
      go_big_quiet_op
      first | refine hK _ ?_ | refine ⟨_, fun _ _ => rfl, hK _ ?_⟩
      clear hK K
      refine stepM 15 rfl (by kernel_rfl) rfl (fun K hK => ?_)
      refine wp_store_part _ 40 (.tmp 21) (.tmp 17) rfl (w.heap.size + 2) (512 + k * 16) rfl (putAt (mixAt C Z k) (k * 16) P1) P2 _ rfl (setRow_at HB3.out) (szPieceBTo04 HP2.out) (by rw [putAt_len (by rw [mixAt_len, HP1.out]; omega), mixAt_len, HP2.out]; omega) HO2.out ?_
      refine hK _ _ (fun b hb => (setRow_only _).block b (by have := HB1.out.lt; rcases hb with rfl; simpa [World.setRow] using this) (by rcases hb with rfl; simp)) ?_
      clear hK K
      (try simp only [Act.put, List.setIfInBounds_toArray, List.set_cons_succ, List.set_cons_zero])
      refine doneM (by kernel_rfl) ?_ _
      have hx9 : Ext w ((w0.setRow (w.heap.size + 2) (putAt (mixAt C Z k) (k * 16) P1).toArray).setRow (w.heap.size + 2) (putAt (putAt (mixAt C Z k) (k * 16) P1) (512 + k * 16) P2).toArray) := grown_then (grown_then HX.out (setRow_only _) (.inr (by rintro b ⟨⟩; omega))) (setRow_only _) (.inr (by rintro b ⟨⟩; omega))
      have hb1 : Blk ((w0.setRow (w.heap.size + 2) (putAt (mixAt C Z k) (k * 16) P1).toArray).setRow (w.heap.size + 2) (putAt (putAt (mixAt C Z k) (k * 16) P1) (512 + k * 16) P2).toArray) w.heap.size 38 C := (HB1.out.keep (setRow_only _) (by simp)).keep (setRow_only _) (by simp)
      have hb2 : Blk ((w0.setRow (w.heap.size + 2) (putAt (mixAt C Z k) (k * 16) P1).toArray).setRow (w.heap.size + 2) (putAt (putAt (mixAt C Z k) (k * 16) P1) (512 + k * 16) P2).toArray) (w.heap.size + 1) 43 Z := (HB2.out.keep (setRow_only _) (by simp)).keep (setRow_only _) (by simp)
      have hb3 : Blk ((w0.setRow (w.heap.size + 2) (putAt (mixAt C Z k) (k * 16) P1).toArray).setRow (w.heap.size + 2) (putAt (putAt (mixAt C Z k) (k * 16) P1) (512 + k * 16) P2).toArray) (w.heap.size + 2) 43 (mixAt C Z (k + 1)) := by rw [← HST.out]; exact setRow_at (setRow_at HB3.out)
      generalize World.setRow _ _ _ = w9 at *
      have HX9 := Lib.hid hx9
      have HB91 := Lib.hid hb1
      have HB92 := Lib.hid hb2
      have HB93 := Lib.hid hb3
      clear hx9 hb1 hb2 hb3
      go_wp2
      go_roundw
      case rel => exact ⟨k + 1, by omega, by go_num, HX9.out, HB91.out, HB92.out, HB93.out, _, rfl⟩
      case measure => simp [intOf]; omega
    · obtain rfl : k = 32 := by omega
      rw [mixAt_all C Z HCL.out HZL.out] at hb3
      have hcm := hb3.cells
      have hr2 : wr.heap[w.heap.size + 1]? = some (.cells Z.toArray 43 (0, 0)) := hb2
      have HX := Lib.hid hx
      clear hx hb1 hb2 hb3
      go_wp2_with (first
        | (refine wpList_load_agg _ rfl 43 (.tmp 3) rfl _ rfl C _ Try.underlying43 rfl (szSigTo04 HCL.out) hcm ?_)
        | (refine wpList_store_row _ rfl 43 (.tmp 2) (.tmp 23) rfl (w.heap.size + 1) rfl Z C _ rfl hr2 (szSigTo04 HCL.out) (by rw [HCL.out, HZL.out]) hone ?_)
        | fail)
      have hc9 := Blk.cells (t := 43) (setRow_at (cs' := C.toArray) hr2)
      (try simp only [Exit.inBlock, Exit.then])
      refine bodyPost_ret (results_agg rfl _ _ _ _ _ rfl Try.underlying43 rfl (szSigTo04 HCL.out) hc9) rfl ?_
      exact ⟨rfl, grown_then HX.out (setRow_only _) (.inr (by rintro b ⟨⟩; omega))⟩
end
section
open Go.RowKit

def signM (seed : List UInt8) (n : Nat) (d : List UInt8) : List UInt8 := piecesM (openM seed n d) 32 ++ piecesM (otherM seed n d) 32
theorem signM_length (seed : List UInt8) (n : Nat) (d : List UInt8) : (signM seed n d).length = 1024 := by
  unfold signM
  rw [List.length_append, piecesM_length (f := openM seed n d) (fun _ => secretM_length _ _ _ _), piecesM_length (f := otherM seed n d) (fun _ => coverM_length _)]
theorem sign_open (seed : List UInt8) (n : Nat) (d : List UInt8) {k : Nat} (h : k < 32) : ((bv (signM seed n d)).drop (k * 16)).take 16 = bv (openM seed n d k) := by
  have e := pieceAt_pieces (f := openM seed n d) (fun _ => secretM_length _ _ _ _) h
  have hl : (piecesM (openM seed n d) 32).length = 512 := piecesM_length (f := openM seed n d) (fun _ => secretM_length _ _ _ _) 32
  unfold pieceAt at e
  rw [← e, bv, ← List.map_drop, ← List.map_take, signM, List.drop_append_of_le_length (by rw [hl]; omega), List.take_append_of_le_length (by rw [List.length_drop, hl]; omega), Nat.mul_comm 16 k]
  rfl
theorem sign_other (seed : List UInt8) (n : Nat) (d : List UInt8) {k : Nat} (h : k < 32) : ((bv (signM seed n d)).drop (512 + k * 16)).take 16 = bv (otherM seed n d k) := by
  have e := pieceAt_pieces (f := otherM seed n d) (fun _ => coverM_length _) h
  have hl : (piecesM (openM seed n d) 32).length = 512 := piecesM_length (f := openM seed n d) (fun _ => secretM_length _ _ _ _) 32
  unfold pieceAt at e
  rw [← e, bv, ← List.map_drop, ← List.map_take, signM, ← List.drop_drop, List.drop_left' hl, Nat.mul_comm 16 k]
  rfl
theorem Secret_i (seed : List UInt8) (hs : seed.length = 32) (n : Nat) (hn : (Lit.int .u32 (n : Int)).wf = true) (k : Nat) (hk : k < 32) (bt : Nat) (hbt : bt < 2) (x : Int) (hx : x = (bt : Int)) (w : World) :
    Calls Try.prog 31 #[.agg (keyC seed n).toArray, .int .i64 (k : Int), .int .u8 x] w fun e w' => e = .returned (.agg (bv (secretM seed n k bt)).toArray) ∧ Ext w w' := by
  subst hx; exact Secret seed hs n hn k hk bt hbt w
theorem sig_size {n : Nat} (h : n = 1024) : (Try.prog.info? 43).map (·.size) = some n := by subst h; kernel_rfl
set_option maxRecDepth 100000 in
set_option maxHeartbeats 4000000 in
theorem Sign (seed : List UInt8) (hs : seed.length = 32) (n : Nat) (hn : (Lit.int .u32 (n : Int)).wf = true) (d : List UInt8) (hd : d.length = 32) (w : World) :
    Calls Try.prog 14 #[.agg (keyC seed n).toArray, .agg (bv d).toArray] w fun e w' => e = .returned (.agg (bv (signM seed n d)).toArray) ∧ Ext w w' := by
  obtain ⟨Z, hz, hzl, hzo⟩ : ∃ Z : List Value, (Try.prog.info? 43).bind (fun i => i.zero.map (·.cells)) = some Z.toArray ∧ Z.length = 1024 ∧ ∀ u ∈ Z, u.oneCell' = true := ⟨_, zSigTo04, List.length_replicate, fun u hu => by rw [List.eq_of_mem_replicate hu]; rfl⟩
  have hC : (bv (signM seed n d)).length = 1024 := by rw [bv_length, signM_length]
  have hone := bv_one (signM seed n d)
  have hop := fun k (h : k < 32) => sign_open seed n d h
  have hot := fun k (h : k < 32) => sign_other seed n d h
  have hkl := keyC_len hs n
  have hdl : (bv d).length = 32 := by rw [bv_length]; exact hd
  have hsec := fun (k : Nat) (hk : k < 32) (bt : Nat) (hbt : bt < 2) (x : Int) (hx : x = (bt : Int)) W => Secret_i seed hs n hn k hk bt hbt x hx W
  have hbit := fun (k : Nat) (hk : k < 32) W => Bit d hd k hk W
  generalize bv (signM seed n d) = C at *
  generalize keyC seed n = KC at *
  generalize bv d = DC at *
  have hb0 : Blk ((((w.alloc (.cells KC.toArray 28)).alloc (.cells DC.toArray 31)).alloc (.cells Z.toArray 43)).alloc (.cells Z.toArray 43)) w.heap.size 28 KC := (((Blk.new _ _ _).keep ((Ext.refl _).alloc _) (by simp)).keep ((Ext.refl _).alloc _) (by simp)).keep ((Ext.refl _).alloc _) (by simp)
  have hb1 : Blk ((((w.alloc (.cells KC.toArray 28)).alloc (.cells DC.toArray 31)).alloc (.cells Z.toArray 43)).alloc (.cells Z.toArray 43)) (w.heap.size + 1) 31 DC := ((Blk.fresh (by simp) _ _).keep ((Ext.refl _).alloc _) (by simp)).keep ((Ext.refl _).alloc _) (by simp)
  have hb2 : Blk ((((w.alloc (.cells KC.toArray 28)).alloc (.cells DC.toArray 31)).alloc (.cells Z.toArray 43)).alloc (.cells Z.toArray 43)) (w.heap.size + 1 + 1) 43 Z := (Blk.fresh (by simp) _ _).keep ((Ext.refl _).alloc _) (by simp)
  have hb3 : Blk ((((w.alloc (.cells KC.toArray 28)).alloc (.cells DC.toArray 31)).alloc (.cells Z.toArray 43)).alloc (.cells Z.toArray 43)) (w.heap.size + 1 + 1 + 1) 43 Z := Blk.fresh (by simp) _ _
  have hx0 : Ext w ((((w.alloc (.cells KC.toArray 28)).alloc (.cells DC.toArray 31)).alloc (.cells Z.toArray 43)).alloc (.cells Z.toArray 43)) := ((((Ext.refl w).alloc _).alloc _).alloc _).alloc _
  have HB0 := Lib.hid hb0
  have HB1 := Lib.hid hb1
  have HB2 := Lib.hid hb2
  have HB3 := Lib.hid hb3
  have HX0 := Lib.hid hx0
  have HCL := Lib.hid hC
  have HZL := Lib.hid hzl
  have HKL := Lib.hid hkl
  have HDL := Lib.hid hdl
  have HOP := Lib.hid hop
  have HOT := Lib.hid hot
  have HSEC := Lib.hid hsec
  have HBIT := Lib.hid hbit
  clear hb0 hb1 hb2 hb3 hx0 hC hzl hkl hdl hop hot hsec hbit
  go_enter Try.func14, Try.ntmps14
  go_wp2_with (first
    | (refine wpList_alloc _ rfl 43 rfl _ hz ?_)
    | fail)
  go_loopw [6, 7, 8] (fun p q i wr => ∃ k : Nat, k ≤ 32 ∧ i = .int .i64 k ∧ Ext w wr ∧ Blk wr w.heap.size 28 KC ∧ Blk wr (w.heap.size + 1) 31 DC ∧ Blk wr (w.heap.size + 1 + 1) 43 Z ∧ Blk wr (w.heap.size + 1 + 1 + 1) 43 (mixAt C Z k)) (fun _ _ i _ => 32 - (intOf i).toNat)
  case atStart => exact ⟨0, by omega, rfl, HX0.out, HB0.out, HB1.out, HB2.out, by rw [mixAt_zero C Z HCL.out HZL.out]; exact HB3.out⟩
  case round =>
    clear HX0 HB0 HB1 HB2 HB3
    obtain ⟨k, hk, rfl, hx, hb0, hb1, hb2, hb3⟩ := hrel
    by_cases hlt : k < 32
    · have hcd := hb1.cells
      have hbl := bitM_lt d k
      have hp1 : (bv (openM seed n d k)).length = 16 := by rw [bv_length]; exact secretM_length _ _ _ _
      have hp2 : (bv (otherM seed n d k)).length = 16 := by rw [bv_length]; exact coverM_length _
      have ho1 := bv_one (openM seed n d k)
      have ho2 := bv_one (otherM seed n d k)
      have hst := mixAt_step C Z HCL.out HZL.out k hlt
      rw [HOP.out k hlt, HOT.out k hlt] at hst
      have hsc := fun W => HSEC.out k hlt (bitM d k) hbl _ rfl W
      have hsc2 := fun (x : Int) hx W => HSEC.out k hlt (1 - bitM d k) (by omega) x hx W
      have hcv := fun W => Cover (secretM seed n k (1 - bitM d k)) (secretM_length _ _ _ _) W
      have e1 : secretM seed n k (bitM d k) = openM seed n d k := rfl
      have e2 : coverM (secretM seed n k (1 - bitM d k)) = otherM seed n d k := rfl
      rw [e1] at hsc
      rw [e2] at hcv
      have hbt := fun W => HBIT.out k hlt W
      generalize bitM d k = b at *
      generalize hS2 : bv (secretM seed n k (1 - b)) = S2 at *
      generalize bv (openM seed n d k) = P1 at *
      generalize bv (otherM seed n d k) = P2 at *
      have hc3 : (w.heap.size + 1 + 1 + 1) ≠ w.heap.size := by omega
      have HX := Lib.hid hx
      have HB0 := Lib.hid hb0
      have HB1 := Lib.hid hb1
      have HB2 := Lib.hid hb2
      have HB3 := Lib.hid hb3
      have HP1 := Lib.hid hp1
      have HP2 := Lib.hid hp2
      have HST := Lib.hid hst
      have HSC := Lib.hid hsc
      have HSC2 := Lib.hid hsc2
      have HCV := Lib.hid hcv
      have HBT := Lib.hid hbt
      have HBL := Lib.hid hbl
      clear hx hb0 hb1 hb2 hb3 hp1 hp2 hst hsc hsc2 hcv hbt hbl hS2 e1 e2
      go_wp2_with (first
        | (refine wpList_load_agg _ rfl 31 (.tmp 3) rfl _ rfl DC _ Try.underlying31 rfl (digest_size HDL.out) hcd ?_)
        | (go_at_call 36; refine (HBT.out _).mono ?_; rintro e w1 ⟨rfl, hx1⟩; have hk1 := (HB0.out.keep hx1 (by simp)).cells)
        | (refine wpList_load_agg _ rfl 28 (.tmp 2) rfl _ rfl KC _ Try.underlying28 rfl (key_size HKL.out) hk1 ?_)
        | fail)
      refine (HSC.out _).mono ?_
      rintro e w2 ⟨rfl, hx2⟩
      have hx12 := hx1.trans hx2
      have hm2 : w2.heap[w.heap.size + 1 + 1 + 1]? = some (.cells (mixAt C Z k).toArray 43 (0, 0)) := HB3.out.keep hx12 (by simp)
      have hk2 : Blk (w2.setRow (w.heap.size + 1 + 1 + 1) (putAt (mixAt C Z k) (k * 16) P1).toArray) w.heap.size 28 KC := (HB0.out.keep hx12 (by simp)).keep (setRow_only _) (by simp; omega)
      have hk3 := hk2.cells
      have HX12 := Lib.hid hx12
      have HK2 := Lib.hid hk2
      clear hx1 hx2 hx12 hk2 hcd hk1
      go_wp2_with (first
        | (refine wpList_store_part _ rfl 40 (.tmp 20) (.tmp 18) rfl (w.heap.size + 1 + 1 + 1) (k * 16) rfl (mixAt C Z k) P1 _ rfl hm2 (piece_size HP1.out) (by rw [mixAt_len, HP1.out]; omega) ho1 ?_)
        | (refine wpList_load_agg _ rfl 28 (.tmp 2) rfl _ rfl KC _ Try.underlying28 rfl (key_size HKL.out) hk3 ?_)
        | fail)
      refine (HSC2.out _ (by have := HBL.out; omega) _).mono ?_
      rintro e w3 ⟨rfl, hx3⟩
      clear hk3
      go_wp2_with (first
        | fail)
      refine (HCV.out _).mono ?_
      rintro e w4 ⟨rfl, hx4⟩
      have hx34 := hx3.trans hx4
      have hm4 : w4.heap[w.heap.size + 1 + 1 + 1]? = some (.cells (putAt (mixAt C Z k) (k * 16) P1).toArray 43 (0, 0)) := Blk.keep (t := 43) (setRow_at hm2) hx34 (by simp)
      have hg2 : w.grownBy w2 none := HX.out.trans HX12.out
      have hx2g : Ext w (w2.setRow (w.heap.size + 1 + 1 + 1) (putAt (mixAt C Z k) (k * 16) P1).toArray) := grown_then hg2 (setRow_only _) (.inr (by rintro b ⟨⟩; omega))
      have hx9 : Ext w (w4.setRow (w.heap.size + 1 + 1 + 1) (putAt (putAt (mixAt C Z k) (k * 16) P1) (512 + k * 16) P2).toArray) := grown_then (hx2g.trans hx34) (setRow_only _) (.inr (by rintro b ⟨⟩; omega))
      have hb0 := (HK2.out.keep hx34 (by simp)).keep (setRow_only (putAt (putAt (mixAt C Z k) (k * 16) P1) (512 + k * 16) P2).toArray) (show some w.heap.size ≠ some (w.heap.size + 1 + 1 + 1) by simp; omega)
      have hb1 := (((HB1.out.keep HX12.out (by simp)).keep (setRow_only (putAt (mixAt C Z k) (k * 16) P1).toArray) (show some (w.heap.size + 1) ≠ some (w.heap.size + 1 + 1 + 1) by simp)).keep hx34 (by simp)).keep (setRow_only (putAt (putAt (mixAt C Z k) (k * 16) P1) (512 + k * 16) P2).toArray) (show some (w.heap.size + 1) ≠ some (w.heap.size + 1 + 1 + 1) by simp)
      have hb2 := (((HB2.out.keep HX12.out (by simp)).keep (setRow_only (putAt (mixAt C Z k) (k * 16) P1).toArray) (show some (w.heap.size + 1 + 1) ≠ some (w.heap.size + 1 + 1 + 1) by simp)).keep hx34 (by simp)).keep (setRow_only (putAt (putAt (mixAt C Z k) (k * 16) P1) (512 + k * 16) P2).toArray) (show some (w.heap.size + 1 + 1) ≠ some (w.heap.size + 1 + 1 + 1) by simp)
      have hb3 : Blk (w4.setRow (w.heap.size + 1 + 1 + 1) (putAt (putAt (mixAt C Z k) (k * 16) P1) (512 + k * 16) P2).toArray) (w.heap.size + 1 + 1 + 1) 43 (mixAt C Z (k + 1)) := by rw [← HST.out]; exact setRow_at hm4
      have HX9 := Lib.hid hx9
      have HB90 := Lib.hid hb0
      have HB91 := Lib.hid hb1
      have HB92 := Lib.hid hb2
      have HB93 := Lib.hid hb3
      clear hx9 hb0 hb1 hb2 hb3 hx3 hx4 hx34 hg2 hx2g hm2
      go_wp2_with (first
        | (refine wpList_store_part _ rfl 40 (.tmp 29) (.tmp 27) rfl (w.heap.size + 1 + 1 + 1) (512 + k * 16) rfl (putAt (mixAt C Z k) (k * 16) P1) P2 _ rfl hm4 (piece_size HP2.out) (by rw [putAt_len (by rw [mixAt_len, HP1.out]; omega), mixAt_len, HP2.out]; omega) ho2 ?_)
        | fail)
      go_roundw
      case rel => exact ⟨k + 1, by omega, by go_num, HX9.out, HB90.out, HB91.out, HB92.out, HB93.out⟩
      case measure => simp [intOf]; omega
    · obtain rfl : k = 32 := by omega
      rw [mixAt_all C Z HCL.out HZL.out] at hb3
      have hcm := hb3.cells
      have hr2 : wr.heap[w.heap.size + 1 + 1]? = some (.cells Z.toArray 43 (0, 0)) := hb2
      have HX := Lib.hid hx
      clear hx hb0 hb1 hb2 hb3
      go_wp2_with (first
        | (refine wpList_load_agg _ rfl 43 (.tmp 5) rfl _ rfl C _ Try.underlying43 rfl (sig_size HCL.out) hcm ?_)
        | (refine wpList_store_row _ rfl 43 (.tmp 4) (.tmp 31) rfl (w.heap.size + 1 + 1) rfl Z C _ rfl hr2 (sig_size HCL.out) (by rw [HCL.out, HZL.out]) hone ?_)
        | fail)
      have hc9 := Blk.cells (t := 43) (setRow_at (cs' := C.toArray) hr2)
      (try simp only [Exit.inBlock, Exit.then])
      refine bodyPost_ret (results_agg rfl _ _ _ _ _ rfl Try.underlying43 rfl (sig_size HCL.out) hc9) rfl ?_
      exact ⟨rfl, grown_then HX.out (setRow_only _) (.inr (by rintro b ⟨⟩; omega))⟩
end
section
open Go.RowKit

theorem wpList_indexAgg {P : Program} {w : World} {ops : Array Oper} {rest : List Oper} {o : Oper} {a : Act} {Q : Exit → Act → World → Prop} (hgd : o.guard = none ∨ Region.wanted o (yielded ops a.tmps) = true) (t : TypeId) (x y : Operand) (ho : o.op = .index t x y)
    (cs piece : List Value) (k n m : Nat) (q : IntKind) (e : TypeId) (d : TypeDesc) (hx : a.eval x = .agg cs.toArray) (hy : a.eval y = .int q (k : Int)) (hu : P.underlying t = some (.array n e)) (hk : k < n)
    (he : P.underlying e = some d) (hd : isAggD d = true) (hs : (P.info? e).map (·.size) = some m) (hc : (cs.drop (k * m)).take m = piece) (h : wpList P ops Q rest (a.put o.dst (.agg piece.toArray)) w) : wpList P ops Q (o :: rest) a w :=
  wpList_want hgd fun K hK => by
    have hagg : (isAgg e).run P w = .ok true w := by
      unfold isAgg
      rw [Sem.run_bind, run_underlying he w]
      cases d <;> simp_all [isAggD]
    have hr : (Instr.index t (.agg cs.toArray) (.int q (k : Int))).run P w = .ok (.agg piece.toArray) w := by
      have hk2 : (0 : Int) ≤ (k : Int) ∧ (k : Int) < (n : Int) := by omega
      obtain ⟨i, hi2, rfl⟩ := Option.map_eq_some_iff.1 hs
      rw [← hc]
      simp [Instr.index, asIntOf, run_underlying hu, Nat.not_le_of_lt hk, hk, sizeOf, typeInfo, hi2, part, hagg]
    unfold Oper.wp execOp
    simp only [ho, hx, hy, Sem.run_bind, hr, Result.andThen_ok, Sem.run_pure]
    exact hK _ _ h
theorem two_size {n : Nat} (h : n = 32) : (Try.prog.info? 71).map (·.size) = some n := by subst h; kernel_rfl
theorem two_zero : (Try.prog.info? 71).bind (fun i => i.zero.map (·.cells)) = some (bv (List.replicate 32 0)).toArray := by kernel_rfl
theorem all_size {n : Nat} (h : n = 1024) : (Try.prog.info? 72).map (·.size) = some n := by subst h; kernel_rfl
theorem take_step32 (L : List UInt8) (hL : L.length = 1024) {k : Nat} (h : k < 32) : L.take (32 * (k + 1)) = L.take (32 * k) ++ (((L.drop (k * 32)).take 32).take 16 ++ ((L.drop (k * 32)).take 32).drop 16) := by
  rw [List.take_append_drop, Nat.mul_succ, List.take_add, Nat.mul_comm k 32]
theorem bv_drop_take (L : List UInt8) (a b : Nat) : ((bv L).drop a).take b = bv ((L.drop a).take b) := by simp [bv, List.map_drop, List.map_take]
set_option maxRecDepth 100000 in
set_option maxHeartbeats 4000000 in
theorem LeafW (L : List UInt8) (hL : L.length = 1024) (w : World) :
    Calls Try.prog 32 #[.agg (bv L).toArray] w fun e w' => e = .returned (.agg (bv (leafOf L)).toArray) ∧ Ext w w' := by
  obtain ⟨i0, hi, hz0, hz1, hz2⟩ := info_parts u8_info
  have hzd := digest_zero
  have hzt := two_zero
  have hdl : (bv (List.replicate 32 0)).length = 32 := by simp
  generalize bv (List.replicate 32 0) = D at hzd hzt hdl
  have hll : (bv L).length = 1024 := by rw [bv_length]; exact hL
  have hpc := fun k => bv_drop_take L (k * 32) 32
  have hb0 : Blk ((w.alloc (.cells (bv L).toArray 72)).alloc (.cells D.toArray 31)) w.heap.size 72 (bv L) := (Blk.new _ _ _).keep ((Ext.refl _).alloc _) (by simp)
  have hb1 : Blk ((w.alloc (.cells (bv L).toArray 72)).alloc (.cells D.toArray 31)) (w.heap.size + 1) 31 D := Blk.fresh (by simp) _ _
  have hx0 : Ext w ((w.alloc (.cells (bv L).toArray 72)).alloc (.cells D.toArray 31)) := ((Ext.refl w).alloc _).alloc _
  have hcl := hb0.cells
  generalize bv L = B at *
  have HB1 := Lib.hid hb1
  have HX0 := Lib.hid hx0
  have HDL := Lib.hid hdl
  have HLL := Lib.hid hll
  have HL := Lib.hid hL
  have HPC := Lib.hid hpc
  clear hb0 hb1 hx0 hdl hll hL hpc
  go_enter Try.func32, Try.ntmps32
  go_wp2_with (first
    | (refine wpList_alloc _ rfl 31 rfl _ hzd ?_)
    | (refine wpList_load_agg _ rfl 72 (.tmp 1) rfl _ rfl B _ Try.underlying72 rfl (all_size HLL.out) hcl ?_)
    | fail)
  go_loopw [3, 5, 7] (fun u p i wr => ∃ k : Nat, k ≤ 32 ∧ i = .int .i64 k ∧ OwnB wr u (L.take (32 * k)) ∧ Ext w wr ∧ Blk wr (w.heap.size + 1) 31 D ∧ (∀ b, u.ownBlock = some b → w.heap.size + 2 ≤ b) ∧ ∃ q, p = q) (fun _ _ i _ => 32 - (intOf i).toNat)
  case atStart => exact ⟨0, by omega, rfl, Own.nil _ _ _, HX0.out, HB1.out, fun b hb => (by simp [Value.ownBlock] at hb), _, rfl⟩
  case round =>
    clear HX0 HB1 hcl
    obtain ⟨k, hk, rfl, hou, hx, hb1, hne, q, rfl⟩ := hrel
    by_cases hlt : k < 32
    · have hpp := HPC.out k
      have hst := take_step32 L HL.out hlt
      have hpl : ((L.drop (k * 32)).take 32).length = 32 := by rw [List.length_take, List.length_drop, HL.out]; omega
      have htl : (L.take (32 * k)).length = 32 * k := by rw [List.length_take, HL.out]; omega
      have hpo := bv_one ((L.drop (k * 32)).take 32)
      have hbl : (bv ((L.drop (k * 32)).take 32)).length = 32 := by rw [bv_length]; exact hpl
      have hp1 : (((L.drop (k * 32)).take 32).take 16).length = 16 := by rw [List.length_take, hpl]; rfl
      have hp2 : (((L.drop (k * 32)).take 32).drop 16).length = 16 := by rw [List.length_drop, hpl]
      have hcb : Blk ((wr.alloc (.cells (bv ((L.drop (k * 32)).take 32)).toArray 71)).drew) wr.heap.size 71 (bv ((L.drop (k * 32)).take 32)) := (Blk.new _ _ _).keep (Ext.refl _).drew (by simp)
      have hk1 : Cells ((wr.alloc (.cells (bv ((L.drop (k * 32)).take 32)).toArray 71)).drew) ⟨wr.heap.size, 0, none⟩ (bv (((L.drop (k * 32)).take 32).take 16)) := by
        have h := hcb.cells.take 16
        have e : (bv ((L.drop (k * 32)).take 32)).take 16 = bv (((L.drop (k * 32)).take 32).take 16) := by simp [bv, List.map_take, List.map_drop]
        rw [e] at h; exact h
      have hk2 : Cells ((wr.alloc (.cells (bv ((L.drop (k * 32)).take 32)).toArray 71)).drew) ⟨wr.heap.size, 16, none⟩ (bv (((L.drop (k * 32)).take 32).drop 16)) := by
        have h := hcb.cells.drop 16
        have e : (bv ((L.drop (k * 32)).take 32)).drop 16 = bv (((L.drop (k * 32)).take 32).drop 16) := by simp [bv, List.map_take, List.map_drop]
        rw [addr_at, e] at h; exact h
      have hxw : Ext wr ((wr.alloc (.cells (bv ((L.drop (k * 32)).take 32)).toArray 71)).drew) := ((Ext.refl wr).alloc _).trans (Ext.refl _).drew
      have hou2 := hou.ext hxw
      have hx2 := hx.trans hxw
      have hb2 := hb1.keep hxw (by simp)
      have hlt0 := OwnB.lt hou
      generalize ((L.drop (k * 32)).take 32).take 16 = P1 at *
      generalize ((L.drop (k * 32)).take 32).drop 16 = P2 at *
      generalize bv ((L.drop (k * 32)).take 32) = PP at *
      have HX := Lib.hid hx2
      have HB := Lib.hid hb2
      have HO := Lib.hid hou2
      have HNE := Lib.hid hne
      have HLT := Lib.hid hlt0
      have HST := Lib.hid hst
      have HTL := Lib.hid htl
      have HBL := Lib.hid hbl
      have HP1 := Lib.hid hp1
      have HP2 := Lib.hid hp2
      have HK1 := Lib.hid hk1
      have HK2 := Lib.hid hk2
      have HCB := Lib.hid hcb
      have HPP := Lib.hid hpp
      clear hou hx hb1 hne hpl htl hbl hp1 hp2 hk1 hk2 hcb hxw hou2 hx2 hb2 hlt0 hst hpp
      go_wp2_with (first
        | (refine wpList_indexAgg (.inl rfl) 72 (.tmp 6) (.tmp 7) rfl B PP k 32 32 _ 71 _ rfl rfl Try.underlying72 hlt Try.underlying71 rfl (two_size rfl) HPP.out ?_)
        | (refine wpList_alloc _ rfl 71 rfl _ hzt ?_)
        | (refine wpList_store_new _ rfl 71 (.tmp 5) (.tmp 9) rfl rfl D PP _ rfl (two_size HBL.out) (by rw [HBL.out, HDL.out]) hpo ?_)
        | fail)
      refine startM (KeepB fun b => b = wr.heap.size) (by kernel_rfl) ?_
      (try simp only [Act.put, List.setIfInBounds_toArray, List.set_cons_succ, List.set_cons_zero])
      have hbg : wr.heap.size < (wr.alloc (.cells PP.toArray 71)).drew.heap.size := HCB.out.lt
      generalize (wr.alloc (.cells PP.toArray 71)).drew = w0 at *
      have HBG := Lib.hid hbg
      clear hbg
      have HNU : Hid (∀ b, u3.ownBlock = some b → b ≠ wr.heap.size) := Lib.hid fun b hb e => by have := HLT.out b hb; omega
      generalize wr.heap.size = gp at *
      refine takeK 0 rfl (by kernel_rfl) (by kernel_rfl) (by kernel_rfl) rfl (fun _ _ _ _ h => h) rfl (fun K hK => ?_)
      go_big_quiet_op
      first | refine hK _ ?_ | refine ⟨_, fun _ _ => rfl, hK _ ?_⟩
      clear hK K
      refine takeK 1 rfl (by kernel_rfl) (by kernel_rfl) (by kernel_rfl) rfl (fun _ _ _ _ h => h) rfl (fun K hK => ?_)
      go_big_quiet_op
      first | refine hK _ ?_ | refine ⟨_, fun _ _ => rfl, hK _ ?_⟩
      clear hK K
      refine takeK 2 rfl (by kernel_rfl) (by kernel_rfl) (by kernel_rfl) rfl (fun _ _ _ _ h => h) rfl (fun K hK => ?_)
      go_big_quiet_op
      first | refine hK _ ?_ | refine ⟨_, fun _ _ => rfl, hK _ ?_⟩
      clear hK K
      refine takeK 4 rfl (by kernel_rfl) (by kernel_rfl) (by kernel_rfl) rfl (fun _ _ _ _ h => h) rfl (fun K hK => ?_)
      go_big_quiet_op
      first | refine hK _ ?_ | refine ⟨_, fun _ _ => rfl, hK _ ?_⟩
      clear hK K
      refine takeK 5 rfl (by kernel_rfl) (by kernel_rfl) (by kernel_rfl) rfl (fun _ _ _ _ h => h) rfl (fun K hK => ?_)
      go_big_quiet_op
      first | refine hK _ ?_ | refine ⟨_, fun _ _ => rfl, hK _ ?_⟩
      clear hK K
      refine stepM 3 rfl (by kernel_rfl) rfl (fun K hK => ?_)
      refine wp_app _ (.tmp 10) (.tmp 12) _ _ rfl 5 5 i0 _ 1 1 Try.underlying55 Try.underlying55 hi hz0 hz1 hz2 rfl (by decide) u3 _ _ rfl HO.out _ 16 16 (bv P1) rfl (by simp [HP1.out]) (fun _ => ⟨_, rfl, HK1.out⟩) (bv_one _) (by rw [HTL.out]; unfold maxLen; omega) (by rw [HTL.out]; omega) ?_
      intro v8 w8 ho8 hm8
      have ho8' : OwnB w8 v8 (L.take (32 * k) ++ P1) := OwnB.app (by rw [HP1.out]; exact ho8)
      have HK28 := Lib.hid (HK2.out.keep (hm8.grown.block _ HBG.out (fun e => HNU.out _ e.symm rfl)))
      have HNE8 : Hid (∀ b, v8.ownBlock = some b → b ≠ gp) := Lib.hid (fun b hb e => by rcases hm8.at_ with h | h <;> first | exact HNU.out b (h.symm.trans hb) e | (have := h b hb; have := HBG.out; omega))
      refine hK _ _ (fun b hb => by subst hb; exact hm8.grown.block _ HBG.out (fun e => HNU.out _ e.symm rfl)) ?_
      clear hK K
      (try simp only [Act.put, List.setIfInBounds_toArray, List.set_cons_succ, List.set_cons_zero])
      refine stepM 6 rfl (by kernel_rfl) rfl (fun K hK => ?_)
      refine wp_app _ (.tmp 13) (.tmp 15) _ _ rfl 5 5 i0 _ 1 1 Try.underlying55 Try.underlying55 hi hz0 hz1 hz2 rfl (by decide) v8 _ _ rfl ho8' _ 16 16 (bv P2) rfl (by simp [HP2.out]) (fun _ => ⟨_, rfl, HK28.out⟩) (bv_one _) (by rw [List.length_append, HTL.out, HP1.out]; unfold maxLen; omega) (by rw [List.length_append, HTL.out, HP1.out]; omega) ?_
      intro v9 w9 ho9 hm9
      replace ho9 : OwnB w9 v9 (L.take (32 * k) ++ P1 ++ P2) := OwnB.app (by rw [HP2.out]; exact ho9)
      refine hK _ _ (fun b hb => by subst hb; exact hm9.grown.block _ (Nat.lt_of_lt_of_le HBG.out hm8.grown.size) (fun e => HNE8.out _ e.symm rfl)) ?_
      clear hK K
      (try simp only [Act.put, List.setIfInBounds_toArray, List.set_cons_succ, List.set_cons_zero])
      refine takeK 7 rfl (by kernel_rfl) (by kernel_rfl) (by kernel_rfl) rfl (fun _ _ _ _ h => h) rfl (fun K hK => ?_)
      go_big_quiet_op
      first | refine hK _ ?_ | refine ⟨_, fun _ _ => rfl, hK _ ?_⟩
      clear hK K
      refine doneM (by kernel_rfl) ?_ _
      have hm2 := hm8.trans hm9
      have hfr : ∀ b, u3.ownBlock = some b → w.heap.size ≤ b := fun b hb => by have := HNE.out b hb; omega
      have hx9 : Ext w w9 := grown_then HX.out hm2.grown (.inr hfr)
      have hb9 : Blk w9 (w.heap.size + 1) 31 D := HB.out.keep hm2.grown (fun e => by have := HNE.out _ e.symm; omega)
      have hne9 : ∀ b, v9.ownBlock = some b → w.heap.size + 2 ≤ b := fun b hb => by
        rcases hm2.at_ with e | hn
        · exact HNE.out b (e.symm.trans hb)
        · have h1 := hn b hb
          have h2 := HX.out.size
          have h3 := HB.out.lt
          omega
      have ho2 : OwnB w9 v9 (L.take (32 * (k + 1))) := by rw [HST.out, ← List.append_assoc]; exact ho9
      have HX9 := Lib.hid hx9
      have HB9 := Lib.hid hb9
      have HN9 := Lib.hid hne9
      have HO9 := Lib.hid ho2
      clear hm2 hb9 hne9 ho2 ho9 hm9 hx9
      go_wp2
      go_roundw
      case rel => exact ⟨k + 1, by omega, by go_num, HO9.out, HX9.out, HB9.out, HN9.out, _, rfl⟩
      case measure => simp [intOf]; omega
    · obtain rfl : k = 32 := by omega
      have ho := hou
      rw [show L.take (32 * 32) = L from List.take_of_length_le (by rw [HL.out]; decide)] at ho
      obtain ⟨A, c, hv⟩ := OwnB.form ho
      subst hv
      have h1 := ho.holds
      have hlt1 := OwnB.lt ho
      have hv := parts_new (w := wr) (T := 55) (n := 1) rfl rfl (by simp [maxLen]) (AllH.one (R := (Ty.sl .u8).holds _ _) h1) hlt1
      have hF : ∀ b, ((Value.slice A L.length c).ownBlock = some b ∨ b = wr.heap.size) → b < (wr.alloc (.cells #[Value.slice A L.length c] 55)).heap.size := by
        rintro b (hb | rfl)
        · have := hlt1 b hb; simp; omega
        · simp
      have hrl : (bv (sha (textM 2 [L]))).length = 32 := by rw [bv_length, sha_length]
      have hro := bv_one (sha (textM 2 [L]))
      have hfor := For_i 2 2 rfl _ [L] _ _ hv hF (by simp [blob, be_length, HL.out])
      have e2 : leafOf L = sha (textM 2 [L]) := rfl
      rw [← e2] at hrl hro hfor
      obtain ⟨R, hR⟩ : ∃ R, R = bv (leafOf L) := ⟨_, rfl⟩
      rw [← hR] at hrl hro hfor
      have HR := Lib.hid hR
      clear hR
      have HFOR := Lib.hid hfor
      have HRL := Lib.hid hrl
      have HX := Lib.hid (hx.alloc (.cells #[Value.slice A L.length c] 55))
      have HB := Lib.hid (hb1.keep ((Ext.refl wr).alloc (.cells #[Value.slice A L.length c] 55)) (by simp))
      clear hx hb1 hou ho h1 hlt1 hv hF hrl hfor hne e2
      generalize L.length = n at *
      clear HL HPC
      go_wp2_with fail
      refine (HFOR.out).mono ?_
      rintro e w4 ⟨rfl, hx4⟩
      have hr4 : w4.heap[w.heap.size + 1]? = some (.cells D.toArray 31 (0, 0)) := HB.out.keep hx4 (by simp)
      have hx5 := HX.out.trans hx4
      go_wp2_with (first
        | (refine wpList_store_row _ rfl 31 (.tmp 2) (.tmp 20) rfl (w.heap.size + 1) rfl D R _ rfl hr4 (digest_size HRL.out) (by rw [HRL.out, HDL.out]) hro ?_)
        | fail)
      have hc9 := Blk.cells (t := 31) (setRow_at (cs' := R.toArray) hr4)
      (try simp only [Exit.inBlock, Exit.then])
      refine bodyPost_ret (results_agg rfl _ _ _ _ _ rfl Try.underlying31 rfl (digest_size HRL.out) hc9) rfl ?_
      exact ⟨by rw [HR.out], setRow_grown hx5 _ _ (by omega)⟩
end
end Go.Proofs.Ytfoomnibfibfnaa

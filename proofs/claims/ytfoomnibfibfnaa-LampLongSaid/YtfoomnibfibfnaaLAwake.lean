/- Law 4's example: the signature of a digest leads to the leaf of its key, which isn't nothing. No condition. -/
import Derived.Test.YtfoomnibfibfnaaLFrom
import Derived.Test.YtfoomnibfibfnaaLKey
set_option linter.unusedVariables false
set_option linter.unusedSimpArgs false
set_option linter.unnecessarySimpa false
namespace Go.Proofs.Ytfoomnibfibfnaa
open Go.RowKit

theorem piecesM_congr {f g : Nat → List UInt8} : ∀ n, (∀ k, k < n → f k = g k) → piecesM f n = piecesM g n
  | 0, _ => rfl
  | n + 1, h => by rw [piecesM_succ, piecesM_succ, piecesM_congr n (fun k hk => h k (by omega)), h n (by omega)]
theorem sign_openB (seed : List UInt8) (n : Nat) (d : List UInt8) {k : Nat} (h : k < 32) : ((signM seed n d).drop (k * 16)).take 16 = openM seed n d k := by
  have e := pieceAt_pieces (f := openM seed n d) (fun _ => secretM_length _ _ _ _) h
  have hl : (piecesM (openM seed n d) 32).length = 512 := piecesM_length (f := openM seed n d) (fun _ => secretM_length _ _ _ _) 32
  unfold pieceAt at e
  rw [← e, signM, List.drop_append_of_le_length (by rw [hl]; omega), List.take_append_of_le_length (by rw [List.length_drop, hl]; omega), Nat.mul_comm 16 k]
theorem sign_otherB (seed : List UInt8) (n : Nat) (d : List UInt8) {k : Nat} (h : k < 32) : ((signM seed n d).drop (512 + k * 16)).take 16 = otherM seed n d k := by
  have e := pieceAt_pieces (f := otherM seed n d) (fun _ => coverM_length _) h
  have hl : (piecesM (openM seed n d) 32).length = 512 := piecesM_length (f := openM seed n d) (fun _ => secretM_length _ _ _ _) 32
  unfold pieceAt at e
  rw [← e, signM, ← List.drop_drop, List.drop_left' hl, Nat.mul_comm 16 k]
theorem fromS_sign (seed : List UInt8) (n : Nat) (d : List UInt8) : fromS (signM seed n d) d = leafM seed n := by
  unfold fromS leafM
  congr 1
  refine piecesM_congr (g := rowM seed n) 32 fun k hk => ?_
  unfold rowS
  rw [sign_openB seed n d hk, sign_otherB seed n d hk, row_back]
section
variable {P : Program} {w : World}
theorem wp_known {o : Oper} {a : Act} {K : Act → World → Prop} {Q : Exit → Act → World → Prop} (v : Value) (hr : (execOp a.eval o).run P w = .ok (.value v) w) (h : K (a.put o.dst v) w) : o.wp P a w K Q := by
  unfold Oper.wp
  rw [hr]
  exact h
theorem wp_bin2 {o : Oper} {a : Act} {K : Act → World → Prop} {Q : Exit → Act → World → Prop} (op : BinOp) (t : TypeId) {t' : TypeId} (x y : Operand) (ho : o.op = .binOp op t x y t') (u v : Value) {r : Value} (hx : a.eval x = u) (hy : a.eval y = v)
    (hg : (eqGuard op t x y u v).run P w = .ok () w) (hb : (binOp op t u v).run P w = .ok r w) (h : K (a.put o.dst r) w) : o.wp P a w K Q := by
  refine wp_known r ?_ h
  unfold execOp
  simp only [ho, hx, hy, Sem.run_bind, hg, hb, Result.andThen_ok, Sem.run_pure]
end
theorem eqD_self (D : List UInt8) (hD : D.length = 32) : (∀ (x y : Operand) (w : World), (eqGuard .eql 31 x y (.agg (bv D).toArray) (.agg (bv D).toArray)).run Try.prog w = .ok () w) ∧ ∀ w, (binOp .eql 31 (.agg (bv D).toArray) (.agg (bv D).toArray)).run Try.prog w = .ok (.bool true) w :=
  ⟨fun x y w => run_eqGuard w .eql 31 x y _ _ (.inl rfl) (by kernel_rfl), fun w => by have := run_eqD w 31 5 32 Try.underlying31 Try.underlying5 (by kernel_rfl) D D hD hD; rw [this, beq_self_eq_true]⟩
def fiveD : List UInt8 := 5 :: List.replicate 31 0
set_option maxRecDepth 100000 in
set_option maxHeartbeats 4000000 in
theorem LAwake (w : World) : Calls Try.prog 10 #[] w fun e w' => e = .returned (.bool true) ∧ Ext w w' := by
  have hzk := key_zero
  have hkzl := keyC_len (seed := List.replicate 32 0) (by simp) 0
  have hzd := digest_zero
  have hdz : (bv (List.replicate 32 0)).length = 32 := by simp
  have hnew := fun W => NewKey (List.replicate 32 0) (by simp) 0 W
  have hsg := fun W => Sign (List.replicate 32 0) (by simp) 0 (by decide) fiveD (by decide) W
  have hfr := fun W => From (signM (List.replicate 32 0) 0 fiveD) (signM_length _ _ _) fiveD (by decide) W
  have hlf := fun W => KLeaf (List.replicate 32 0) (by simp) 0 (by decide) W
  rw [fromS_sign] at hfr
  have hko := keyC_one (List.replicate 32 0) 0
  have heq := eqD_self (leafM (List.replicate 32 0) 0) (leafOf_length _)
  have hne : (∀ (x y : Operand) (w : World), (eqGuard .neq 31 x y (.agg (bv (leafM (List.replicate 32 0) 0)).toArray) (.agg (bv (List.replicate 32 0)).toArray)).run Try.prog w = .ok () w) ∧ ∀ w, (binOp .neq 31 (.agg (bv (leafM (List.replicate 32 0) 0)).toArray) (.agg (bv (List.replicate 32 0)).toArray)).run Try.prog w = .ok (.bool true) w :=
    ⟨fun x y w => run_eqGuard w .neq 31 x y _ _ (.inr rfl) (by kernel_rfl), fun w => by
      have := run_neD w 31 5 32 Try.underlying31 Try.underlying5 (by kernel_rfl) leafK (List.replicate 32 0) (by decide) (by simp)
      rw [leafM_zero, this]
      have e : (!(leafK == List.replicate 32 0)) = true := by decide
      rw [e]⟩
  have hdl : (bv fiveD).length = 32 := by decide
  have hdo := bv_one fiveD
  have hd5 : ∃ v, v = Value.agg (bv fiveD).toArray := ⟨_, rfl⟩
  have hz0 : ∃ ZB : List Value, ZB = bv (List.replicate 32 0) := ⟨_, rfl⟩
  obtain ⟨ZB, hzb⟩ := hz0
  obtain ⟨DB, hdb⟩ : ∃ DB : List Value, DB = bv fiveD := ⟨_, rfl⟩
  have hzb2 : ∀ (o : Oper) (a : Act) (w : World), o.op = .build 31 #[] → (execOp a.eval o).run Try.prog w = .ok (.value (.agg ZB.toArray)) w := by
    intro o a w ho
    rw [hzb]
    unfold execOp
    rw [ho]
    kernel_rfl
  rw [← hzb] at hzd hdz hnew hne
  rw [← hdb] at hsg hfr hdl hdo
  generalize bv (leafM (List.replicate 32 0) 0) = R at *
  generalize hSC : bv (signM (List.replicate 32 0) 0 fiveD) = SC at *
  clear hSC
  have hkz : keyC (List.replicate 32 0) 0 = keyC (List.replicate 32 0) 0 := rfl
  generalize keyC (List.replicate 32 0) 0 = KC at *
  have HZE := Lib.hid hzb
  have HDE := Lib.hid hdb
  have HKL := Lib.hid hkzl
  have HDL := Lib.hid hdl
  have HDZ := Lib.hid hdz
  have HNEW := Lib.hid hnew
  have HSG := Lib.hid hsg
  have HFR := Lib.hid hfr
  have HLF := Lib.hid hlf
  have HEQ := Lib.hid heq
  have HNE := Lib.hid hne
  have HZB2 := Lib.hid hzb2
  clear hzb hdb hkzl hdl hdz hnew hsg hfr hlf heq hne hzb2 hd5 hkz
  go_enter Try.func10, Try.ntmps10
  go_wp2_with (first
    | (refine wpList_build (.inl rfl) 22 _ rfl (.agg (bv (List.replicate 32 0)).toArray) (by kernel_rfl) ?_; rw [← HZE.out])
    | fail)
  refine (HNEW.out _).mono ?_
  rintro e w1 ⟨rfl, hx1⟩
  have hb0 : Blk ((w1.alloc (.cells KC.toArray 28)).alloc (.cells DB.toArray 31)).drew w1.heap.size 28 KC := ((Blk.new _ _ _).keep ((Ext.refl _).alloc _) (by simp)).keep (Ext.refl _).drew (by simp)
  have hb1 : Blk ((w1.alloc (.cells KC.toArray 28)).alloc (.cells DB.toArray 31)).drew (w1.heap.size + 1) 31 DB := (Blk.fresh (by simp) _ _).keep (Ext.refl _).drew (by simp)
  have hx2 : Ext w ((w1.alloc (.cells KC.toArray 28)).alloc (.cells DB.toArray 31)).drew := ((hx1.alloc _).alloc _).trans (Ext.refl _).drew
  have HB0 := Lib.hid hb0
  have HB1 := Lib.hid hb1
  have HX2 := Lib.hid hx2
  clear hb0 hb1 hx2
  go_wp2_with (first
    | (refine wpList_alloc _ rfl 28 rfl _ hzk ?_)
    | (refine wpList_store_new _ rfl 28 (.tmp 1) (.tmp 4) rfl rfl KC KC _ rfl (key_size HKL.out) rfl hko ?_)
    | (refine wpList_build (.inl rfl) 31 _ rfl (.agg (bv fiveD).toArray) (by kernel_rfl) ?_; rw [← HDE.out])
    | (refine wpList_alloc _ rfl 31 rfl _ hzd ?_)
    | (refine wpList_store_new _ rfl 31 (.tmp 2) (.tmp 5) rfl rfl ZB DB _ rfl (digest_size HDL.out) (by rw [HDL.out, HDZ.out]) hdo ?_)
    | fail)
  simp only [World.size_alloc]
  refine stab_plain Ext ext_refl ext_trans [[0], [1], [0, 1, 2], [3], [0, 1, 2, 3, 4], [5], [0, 1, 2, 3, 4, 5, 6], [0, 1, 2, 3, 4, 5, 6, 7], [0, 1, 2, 3, 4, 5, 6, 7, 8], [0, 1, 2, 3, 4, 5, 6, 7, 8, 9], [0, 1, 2, 3, 4, 5, 6, 7, 8, 9, 10], [0, 1, 2, 3, 4, 5, 6, 7, 8, 11], [0, 1, 2, 3, 4, 5, 6, 7, 8, 9, 10, 11, 12], [0, 1, 2, 3, 4, 5, 6, 7, 8, 9, 10, 11, 12, 13], [0, 1, 2, 3, 4, 5, 6, 7, 8, 9, 10, 11, 12, 13, 14]] (fun i v wv => match i with | 0 => v = .agg KC.toArray | 1 => v = .agg DB.toArray | 2 => v = .agg SC.toArray | 3 => v = .agg DB.toArray | 4 => v = .agg R.toArray | 5 => v = .agg KC.toArray | 6 => v = .agg R.toArray | 7 => v = .bool true | 8 => v = .bool true | 9 => v = .agg KC.toArray | 10 => v = .agg R.toArray | 11 => v = .agg ZB.toArray | 12 => v = .bool true | 13 => v = .bool true | 14 => v = .bool true | _ => True) (by kernel_rfl) (by kernel_rfl) (by kernel_rfl) ?_ ?_ ?_
  · intro i v w1 w2 h hx
    match i, h with
    | 0, h => exact h
    | 1, h => exact h
    | 2, h => exact h
    | 3, h => exact h
    | 4, h => exact h
    | 5, h => exact h
    | 6, h => exact h
    | 7, h => exact h
    | 8, h => exact h
    | 9, h => exact h
    | 10, h => exact h
    | 11, h => exact h
    | 12, h => exact h
    | 13, h => exact h
    | 14, h => exact h
    | i + 15, h => trivial
  · intro i hi o ho
    match i, hi, ho with
    | 0, _, ho =>
      obtain rfl := Option.some.inj ho
      intro s W hX hd K hK
      rw [if_pos (wanted_plain rfl)]
      clear hd
      replace hK : ∀ (v : Value) (W' : World), Ext W W' → (v = .agg KC.toArray) → _ := hK
      simp only [mkOf, List.map_cons, List.map_nil, Act.put, List.setIfInBounds_toArray, List.set_cons_succ, List.set_cons_zero, Nat.reduceAdd, Nat.zero_add] at hK ⊢
      refine wp_load_agg 28 (.tmp 1) rfl _ rfl KC _ Try.underlying28 rfl (key_size HKL.out) (HB0.out.keep hX (by simp)).cells ?_
      exact hK _ _ (Ext.refl _) rfl
    | 1, _, ho =>
      obtain rfl := Option.some.inj ho
      intro s W hX hd K hK
      rw [if_pos (wanted_plain rfl)]
      clear hd
      replace hK : ∀ (v : Value) (W' : World), Ext W W' → (v = .agg DB.toArray) → _ := hK
      simp only [mkOf, List.map_cons, List.map_nil, Act.put, List.setIfInBounds_toArray, List.set_cons_succ, List.set_cons_zero, Nat.reduceAdd, Nat.zero_add] at hK ⊢
      refine wp_load_agg 31 (.tmp 2) rfl _ rfl DB _ Try.underlying31 rfl (digest_size HDL.out) (HB1.out.keep hX (by simp)).cells ?_
      exact hK _ _ (Ext.refl _) rfl
    | 2, _, ho =>
      obtain rfl := Option.some.inj ho
      intro s W hX hd K hK
      rw [if_pos (wanted_plain rfl)]
      have d6 : (s 0) = .agg KC.toArray := hd 0 (by decide) (by decide)
      have d7 : (s 1) = .agg DB.toArray := hd 1 (by decide) (by decide)
      clear hd
      replace hK : ∀ (v : Value) (W' : World), Ext W W' → (v = .agg SC.toArray) → _ := hK
      simp only [mkOf, List.map_cons, List.map_nil, Act.put, List.setIfInBounds_toArray, List.set_cons_succ, List.set_cons_zero, Nat.reduceAdd, Nat.zero_add] at hK ⊢
      simp only [d6, d7] at hK ⊢
      go_simp
      refine (HSG.out _).mono ?_
      rintro e w' ⟨rfl, hx⟩
      exact hK _ _ hx rfl
    | 3, _, ho =>
      obtain rfl := Option.some.inj ho
      intro s W hX hd K hK
      rw [if_pos (wanted_plain rfl)]
      clear hd
      replace hK : ∀ (v : Value) (W' : World), Ext W W' → (v = .agg DB.toArray) → _ := hK
      simp only [mkOf, List.map_cons, List.map_nil, Act.put, List.setIfInBounds_toArray, List.set_cons_succ, List.set_cons_zero, Nat.reduceAdd, Nat.zero_add] at hK ⊢
      refine wp_load_agg 31 (.tmp 2) rfl _ rfl DB _ Try.underlying31 rfl (digest_size HDL.out) (HB1.out.keep hX (by simp)).cells ?_
      exact hK _ _ (Ext.refl _) rfl
    | 4, _, ho =>
      obtain rfl := Option.some.inj ho
      intro s W hX hd K hK
      rw [if_pos (wanted_plain rfl)]
      have d8 : (s 2) = .agg SC.toArray := hd 2 (by decide) (by decide)
      have d9 : (s 3) = .agg DB.toArray := hd 3 (by decide) (by decide)
      clear hd
      replace hK : ∀ (v : Value) (W' : World), Ext W W' → (v = .agg R.toArray) → _ := hK
      simp only [mkOf, List.map_cons, List.map_nil, Act.put, List.setIfInBounds_toArray, List.set_cons_succ, List.set_cons_zero, Nat.reduceAdd, Nat.zero_add] at hK ⊢
      simp only [d8, d9] at hK ⊢
      go_simp
      refine (HFR.out _).mono ?_
      rintro e w' ⟨rfl, hx⟩
      exact hK _ _ hx rfl
    | 5, _, ho =>
      obtain rfl := Option.some.inj ho
      intro s W hX hd K hK
      rw [if_pos (wanted_plain rfl)]
      clear hd
      replace hK : ∀ (v : Value) (W' : World), Ext W W' → (v = .agg KC.toArray) → _ := hK
      simp only [mkOf, List.map_cons, List.map_nil, Act.put, List.setIfInBounds_toArray, List.set_cons_succ, List.set_cons_zero, Nat.reduceAdd, Nat.zero_add] at hK ⊢
      refine wp_load_agg 28 (.tmp 1) rfl _ rfl KC _ Try.underlying28 rfl (key_size HKL.out) (HB0.out.keep hX (by simp)).cells ?_
      exact hK _ _ (Ext.refl _) rfl
    | 6, _, ho =>
      obtain rfl := Option.some.inj ho
      intro s W hX hd K hK
      rw [if_pos (wanted_plain rfl)]
      have d11 : (s 5) = .agg KC.toArray := hd 5 (by decide) (by decide)
      clear hd
      replace hK : ∀ (v : Value) (W' : World), Ext W W' → (v = .agg R.toArray) → _ := hK
      simp only [mkOf, List.map_cons, List.map_nil, Act.put, List.setIfInBounds_toArray, List.set_cons_succ, List.set_cons_zero, Nat.reduceAdd, Nat.zero_add] at hK ⊢
      simp only [d11] at hK ⊢
      go_simp
      refine (HLF.out _).mono ?_
      rintro e w' ⟨rfl, hx⟩
      exact hK _ _ hx rfl
    | 7, _, ho =>
      obtain rfl := Option.some.inj ho
      intro s W hX hd K hK
      rw [if_pos (wanted_plain rfl)]
      have d10 : (s 4) = .agg R.toArray := hd 4 (by decide) (by decide)
      have d12 : (s 6) = .agg R.toArray := hd 6 (by decide) (by decide)
      clear hd
      replace hK : ∀ (v : Value) (W' : World), Ext W W' → (v = .bool true) → _ := hK
      simp only [mkOf, List.map_cons, List.map_nil, Act.put, List.setIfInBounds_toArray, List.set_cons_succ, List.set_cons_zero, Nat.reduceAdd, Nat.zero_add] at hK ⊢
      simp only [d10, d12] at hK ⊢
      refine wp_bin2 .eql 31 (.tmp 10) (.tmp 12) rfl _ _ rfl rfl (HEQ.out.1 _ _ W) (HEQ.out.2 W) ?_
      exact hK _ _ (Ext.refl _) rfl
    | 8, _, ho =>
      obtain rfl := Option.some.inj ho
      intro s W hX hd K hK
      rw [if_pos (wanted_plain rfl)]
      have d13 : (s 7) = .bool true := hd 7 (by decide) (by decide)
      clear hd
      replace hK : ∀ (v : Value) (W' : World), Ext W W' → (v = .bool true) → _ := hK
      simp only [mkOf, List.map_cons, List.map_nil, Act.put, List.setIfInBounds_toArray, List.set_cons_succ, List.set_cons_zero, Nat.reduceAdd, Nat.zero_add] at hK ⊢
      simp only [d13] at hK ⊢
      go_simp
      exact hK _ _ (Ext.refl _) rfl
    | 9, _, ho =>
      obtain rfl := Option.some.inj ho
      intro s W hX hd K hK
      have d14 : (s 8) = .bool true := hd 8 (by decide) (by decide)
      clear hd
      replace hK : ∀ (v : Value) (W' : World), Ext W W' → (v = .agg KC.toArray) → _ := hK
      simp only [mkOf, List.map_cons, List.map_nil, Act.put, List.setIfInBounds_toArray, List.set_cons_succ, List.set_cons_zero, Nat.reduceAdd, Nat.zero_add] at hK ⊢
      simp only [d14] at hK ⊢
      rw [if_pos (by kernel_rfl)]
      refine wp_load_agg 28 (.tmp 1) rfl _ rfl KC _ Try.underlying28 rfl (key_size HKL.out) (HB0.out.keep hX (by simp)).cells ?_
      exact hK _ _ (Ext.refl _) rfl
    | 10, _, ho =>
      obtain rfl := Option.some.inj ho
      intro s W hX hd K hK
      have d14 : (s 8) = .bool true := hd 8 (by decide) (by decide)
      have d15 : (s 9) = .agg KC.toArray := hd 9 (by decide) (by decide)
      clear hd
      replace hK : ∀ (v : Value) (W' : World), Ext W W' → (v = .agg R.toArray) → _ := hK
      simp only [mkOf, List.map_cons, List.map_nil, Act.put, List.setIfInBounds_toArray, List.set_cons_succ, List.set_cons_zero, Nat.reduceAdd, Nat.zero_add] at hK ⊢
      simp only [d14, d15] at hK ⊢
      rw [if_pos (by kernel_rfl)]
      go_simp
      refine (HLF.out _).mono ?_
      rintro e w' ⟨rfl, hx⟩
      exact hK _ _ hx rfl
    | 11, _, ho =>
      obtain rfl := Option.some.inj ho
      intro s W hX hd K hK
      have d14 : (s 8) = .bool true := hd 8 (by decide) (by decide)
      clear hd
      replace hK : ∀ (v : Value) (W' : World), Ext W W' → (v = .agg ZB.toArray) → _ := hK
      simp only [mkOf, List.map_cons, List.map_nil, Act.put, List.setIfInBounds_toArray, List.set_cons_succ, List.set_cons_zero, Nat.reduceAdd, Nat.zero_add] at hK ⊢
      simp only [d14] at hK ⊢
      rw [if_pos (by kernel_rfl)]
      refine wp_known _ (HZB2.out _ _ W rfl) ?_
      exact hK _ _ (Ext.refl _) rfl
    | 12, _, ho =>
      obtain rfl := Option.some.inj ho
      intro s W hX hd K hK
      have d14 : (s 8) = .bool true := hd 8 (by decide) (by decide)
      have d16 : (s 10) = .agg R.toArray := hd 10 (by decide) (by decide)
      have d17 : (s 11) = .agg ZB.toArray := hd 11 (by decide) (by decide)
      clear hd
      replace hK : ∀ (v : Value) (W' : World), Ext W W' → (v = .bool true) → _ := hK
      simp only [mkOf, List.map_cons, List.map_nil, Act.put, List.setIfInBounds_toArray, List.set_cons_succ, List.set_cons_zero, Nat.reduceAdd, Nat.zero_add] at hK ⊢
      simp only [d14, d16, d17] at hK ⊢
      rw [if_pos (by kernel_rfl)]
      refine wp_bin2 .neq 31 (.tmp 16) (.tmp 17) rfl _ _ rfl rfl (HNE.out.1 _ _ W) (HNE.out.2 W) ?_
      exact hK _ _ (Ext.refl _) rfl
    | 13, _, ho =>
      obtain rfl := Option.some.inj ho
      intro s W hX hd K hK
      rw [if_pos (wanted_plain rfl)]
      have d14 : (s 8) = .bool true := hd 8 (by decide) (by decide)
      have d18 : (s 12) = .bool true := hd 12 (by decide) (by decide)
      clear hd
      replace hK : ∀ (v : Value) (W' : World), Ext W W' → (v = .bool true) → _ := hK
      simp only [mkOf, List.map_cons, List.map_nil, Act.put, List.setIfInBounds_toArray, List.set_cons_succ, List.set_cons_zero, Nat.reduceAdd, Nat.zero_add] at hK ⊢
      simp only [d14, d18] at hK ⊢
      go_simp
      exact hK _ _ (Ext.refl _) rfl
    | 14, _, ho =>
      obtain rfl := Option.some.inj ho
      intro s W hX hd K hK
      rw [if_pos (wanted_plain rfl)]
      have d19 : (s 13) = .bool true := hd 13 (by decide) (by decide)
      clear hd
      replace hK : ∀ (v : Value) (W' : World), Ext W W' → (v = .bool true) → _ := hK
      simp only [mkOf, List.map_cons, List.map_nil, Act.put, List.setIfInBounds_toArray, List.set_cons_succ, List.set_cons_zero, Nat.reduceAdd, Nat.zero_add] at hK ⊢
      simp only [d19] at hK ⊢
      go_simp
      exact hK _ _ (Ext.refl _) rfl
    | i + 15, hi, _ => exact absurd hi (by simp)
  · intro s W hX hd
    have d6 : (s 0) = .agg KC.toArray := hd 0 (by decide)
    have d7 : (s 1) = .agg DB.toArray := hd 1 (by decide)
    have d8 : (s 2) = .agg SC.toArray := hd 2 (by decide)
    have d9 : (s 3) = .agg DB.toArray := hd 3 (by decide)
    have d10 : (s 4) = .agg R.toArray := hd 4 (by decide)
    have d11 : (s 5) = .agg KC.toArray := hd 5 (by decide)
    have d12 : (s 6) = .agg R.toArray := hd 6 (by decide)
    have d13 : (s 7) = .bool true := hd 7 (by decide)
    have d14 : (s 8) = .bool true := hd 8 (by decide)
    have d15 : (s 9) = .agg KC.toArray := hd 9 (by decide)
    have d16 : (s 10) = .agg R.toArray := hd 10 (by decide)
    have d17 : (s 11) = .agg ZB.toArray := hd 11 (by decide)
    have d18 : (s 12) = .bool true := hd 12 (by decide)
    have d19 : (s 13) = .bool true := hd 13 (by decide)
    have d0 : (s 14) = .bool true := hd 14 (by decide)
    clear hd
    simp only [mkOf, List.map_cons, List.map_nil, Act.put, List.setIfInBounds_toArray, List.set_cons_succ, List.set_cons_zero, Nat.reduceAdd, Nat.zero_add]
    (try simp only [Exit.then])
    go_wp2
    go_ret
    exact ⟨by simp [d0], HX2.out.trans hX⟩
end Go.Proofs.Ytfoomnibfibfnaa

/- Walks and plain laws, put together in build order. Conditions: what each of them names. -/
import Derived.Test.YtfoomnibfibfnaaWae81d94234
set_option linter.unusedVariables false
set_option linter.unusedSimpArgs false
set_option linter.unnecessarySimpa false
namespace Go.Proofs.Ytfoomnibfibfnaa
section
open Go.RowKit

theorem quiet_binK {P : Program} {C : World → Prop} {o : Oper} {a : Act} {K : Act → Prop} (op : BinOp) (t t' : TypeId) (x y : Operand) (ho : o.op = .binOp op t x y t') (u v : Value) (hx : a.eval x = u) (hy : a.eval y = v) (r : Value)
    (hg : ∀ (x y : Operand) (w : World), (eqGuard op t x y u v).run P w = .ok () w) (hr : ∀ w : World, (binOp op t u v).run P w = .ok r w) (hk : K (a.put o.dst r)) : o.quiet P a C K :=
  quiet_run _ (fun w _ => by
    unfold execOp
    simp only [ho, hx, hy, Sem.run_bind, hg, hr, Result.andThen_ok, Sem.run_pure]) hk
theorem dig_size {n : Nat} (h : n = 32) : (Try.prog.info? 31).map (·.size) = some n := by subst h; kernel_rfl
theorem dig_zero : (Try.prog.info? 31).bind (fun i => i.zero.map (·.cells)) = some (bv (List.replicate 32 0)).toArray := by kernel_rfl
theorem dig_eq (op : BinOp) (hop : op = .eql ∨ op = .neq) (x y : List UInt8) (hx : x.length = 32) (hy : y.length = 32) : (∀ (a b : Operand) (w : World), (eqGuard op 31 a b (.agg (bv x).toArray) (.agg (bv y).toArray)).run Try.prog w = .ok () w) ∧
    ∀ w : World, (binOp op 31 (.agg (bv x).toArray) (.agg (bv y).toArray)).run Try.prog w = .ok (.bool (if op = .eql then x == y else !(x == y))) w := by
  have hu8 : (Try.prog.info? 5).map (·.size) = some 1 := by kernel_rfl
  have hgt : Try.prog.eqGuardType Try.prog.depth 31 = false := by kernel_rfl
  refine ⟨fun a b w => run_eqGuard w op _ a b _ _ hop hgt, fun w => ?_⟩
  rcases hop with rfl | rfl
  · rw [if_pos rfl]
    exact run_eqD w 31 5 32 Try.underlying31 Try.underlying5 hu8 x y hx hy
  · rw [if_neg (by decide)]
    exact run_neD w 31 5 32 Try.underlying31 Try.underlying5 hu8 x y hx hy
theorem fromS_bits (S d e : List UInt8) (h : ∀ k, k < 32 → bitM d k = bitM e k) : fromS S d = fromS S e := by
  unfold fromS
  exact congrArg leafOf (piecesM_congr 32 (fun k hk => by unfold rowS; rw [h k hk]))
theorem fromS_length (S d : List UInt8) : (fromS S d).length = 32 := leafOf_length _
/-- One byte turned: that piece is another. -/
theorem turn_op {S : List UInt8} (hS : S.length = 1024) {k j : Nat} (hk : k < 32) (hj : j < 16) (v : UInt8) (hv : v ≠ S[k * 16 + j]'(by omega)) : opS S k ≠ opS (S.set (k * 16 + j) v) k := by
  intro h
  have := congrArg (fun l => l[j]?) h
  simp only [opS, List.getElem?_take, List.getElem?_drop, if_pos hj] at this
  rw [List.getElem?_set_self (by omega), List.getElem?_eq_getElem (by omega)] at this
  exact hv (Option.some.inj this).symm
theorem turn_ot {S : List UInt8} (hS : S.length = 1024) {k j : Nat} (hk : k < 32) (hj : j < 16) (v : UInt8) (hv : v ≠ S[512 + k * 16 + j]'(by omega)) : otS S k ≠ otS (S.set (512 + k * 16 + j) v) k := by
  intro h
  have := congrArg (fun l => l[j]?) h
  simp only [otS, List.getElem?_take, List.getElem?_drop, if_pos hj] at this
  rw [List.getElem?_set_self (by omega), List.getElem?_eq_getElem (by omega)] at this
  exact hv (Option.some.inj this).symm
theorem xor_ne {b x : UInt8} (h : x ≠ 0) : b ^^^ x ≠ b := by
  intro e
  apply h
  have := congrArg (b ^^^ ·) e
  simpa [← UInt8.xor_assoc] using this
theorem xor_u8 (a b : UInt8) : bits .xor .u8 (a.toNat : Int) (b.toNat : Int) = ((a ^^^ b).toNat : Int) := by
  have ha := a.toNat_lt
  have hb := b.toNat_lt
  rw [UInt8.toNat_xor]
  have hx : a.toNat ^^^ b.toNat < 2 ^ 8 := Nat.xor_lt_two_pow (by omega) (by omega)
  have h1 : (BitVec.ofInt 8 (a.toNat : Int)).toNat = a.toNat := by
    rw [BitVec.ofInt_natCast, BitVec.toNat_ofNat]; exact Nat.mod_eq_of_lt (by omega)
  have h2 : (BitVec.ofInt 8 (b.toNat : Int)).toNat = b.toNat := by
    rw [BitVec.ofInt_natCast, BitVec.toNat_ofNat]; exact Nat.mod_eq_of_lt (by omega)
  have hw : ∀ n : Int, IntKind.u8.wrap n = n % 256 := fun n => by simp [IntKind.wrap, IntKind.bits, IntKind.signed]
  show IntKind.u8.wrap ((BitVec.ofInt 8 (a.toNat : Int) ^^^ BitVec.ofInt 8 (b.toNat : Int)).toNat : Int) = _
  rw [BitVec.toNat_xor, h1, h2, hw]
  omega
set_option maxRecDepth 100000 in
set_option maxHeartbeats 8000000 in
theorem Sound (seed : List UInt8) (hs : seed.length = 32) (n : Nat) (hn : (Lit.int .u32 (n : Int)).wf = true) (d e : List UInt8) (hd : d.length = 32) (he : e.length = 32) (at_ : Nat) (hat : at_ < 65536) (x : UInt8) (w : World) :
    Calls Try.prog 5 #[.agg (bv seed).toArray, .int .u32 (n : Int), .agg (bv d).toArray, .agg (bv e).toArray, .int .u16 (at_ : Int), .int .u8 (x.toNat : Int)] w fun en w' => en = .returned (.bool true) ∧ Ext w w' := by
  have hdl : (bv d).length = 32 := by rw [bv_length]; exact hd
  have hel : (bv e).length = 32 := by rw [bv_length]; exact he
  have hsl : (bv seed).length = 32 := by rw [bv_length]; exact hs
  have HNEW := Lib.hid (fun W => NewKey seed hs n W)
  have HLF := Lib.hid (fun W => KLeaf seed hs n hn W)
  have HSG := Lib.hid (fun W => Sign seed hs n hn d hd W)
  have hfd := fun W => From (signM seed n d) (signM_length _ _ _) d hd W
  rw [fromS_sign] at hfd
  have HFD := Lib.hid hfd
  have HFE := Lib.hid (fun W => From (signM seed n d) (signM_length _ _ _) e he W)
  have HF4 := Lib.hid (fun W => From04 (bv (signM seed n d)) W (by rw [bv_length, signM_length]) (bv_one _))
  have HMT := Lib.hid (fun W => Met (signM seed n d) (signM seed n d) d e (signM_length _ _ _) (signM_length _ _ _) hd he W)
  have hfrom : (∀ k, k < 32 → bitM d k = bitM e k) → fromS (signM seed n d) e = leafM seed n := fun h => by rw [← fromS_bits _ d e h, fromS_sign]
  have hbits : fromS (signM seed n d) e = leafM seed n → (¬ ∀ k, k < 32 → bitM d k = bitM e k) → MetP (signM seed n d) (signM seed n d) d e := fun h1 h2 => by
    obtain ⟨k, hk, hb⟩ : ∃ k, k < 32 ∧ bitM d k ≠ bitM e k := Classical.byContradiction fun hc => h2 (fun k hk => Classical.byContradiction fun hb => hc ⟨k, hk, hb⟩)
    exact sound_bits (signM_length _ _ _) (by rw [fromS_sign, h1]) hk hb
  have HTU := Lib.hid (fun T k (hT : T.length = 1024) (h : fromS T d = leafM seed n) (hk : k < 32) hb => sound_turn (T := T) (d := d) (signM_length seed n d) hT (by rw [fromS_sign, h]) hk hb)
  have HNE := Lib.hid (show _ ∧ ∀ w : World, (binOp .neq 31 (.agg (bv (leafM seed n)).toArray) (.agg (bv (leafM seed n)).toArray)).run Try.prog w = .ok (.bool false) w from ⟨(dig_eq .neq (.inr rfl) (leafM seed n) (leafM seed n) (leafOf_length _) (leafOf_length _)).1, fun w => by
    have := (dig_eq .neq (.inr rfl) (leafM seed n) (leafM seed n) (leafOf_length _) (leafOf_length _)).2 w
    simpa using this⟩)
  have HDQ := Lib.hid (fun y (hy : y.length = 32) => dig_eq .eql (.inl rfl) y (leafM seed n) hy (leafOf_length _))
  have HDN := Lib.hid (fun y (hy : y.length = 32) => dig_eq .neq (.inr rfl) y (leafM seed n) hy (leafOf_length _))
  have HFROM := Lib.hid hfrom
  have HBITS := Lib.hid hbits
  obtain ⟨ZK, hzk, hzkl⟩ : ∃ ZK : List Value, (Try.prog.info? 28).bind (fun i => i.zero.map (·.cells)) = some ZK.toArray ∧ ZK.length = 33 := ⟨_, key_zero, keyC_len (by simp) 0⟩
  obtain ⟨ZG, hzg, hzgl⟩ : ∃ Z : List Value, (Try.prog.info? 43).bind (fun i => i.zero.map (·.cells)) = some Z.toArray ∧ Z.length = 1024 := ⟨_, zSigTo04, List.length_replicate⟩
  obtain ⟨ZR, hzr, hzrl⟩ : ∃ Z : List Value, (Try.prog.info? 38).bind (fun i => i.zero.map (·.cells)) = some Z.toArray ∧ Z.length = 1024 := ⟨_, zSigFrom04, List.length_replicate⟩
  have hzd := dig_zero
  have HKL := Lib.hid (keyC_len hs n)
  have hko := keyC_one seed n
  have HZKL := Lib.hid hzkl
  have HZGL := Lib.hid hzgl
  have HZRL := Lib.hid hzrl
  have HGL := Lib.hid (show (bv (signM seed n d)).length = 1024 by rw [bv_length, signM_length])
  have HLL := Lib.hid (show (bv (leafM seed n)).length = 32 by rw [bv_length]; exact leafOf_length _)
  have HSL := Lib.hid hsl
  have HDL := Lib.hid hdl
  have HEL := Lib.hid hel
  have HD := Lib.hid hd
  have HE := Lib.hid he
  clear hfd hfrom hbits hsl hdl hel hzkl hzgl hzrl hs hd he
  go_enter Try.func5, Try.ntmps5
  have h6 : Blk (((w.alloc (.cells (bv seed).toArray 22)).alloc (.cells (bv d).toArray 22)).alloc (.cells (bv e).toArray 22)) w.heap.size 22 (bv seed) := ((Blk.new _ _ _).keep ((Ext.refl _).alloc _) (by simp)).keep ((Ext.refl _).alloc _) (by simp)
  have h8 : Blk (((w.alloc (.cells (bv seed).toArray 22)).alloc (.cells (bv d).toArray 22)).alloc (.cells (bv e).toArray 22)) (w.heap.size + 1) 22 (bv d) := (Blk.fresh (by simp) _ _).keep ((Ext.refl _).alloc _) (by simp)
  have h9 : Blk (((w.alloc (.cells (bv seed).toArray 22)).alloc (.cells (bv d).toArray 22)).alloc (.cells (bv e).toArray 22)) (w.heap.size + 1 + 1) 22 (bv e) := Blk.fresh (by simp) _ _
  have hx0 : Ext w (((w.alloc (.cells (bv seed).toArray 22)).alloc (.cells (bv d).toArray 22)).alloc (.cells (bv e).toArray 22)) := (((Ext.refl w).alloc _).alloc _).alloc _
  go_wp2_with (first
    | ((with_reducible refine wpDst 20 rfl ?_); refine wpList_load_agg _ rfl 22 _ rfl _ rfl (bv seed) _ Try.underlying22 rfl (b32_size HSL.out) (by exact h6.cells) ?_)
    | fail)
  generalize (((w.alloc (.cells (bv seed).toArray 22)).alloc (.cells (bv d).toArray 22)).alloc (.cells (bv e).toArray 22)) = w1 at h6 h8 h9 hx0 ⊢
  refine (HNEW.out w1).mono ?_
  rintro en w2 ⟨rfl, hx1⟩
  have hx2 : Ext w1 (w2.alloc (.cells (keyC seed n).toArray 28)) := hx1.alloc _
  have k8 := h8.keep hx2 (by simp)
  have k9 := h9.keep hx2 (by simp)
  have k13 : Blk (w2.alloc (.cells (keyC seed n).toArray 28)) w2.heap.size 28 (keyC seed n) := Blk.new _ _ _
  have hxk := hx0.trans hx2
  clear h6 h8 h9 hx0 hx1 hx2
  go_wp2_with (first
    | ((with_reducible refine wpDst 13 rfl ?_); refine wpList_alloc _ rfl 28 rfl _ hzk ?_)
    | ((with_reducible refine wpSto 13 22 rfl ?_); refine wpList_storeN rfl 28 _ _ rfl _ rfl ZK (keyC seed n) _ rfl rfl (key_size HKL.out) (by rw [HKL.out, HZKL.out]) hko ?_)
    | ((with_reducible refine wpDst 23 rfl ?_); refine wpList_load_agg _ rfl 28 _ rfl _ rfl (keyC seed n) _ Try.underlying28 rfl (key_size HKL.out) (by exact k13.cells) ?_)
    | ((with_reducible refine wpDst 24 rfl ?_); refine wpList_load_agg _ rfl 22 _ rfl _ rfl (bv d) _ Try.underlying22 rfl (b32_size HDL.out) (by exact k8.cells) ?_)
    | fail)
  generalize w2.alloc (.cells (keyC seed n).toArray 28) = w3 at k8 k9 k13 hxk ⊢
  generalize w2.heap.size = g13 at k13 ⊢
  refine (HSG.out w3).mono ?_
  rintro en w4 ⟨rfl, hx1⟩
  have hx2 : Ext w3 (w4.alloc (.cells (bv (signM seed n d)).toArray 43)) := hx1.alloc _
  have m8 := k8.keep hx2 (by simp)
  have m9 := k9.keep hx2 (by simp)
  have m13 := k13.keep hx2 (by simp)
  have m14 : Blk (w4.alloc (.cells (bv (signM seed n d)).toArray 43)) w4.heap.size 43 (bv (signM seed n d)) := Blk.new _ _ _
  have hxm := hxk.trans hx2
  clear k8 k9 k13 hxk hx1 hx2
  go_wp2_with (first
    | ((with_reducible refine wpDst 14 rfl ?_); refine wpList_alloc _ rfl 43 rfl _ hzg ?_)
    | ((with_reducible refine wpSto 14 25 rfl ?_); refine wpList_storeN rfl 43 _ _ rfl _ rfl ZG (bv (signM seed n d)) _ rfl rfl (sig_size HGL.out) (by rw [HGL.out, HZGL.out]) (bv_one _) ?_)
    | ((with_reducible refine wpDst 26 rfl ?_); refine wpList_load_agg _ rfl 28 _ rfl _ rfl (keyC seed n) _ Try.underlying28 rfl (key_size HKL.out) (by exact m13.cells) ?_)
    | fail)
  generalize w4.alloc (.cells (bv (signM seed n d)).toArray 43) = w5 at m8 m9 m13 m14 hxm ⊢
  generalize w4.heap.size = g14 at m14 ⊢
  refine (HLF.out w5).mono ?_
  rintro en w6 ⟨rfl, hx1⟩
  have hx2 : Ext w5 (w6.alloc (.cells (bv (leafM seed n)).toArray 31)) := hx1.alloc _
  have HB8 := Lib.hid (m8.keep hx2 (by simp))
  have HB9 := Lib.hid (m9.keep hx2 (by simp))
  have HB14 := Lib.hid (m14.keep hx2 (by simp))
  have HB15 := Lib.hid (show Blk (w6.alloc (.cells (bv (leafM seed n)).toArray 31)) w6.heap.size 31 (bv (leafM seed n)) from Blk.new _ _ _)
  have HX := Lib.hid (hxm.trans hx2)
  clear m8 m9 m13 m14 hxm hx1 hx2
  go_wp2_with (first
    | ((with_reducible refine wpDst 15 rfl ?_); refine wpList_alloc _ rfl 31 rfl _ hzd ?_)
    | ((with_reducible refine wpSto 15 27 rfl ?_); refine wpList_storeN rfl 31 _ _ rfl _ rfl (bv (List.replicate 32 0)) (bv (leafM seed n)) _ rfl rfl (dig_size HLL.out) (by rw [HLL.out]; rfl) (bv_one _) ?_)
    | fail)
  generalize w6.alloc (.cells (bv (leafM seed n)).toArray 31) = w7 at HB8 HB9 HB14 HB15 HX ⊢
  generalize w6.heap.size = g15 at HB15 ⊢
  refine startM Since (by kernel_rfl) ?_
  (try simp only [Act.put, List.setIfInBounds_toArray, List.set_cons_succ, List.set_cons_zero])
  have hxx : Ext w7 w7.drew := (Ext.refl _).drew
  generalize w7.drew = w0 at hxx ⊢
  refine stepM 0 rfl (by kernel_rfl) rfl (fun K hK => ?_)
  go_simp
  refine (LAwake _).mono ?_
  rintro en w' ⟨rfl, hx'⟩
  have hk := hx'
  replace hxx := hxx.trans hx'
  clear hx'
  refine hK _ _ (hk) ?_
  clear hK K
  refine takeE 1 rfl (by kernel_rfl) (by kernel_rfl) (by kernel_rfl) rfl (fun _ _ _ _ h => h) rfl (fun K hK => ?_)
  go_big_quiet_op
  first | refine hK _ ?_ | refine ⟨_, fun _ _ => rfl, hK _ ?_⟩
  clear hK K
  refine takeE 2 rfl (by kernel_rfl) (by kernel_rfl) (by kernel_rfl) rfl (fun _ _ _ _ h => h) rfl (fun K hK => ?_)
  go_big_quiet_op
  first | refine hK _ ?_ | refine ⟨_, fun _ _ => rfl, hK _ ?_⟩
  clear hK K
  refine takeE 3 rfl (by kernel_rfl) (by kernel_rfl) (by kernel_rfl) rfl (fun _ _ _ _ h => h) rfl (fun K hK => ?_)
  refine quiet_agg 43 _ rfl _ rfl (bv (signM seed n d)) _ Try.underlying43 rfl (sig_size HGL.out) (fun W' h => (HB14.out.keep (hxx.trans h.ext) (by simp)).cells) ?_
  refine hK _ ?_
  simp only [Act.put, List.setIfInBounds_toArray, List.set_cons_succ, List.set_cons_zero]
  clear hK K
  refine takeE 4 rfl (by kernel_rfl) (by kernel_rfl) (by kernel_rfl) rfl (fun _ _ _ _ h => h) rfl (fun K hK => ?_)
  refine quiet_agg 22 _ rfl _ rfl (bv d) _ Try.underlying22 rfl (b32_size HDL.out) (fun W' h => (HB8.out.keep (hxx.trans h.ext) (by simp)).cells) ?_
  refine hK _ ?_
  simp only [Act.put, List.setIfInBounds_toArray, List.set_cons_succ, List.set_cons_zero]
  clear hK K
  refine takeE 6 rfl (by kernel_rfl) (by kernel_rfl) (by kernel_rfl) rfl (fun _ _ _ _ h => h) rfl (fun K hK => ?_)
  refine quiet_agg 31 _ rfl _ rfl (bv (leafM seed n)) _ Try.underlying31 rfl (dig_size HLL.out) (fun W' h => (HB15.out.keep (hxx.trans h.ext) (by simp)).cells) ?_
  refine hK _ ?_
  simp only [Act.put, List.setIfInBounds_toArray, List.set_cons_succ, List.set_cons_zero]
  clear hK K
  refine stepM 5 rfl (by kernel_rfl) rfl (fun K hK => ?_)
  go_simp
  refine (HFD.out _).mono ?_
  rintro en w' ⟨rfl, hx'⟩
  have hk := hx'
  replace hxx := hxx.trans hx'
  clear hx'
  refine hK _ _ (hk) ?_
  clear hK K
  refine takeE 7 rfl (by kernel_rfl) (by kernel_rfl) (by kernel_rfl) rfl (fun _ _ _ _ h => h) rfl (fun K hK => ?_)
  refine quiet_binK .neq 31 _ _ _ rfl _ _ rfl rfl (.bool false) (HNE.out.1) (HNE.out.2) ?_
  refine hK _ ?_
  simp only [Act.put, List.setIfInBounds_toArray, List.set_cons_succ, List.set_cons_zero]
  clear hK K
  refine takeE 8 rfl (by kernel_rfl) (by kernel_rfl) (by kernel_rfl) rfl (fun _ _ _ _ h => h) rfl (fun K hK => ?_)
  go_big_quiet_op
  first | refine hK _ ?_ | refine ⟨_, fun _ _ => rfl, hK _ ?_⟩
  clear hK K
  refine doneM (by kernel_rfl) ?_ _
  (try simp only [Exit.then])
  have hxs : Ext w7 w' := hxx
  go_wp2_with fail
  go_loopw [16, 37] (fun sm i wr => ∃ (k : Nat) (b : Bool), k ≤ 32 ∧ i = .int .i64 k ∧ sm = .bool b ∧ Ext w7 wr ∧ (b = true ↔ ∀ j, j < k → bitM d j = bitM e j)) (fun _ i _ => 32 - (intOf i).toNat)
  case atStart => exact ⟨0, true, by omega, rfl, rfl, hxs, by simp⟩
  case round =>
    clear hxs hxx
    obtain ⟨k, b, hk, rfl, rfl, hx, hiff⟩ := hrel
    have HIFF := Lib.hid hiff
    clear hiff
    by_cases hlt : k < 32
    · cases b
      · go_wp2_with fail
        refine startM Since (by kernel_rfl) ?_
        (try simp only [Act.put, List.setIfInBounds_toArray, List.set_cons_succ, List.set_cons_zero])
        have hxx : Ext w7 wr.drew := hx.drew
        generalize wr.drew = w0 at hxx ⊢
        refine takeE 0 rfl (by kernel_rfl) (by kernel_rfl) (by kernel_rfl) rfl (fun _ _ _ _ h => h) rfl (fun K hK => ?_)
        go_big_quiet_op
        first | refine hK _ ?_ | refine ⟨_, fun _ _ => rfl, hK _ ?_⟩
        clear hK K
        refine takeE 1 rfl (by kernel_rfl) (by kernel_rfl) (by kernel_rfl) rfl (fun _ _ _ _ h => h) rfl (fun K hK => ?_)
        go_big_quiet_op
        first | refine hK _ ?_ | refine ⟨_, fun _ _ => rfl, hK _ ?_⟩
        clear hK K
        refine skipE 2 rfl (by kernel_rfl) (by kernel_rfl) (by kernel_rfl) (fun _ _ _ _ h => h) rfl ?_
        (try simp only [Act.put, List.setIfInBounds_toArray, List.set_cons_succ, List.set_cons_zero])
        refine skipE 3 rfl (by kernel_rfl) (by kernel_rfl) (by kernel_rfl) (fun _ _ _ _ h => h) rfl ?_
        (try simp only [Act.put, List.setIfInBounds_toArray, List.set_cons_succ, List.set_cons_zero])
        refine skipE 4 rfl (by kernel_rfl) (by kernel_rfl) (by kernel_rfl) (fun _ _ _ _ h => h) rfl ?_
        (try simp only [Act.put, List.setIfInBounds_toArray, List.set_cons_succ, List.set_cons_zero])
        refine skipE 5 rfl (by kernel_rfl) (by kernel_rfl) (by kernel_rfl) (fun _ _ _ _ h => h) rfl ?_
        (try simp only [Act.put, List.setIfInBounds_toArray, List.set_cons_succ, List.set_cons_zero])
        refine skipE 6 rfl (by kernel_rfl) (by kernel_rfl) (by kernel_rfl) (fun _ _ _ _ h => h) rfl ?_
        (try simp only [Act.put, List.setIfInBounds_toArray, List.set_cons_succ, List.set_cons_zero])
        refine skipE 7 rfl (by kernel_rfl) (by kernel_rfl) (by kernel_rfl) (fun _ _ _ _ h => h) rfl ?_
        (try simp only [Act.put, List.setIfInBounds_toArray, List.set_cons_succ, List.set_cons_zero])
        refine skipE 8 rfl (by kernel_rfl) (by kernel_rfl) (by kernel_rfl) (fun _ _ _ _ h => h) rfl ?_
        (try simp only [Act.put, List.setIfInBounds_toArray, List.set_cons_succ, List.set_cons_zero])
        refine takeE 9 rfl (by kernel_rfl) (by kernel_rfl) (by kernel_rfl) rfl (fun _ _ _ _ h => h) rfl (fun K hK => ?_)
        go_big_quiet_op
        first | refine hK _ ?_ | refine ⟨_, fun _ _ => rfl, hK _ ?_⟩
        clear hK K
        refine takeE 10 rfl (by kernel_rfl) (by kernel_rfl) (by kernel_rfl) rfl (fun _ _ _ _ h => h) rfl (fun K hK => ?_)
        go_big_quiet_op
        first | refine hK _ ?_ | refine ⟨_, fun _ _ => rfl, hK _ ?_⟩
        clear hK K
        refine doneM (by kernel_rfl) ?_ _
        (try simp only [Exit.inBlock, Exit.then])
        go_wp2_with fail
        go_roundw
        case rel => exact ⟨k + 1, false, by omega, by go_num, rfl, hxx, by
          constructor
          · intro h; cases h
          · intro h; exact HIFF.out.2 (fun j hj => h j (by omega))⟩
        case measure => simp [intOf]; omega
      · go_wp2_with fail
        refine startM Since (by kernel_rfl) ?_
        (try simp only [Act.put, List.setIfInBounds_toArray, List.set_cons_succ, List.set_cons_zero])
        have hxx : Ext w7 wr.drew := hx.drew
        generalize wr.drew = w0 at hxx ⊢
        refine takeE 0 rfl (by kernel_rfl) (by kernel_rfl) (by kernel_rfl) rfl (fun _ _ _ _ h => h) rfl (fun K hK => ?_)
        go_big_quiet_op
        first | refine hK _ ?_ | refine ⟨_, fun _ _ => rfl, hK _ ?_⟩
        clear hK K
        refine takeE 1 rfl (by kernel_rfl) (by kernel_rfl) (by kernel_rfl) rfl (fun _ _ _ _ h => h) rfl (fun K hK => ?_)
        go_big_quiet_op
        first | refine hK _ ?_ | refine ⟨_, fun _ _ => rfl, hK _ ?_⟩
        clear hK K
        refine takeE 2 rfl (by kernel_rfl) (by kernel_rfl) (by kernel_rfl) rfl (fun _ _ _ _ h => h) rfl (fun K hK => ?_)
        refine quiet_agg 22 _ rfl _ rfl (bv d) _ Try.underlying22 rfl (b32_size HDL.out) (fun W' h => (HB8.out.keep (hxx.trans h.ext) (by simp)).cells) ?_
        refine hK _ ?_
        simp only [Act.put, List.setIfInBounds_toArray, List.set_cons_succ, List.set_cons_zero]
        clear hK K
        refine takeE 3 rfl (by kernel_rfl) (by kernel_rfl) (by kernel_rfl) rfl (fun _ _ _ _ h => h) rfl (fun K hK => ?_)
        go_big_quiet_op
        first | refine hK _ ?_ | refine ⟨_, fun _ _ => rfl, hK _ ?_⟩
        clear hK K
        refine takeE 5 rfl (by kernel_rfl) (by kernel_rfl) (by kernel_rfl) rfl (fun _ _ _ _ h => h) rfl (fun K hK => ?_)
        refine quiet_agg 22 _ rfl _ rfl (bv e) _ Try.underlying22 rfl (b32_size HEL.out) (fun W' h => (HB9.out.keep (hxx.trans h.ext) (by simp)).cells) ?_
        refine hK _ ?_
        simp only [Act.put, List.setIfInBounds_toArray, List.set_cons_succ, List.set_cons_zero]
        clear hK K
        refine takeE 6 rfl (by kernel_rfl) (by kernel_rfl) (by kernel_rfl) rfl (fun _ _ _ _ h => h) rfl (fun K hK => ?_)
        go_big_quiet_op
        first | refine hK _ ?_ | refine ⟨_, fun _ _ => rfl, hK _ ?_⟩
        clear hK K
        refine stepM 4 rfl (by kernel_rfl) rfl (fun K hK => ?_)
        go_simp
        refine (RBit d HD.out k hlt _).mono ?_
        rintro en w' ⟨rfl, hx'⟩
        have hk := hx'
        replace hxx := hxx.trans hx'
        clear hx'
        refine hK _ _ (hk) ?_
        clear hK K
        refine stepM 7 rfl (by kernel_rfl) rfl (fun K hK => ?_)
        go_simp
        refine (RBit e HE.out k hlt _).mono ?_
        rintro en w' ⟨rfl, hx'⟩
        have hk := hx'
        replace hxx := hxx.trans hx'
        clear hx'
        refine hK _ _ (hk) ?_
        clear hK K
        refine takeE 8 rfl (by kernel_rfl) (by kernel_rfl) (by kernel_rfl) rfl (fun _ _ _ _ h => h) rfl (fun K hK => ?_)
        go_big_quiet_op
        first | refine hK _ ?_ | refine ⟨_, fun _ _ => rfl, hK _ ?_⟩
        clear hK K
        refine takeE 9 rfl (by kernel_rfl) (by kernel_rfl) (by kernel_rfl) rfl (fun _ _ _ _ h => h) rfl (fun K hK => ?_)
        go_big_quiet_op
        first | refine hK _ ?_ | refine ⟨_, fun _ _ => rfl, hK _ ?_⟩
        clear hK K
        refine takeE 10 rfl (by kernel_rfl) (by kernel_rfl) (by kernel_rfl) rfl (fun _ _ _ _ h => h) rfl (fun K hK => ?_)
        go_big_quiet_op
        first | refine hK _ ?_ | refine ⟨_, fun _ _ => rfl, hK _ ?_⟩
        clear hK K
        refine doneM (by kernel_rfl) ?_ _
        (try simp only [Exit.inBlock, Exit.then])
        go_wp2_with fail
        go_roundw
        case rel => exact ⟨k + 1, (((bitM d k : Nat) : Int) == ((bitM e k : Nat) : Int)), by omega, by go_num, rfl, hxx, by
          have hI : ∀ j, j < k → bitM d j = bitM e j := by simpa using HIFF.out
          constructor
          · intro h j hj
            rcases Nat.lt_or_ge j k with hjk | hjk
            · exact hI j hjk
            · obtain rfl : j = k := by omega
              have : ((bitM d j : Nat) : Int) = ((bitM e j : Nat) : Int) := by simpa using h
              omega
          · intro h
            have := h k (by omega)
            simp [this]⟩
        case measure => simp [intOf]; omega
    · obtain rfl : k = 32 := by omega
      cases b
      · by_cases hf : fromS (signM seed n d) e = leafM seed n
        · have hmp := HBITS.out hf (fun h => by have := HIFF.out.2 h; cases this)
          have HMP := Lib.hid hmp
          have HQ := Lib.hid (show _ ∧ ∀ w : World, (binOp .eql 31 (.agg (bv (fromS (signM seed n d) e)).toArray) (.agg (bv (leafM seed n)).toArray)).run Try.prog w = .ok (.bool true) w from ⟨(HDQ.out _ (fromS_length (signM seed n d) e)).1, fun w => by have := (HDQ.out _ (fromS_length (signM seed n d) e)).2 w; simpa [hf] using this⟩)
          clear hf hmp
          go_wp2_with fail
          refine startM Since (by kernel_rfl) ?_
          (try simp only [Act.put, List.setIfInBounds_toArray, List.set_cons_succ, List.set_cons_zero])
          have hxx : Ext w7 wr.drew := hx.drew
          generalize wr.drew = w0 at hxx ⊢
          refine takeE 0 rfl (by kernel_rfl) (by kernel_rfl) (by kernel_rfl) rfl (fun _ _ _ _ h => h) rfl (fun K hK => ?_)
          go_big_quiet_op
          first | refine hK _ ?_ | refine ⟨_, fun _ _ => rfl, hK _ ?_⟩
          clear hK K
          refine takeE 1 rfl (by kernel_rfl) (by kernel_rfl) (by kernel_rfl) rfl (fun _ _ _ _ h => h) rfl (fun K hK => ?_)
          refine quiet_agg 43 _ rfl _ rfl (bv (signM seed n d)) _ Try.underlying43 rfl (sig_size HGL.out) (fun W' h => (HB14.out.keep (hxx.trans h.ext) (by simp)).cells) ?_
          refine hK _ ?_
          simp only [Act.put, List.setIfInBounds_toArray, List.set_cons_succ, List.set_cons_zero]
          clear hK K
          refine takeE 2 rfl (by kernel_rfl) (by kernel_rfl) (by kernel_rfl) rfl (fun _ _ _ _ h => h) rfl (fun K hK => ?_)
          refine quiet_agg 22 _ rfl _ rfl (bv e) _ Try.underlying22 rfl (b32_size HEL.out) (fun W' h => (HB9.out.keep (hxx.trans h.ext) (by simp)).cells) ?_
          refine hK _ ?_
          simp only [Act.put, List.setIfInBounds_toArray, List.set_cons_succ, List.set_cons_zero]
          clear hK K
          refine takeE 4 rfl (by kernel_rfl) (by kernel_rfl) (by kernel_rfl) rfl (fun _ _ _ _ h => h) rfl (fun K hK => ?_)
          refine quiet_agg 31 _ rfl _ rfl (bv (leafM seed n)) _ Try.underlying31 rfl (dig_size HLL.out) (fun W' h => (HB15.out.keep (hxx.trans h.ext) (by simp)).cells) ?_
          refine hK _ ?_
          simp only [Act.put, List.setIfInBounds_toArray, List.set_cons_succ, List.set_cons_zero]
          clear hK K
          refine stepM 3 rfl (by kernel_rfl) rfl (fun K hK => ?_)
          go_simp
          refine (HFE.out _).mono ?_
          rintro en w' ⟨rfl, hx'⟩
          have hk := hx'
          replace hxx := hxx.trans hx'
          clear hx'
          refine hK _ _ (hk) ?_
          clear hK K
          refine takeE 5 rfl (by kernel_rfl) (by kernel_rfl) (by kernel_rfl) rfl (fun _ _ _ _ h => h) rfl (fun K hK => ?_)
          refine quiet_binK .eql 31 _ _ _ rfl _ _ rfl rfl (.bool true) (HQ.out.1) (HQ.out.2) ?_
          refine hK _ ?_
          simp only [Act.put, List.setIfInBounds_toArray, List.set_cons_succ, List.set_cons_zero]
          clear hK K
          refine takeE 6 rfl (by kernel_rfl) (by kernel_rfl) (by kernel_rfl) rfl (fun _ _ _ _ h => h) rfl (fun K hK => ?_)
          go_big_quiet_op
          first | refine hK _ ?_ | refine ⟨_, fun _ _ => rfl, hK _ ?_⟩
          clear hK K
          refine takeE 7 rfl (by kernel_rfl) (by kernel_rfl) (by kernel_rfl) rfl (fun _ _ _ _ h => h) rfl (fun K hK => ?_)
          go_big_quiet_op
          first | refine hK _ ?_ | refine ⟨_, fun _ _ => rfl, hK _ ?_⟩
          clear hK K
          refine takeE 8 rfl (by kernel_rfl) (by kernel_rfl) (by kernel_rfl) rfl (fun _ _ _ _ h => h) rfl (fun K hK => ?_)
          refine quiet_agg 43 _ rfl _ rfl (bv (signM seed n d)) _ Try.underlying43 rfl (sig_size HGL.out) (fun W' h => (HB14.out.keep (hxx.trans h.ext) (by simp)).cells) ?_
          refine hK _ ?_
          simp only [Act.put, List.setIfInBounds_toArray, List.set_cons_succ, List.set_cons_zero]
          clear hK K
          refine takeE 10 rfl (by kernel_rfl) (by kernel_rfl) (by kernel_rfl) rfl (fun _ _ _ _ h => h) rfl (fun K hK => ?_)
          refine quiet_agg 43 _ rfl _ rfl (bv (signM seed n d)) _ Try.underlying43 rfl (sig_size HGL.out) (fun W' h => (HB14.out.keep (hxx.trans h.ext) (by simp)).cells) ?_
          refine hK _ ?_
          simp only [Act.put, List.setIfInBounds_toArray, List.set_cons_succ, List.set_cons_zero]
          clear hK K
          refine takeE 12 rfl (by kernel_rfl) (by kernel_rfl) (by kernel_rfl) rfl (fun _ _ _ _ h => h) rfl (fun K hK => ?_)
          refine quiet_agg 22 _ rfl _ rfl (bv d) _ Try.underlying22 rfl (b32_size HDL.out) (fun W' h => (HB8.out.keep (hxx.trans h.ext) (by simp)).cells) ?_
          refine hK _ ?_
          simp only [Act.put, List.setIfInBounds_toArray, List.set_cons_succ, List.set_cons_zero]
          clear hK K
          refine takeE 13 rfl (by kernel_rfl) (by kernel_rfl) (by kernel_rfl) rfl (fun _ _ _ _ h => h) rfl (fun K hK => ?_)
          refine quiet_agg 22 _ rfl _ rfl (bv e) _ Try.underlying22 rfl (b32_size HEL.out) (fun W' h => (HB9.out.keep (hxx.trans h.ext) (by simp)).cells) ?_
          refine hK _ ?_
          simp only [Act.put, List.setIfInBounds_toArray, List.set_cons_succ, List.set_cons_zero]
          clear hK K
          refine stepM 9 rfl (by kernel_rfl) rfl (fun K hK => ?_)
          go_simp
          refine (HF4.out _).mono ?_
          rintro en w' ⟨rfl, hx'⟩
          have hk := hx'
          replace hxx := hxx.trans hx'
          clear hx'
          refine hK _ _ (hk) ?_
          clear hK K
          refine stepM 11 rfl (by kernel_rfl) rfl (fun K hK => ?_)
          go_simp
          refine (HF4.out _).mono ?_
          rintro en w' ⟨rfl, hx'⟩
          have hk := hx'
          replace hxx := hxx.trans hx'
          clear hx'
          refine hK _ _ (hk) ?_
          clear hK K
          refine stepM 14 rfl (by kernel_rfl) rfl (fun K hK => ?_)
          go_simp
          refine (HMT.out _).mono ?_
          rintro en w' ⟨r, rfl, hr, hx'⟩
          obtain rfl : r = true := hr HMP.out
          clear hr
          have hk := hx'
          replace hxx := hxx.trans hx'
          clear hx'
          refine hK _ _ (hk) ?_
          clear hK K
          refine takeE 15 rfl (by kernel_rfl) (by kernel_rfl) (by kernel_rfl) rfl (fun _ _ _ _ h => h) rfl (fun K hK => ?_)
          go_big_quiet_op
          first | refine hK _ ?_ | refine ⟨_, fun _ _ => rfl, hK _ ?_⟩
          clear hK K
          refine takeE 16 rfl (by kernel_rfl) (by kernel_rfl) (by kernel_rfl) rfl (fun _ _ _ _ h => h) rfl (fun K hK => ?_)
          go_big_quiet_op
          first | refine hK _ ?_ | refine ⟨_, fun _ _ => rfl, hK _ ?_⟩
          clear hK K
          refine doneM (by kernel_rfl) ?_ _
          (try simp only [Exit.then])
          go_wp2_with (first
            | ((with_reducible refine wpDst 68 rfl ?_); refine wpList_load_agg _ rfl 43 _ rfl _ rfl (bv (signM seed n d)) _ Try.underlying43 rfl (sig_size HGL.out) (by exact (HB14.out.keep hxx (by simp)).cells) ?_)
            | fail)
          obtain ⟨i, hi, e32⟩ : ∃ i : Nat, i < 32 ∧ (at_ : Int) % 32 = (i : Int) := ⟨at_ % 32, by omega, by omega⟩
          obtain ⟨j, hj, e16⟩ : ∃ j : Nat, j < 16 ∧ (at_ : Int) / 64 % 16 = (j : Int) := ⟨at_ / 64 % 16, by omega, by omega⟩
          refine (HF4.out _).mono ?_
          rintro en w69 ⟨rfl, hx69⟩
          have hxy : Ext w7 (w69.alloc (.cells (bv (signM seed n d)).toArray 38)) := (hxx.trans hx69).alloc _
          have HX7 := Lib.hid (HX.out.trans hxy)
          have HLT := Lib.hid (show w.heap.size + 1 < w69.heap.size ∧ g14 < w69.heap.size ∧ g15 < w69.heap.size from ⟨(HB8.out.keep (hxx.trans hx69) (by simp)).lt, (HB14.out.keep (hxx.trans hx69) (by simp)).lt, (HB15.out.keep (hxx.trans hx69) (by simp)).lt⟩)
          have HC8 := Lib.hid (HB8.out.keep hxy (by simp))
          have HC14 := Lib.hid (HB14.out.keep hxy (by simp))
          have HC15 := Lib.hid (HB15.out.keep hxy (by simp))
          have HC18 := Lib.hid (show Blk (w69.alloc (.cells (bv (signM seed n d)).toArray 38)) w69.heap.size 38 (bv (signM seed n d)) from Blk.new _ _ _)
          clear hxx hx69 hxy
          go_wp2_with (first
            | ((with_reducible refine wpDst 18 rfl ?_); refine wpList_alloc _ rfl 38 rfl _ hzr ?_)
            | ((with_reducible refine wpSto 18 69 rfl ?_); refine wpList_storeN rfl 38 _ _ rfl _ rfl ZR (bv (signM seed n d)) _ rfl rfl (szSigFrom04 HGL.out) (by rw [HGL.out, HZRL.out]) (bv_one _) ?_)
            | fail)
          · generalize w69.alloc (.cells (bv (signM seed n d)).toArray 38) = W at HX7 HC8 HC14 HC15 HC18 ⊢
            generalize w69.heap.size = g18 at HC18 HLT ⊢
            have hlt2 : i * 16 + j < (signM seed n d).length := by rw [signM_length]; omega
            have hV : bits .xor .u8 (((signM seed n d)[i * 16 + j]'hlt2).toNat : Int) (x.toNat : Int) = ((((signM seed n d)[i * 16 + j]'hlt2) ^^^ x).toNat : Int) := xor_u8 _ _
            have HNP : Hid (x ≠ 0 → opS (signM seed n d) i ≠ opS ((signM seed n d).set (i * 16 + j) (((signM seed n d)[i * 16 + j]'hlt2) ^^^ x)) i) := Lib.hid (fun h => turn_op (signM_length _ _ _) hi hj _ (xor_ne h))
            have hcl : W.cell? ⟨g18, i * 16 + j, none⟩ = some (.int .u8 (((signM seed n d)[i * 16 + j]'hlt2).toNat : Int)) := by
              rw [HC18.out.cell]; simp [bv, hlt2]
            generalize hbb : (signM seed n d)[i * 16 + j]'hlt2 = bb at hV HNP hcl
            clear hbb
            refine wp_region_draw_tail 13 (by kernel_rfl) (by kernel_rfl) (by kernel_rfl) ?_
            simp only [List.take_succ_cons, List.take_zero, List.drop_succ_cons, List.drop_zero]
            repeat (go_big_quiet_step (fail))
            refine wpQuiet_nil ?_
            rintro _ ⟨nq, rfl⟩
            have hxn : Ext W (W.drewN nq) := (Ext.refl W).drewN nq
            have K7 := Lib.hid (HX7.out.trans hxn)
            have K8 := Lib.hid (HC8.out.keep hxn (by simp))
            have K14 := Lib.hid (HC14.out.keep hxn (by simp))
            have K15 := Lib.hid (HC15.out.keep hxn (by simp))
            have K18 := Lib.hid (HC18.out.keep hxn (by simp))
            clear HX7 HC8 HC14 HC15 HC18 hxn hcl
            generalize W.drewN nq = W at K7 K8 K14 K15 K18 ⊢
            have hfr : W.frozen? ⟨g18, i * 16 + j, none⟩ = false := K18.out.free _
            have hcl : ∃ u, W.cell? ⟨g18, i * 16 + j, none⟩ = some u := ⟨_, by rw [K18.out.cell]; exact List.getElem?_eq_getElem (by rw [bv_length]; exact hlt2)⟩
            obtain ⟨uo, hcl⟩ := hcl
            obtain ⟨T, hT⟩ : ∃ T, T = (signM seed n d).set (i * 16 + j) (bb ^^^ x) := ⟨_, rfl⟩
            rw [← hT] at HNP
            have hTl : T.length = 1024 := by rw [hT, List.length_set, signM_length]
            have hbt : (bv (signM seed n d)).set (i * 16 + j) (.int .u8 ((bb.toNat ^^^ x.toNat : Nat) : Int)) = bv T := by rw [hT, bv_set, UInt8.toNat_xor]
            have HBT := Lib.hid hbt
            have HT := Lib.hid hTl
            clear hbt hT hTl
            go_wp2_with fail
            have hon : W.grownBy (W.setCell ⟨g18, i * 16 + j, none⟩ (.int .u8 ((bb.toNat ^^^ x.toNat : Nat) : Int))) (some g18) := only_set _ _
            have hdr : Ext (W.setCell ⟨g18, i * 16 + j, none⟩ (.int .u8 ((bb.toNat ^^^ x.toNat : Nat) : Int))) (W.setCell ⟨g18, i * 16 + j, none⟩ (.int .u8 ((bb.toNat ^^^ x.toNat : Nat) : Int))).drew := (Ext.refl _).drew
            have hlts := HLT.out
            have h18 := K18.out.set (i * 16 + j) (.int .u8 ((bb.toNat ^^^ x.toNat : Nat) : Int))
            rw [HBT.out] at h18
            have HD18 := Lib.hid (h18.keep hdr (by simp))
            have HD8 := Lib.hid ((K8.out.keep hon (by simp; omega)).keep hdr (by simp))
            have HD14 := Lib.hid ((K14.out.keep hon (by simp; omega)).keep hdr (by simp))
            have HD15 := Lib.hid ((K15.out.keep hon (by simp; omega)).keep hdr (by simp))
            have HXL := Lib.hid (show Ext w _ from (grown_then K7.out hon (.inr (by rintro b ⟨⟩; omega))).trans hdr)
            have HTL := Lib.hid (show (bv T).length = 1024 by rw [bv_length, HT.out])
            have HFT := Lib.hid (fun W => From T HT.out d HD.out W)
            have HTO := Lib.hid (fun W => To04 (bv T) W HTL.out (bv_one _))
            have HM2 := Lib.hid (fun W => Met (signM seed n d) T d d (signM_length _ _ _) HT.out HD.out HD.out W)
            clear K7 K8 K14 K15 K18 hon hdr h18 hcl hfr
            by_cases hx0 : x = 0
            · have hxz : ((x.toNat : Int) == 0) = true := by rw [hx0]; rfl
              clear HNP
              refine startM Since (by kernel_rfl) ?_
              (try simp only [Act.put, List.setIfInBounds_toArray, List.set_cons_succ, List.set_cons_zero])
              generalize (W.setCell ⟨g18, i * 16 + j, none⟩ (.int .u8 ((bb.toNat ^^^ x.toNat : Nat) : Int))).drew = w9 at HD18 HD8 HD14 HD15 HXL ⊢
              have hxx : Ext w9 w9 := Ext.refl _
              refine takeE 0 rfl (by kernel_rfl) (by kernel_rfl) (by kernel_rfl) rfl (fun _ _ _ _ h => h) rfl (fun K hK => ?_)
              go_big_quiet_op
              first | refine hK _ ?_ | refine ⟨_, fun _ _ => rfl, hK _ ?_⟩
              clear hK K
              refine takeE 1 rfl (by kernel_rfl) (by kernel_rfl) (by kernel_rfl) rfl (fun _ _ _ _ h => h) rfl (fun K hK => ?_)
              go_big_quiet_op
              first | refine hK _ ?_ | refine ⟨_, fun _ _ => rfl, hK _ ?_⟩
              clear hK K
              refine takeE 2 rfl (by kernel_rfl) (by kernel_rfl) (by kernel_rfl) rfl (fun _ _ _ _ h => h) rfl (fun K hK => ?_)
              go_big_quiet_op
              first | refine hK _ ?_ | refine ⟨_, fun _ _ => rfl, hK _ ?_⟩
              clear hK K
              refine skipE 3 rfl (by kernel_rfl) (by kernel_rfl) (by kernel_rfl) (fun _ _ _ _ h => h) rfl ?_
              (try simp only [Act.put, List.setIfInBounds_toArray, List.set_cons_succ, List.set_cons_zero])
              refine skipE 4 rfl (by kernel_rfl) (by kernel_rfl) (by kernel_rfl) (fun _ _ _ _ h => h) rfl ?_
              (try simp only [Act.put, List.setIfInBounds_toArray, List.set_cons_succ, List.set_cons_zero])
              refine skipE 5 rfl (by kernel_rfl) (by kernel_rfl) (by kernel_rfl) (fun _ _ _ _ h => h) rfl ?_
              (try simp only [Act.put, List.setIfInBounds_toArray, List.set_cons_succ, List.set_cons_zero])
              refine skipE 6 rfl (by kernel_rfl) (by kernel_rfl) (by kernel_rfl) (fun _ _ _ _ h => h) rfl ?_
              (try simp only [Act.put, List.setIfInBounds_toArray, List.set_cons_succ, List.set_cons_zero])
              refine skipE 7 rfl (by kernel_rfl) (by kernel_rfl) (by kernel_rfl) (fun _ _ _ _ h => h) rfl ?_
              (try simp only [Act.put, List.setIfInBounds_toArray, List.set_cons_succ, List.set_cons_zero])
              refine skipE 8 rfl (by kernel_rfl) (by kernel_rfl) (by kernel_rfl) (fun _ _ _ _ h => h) rfl ?_
              (try simp only [Act.put, List.setIfInBounds_toArray, List.set_cons_succ, List.set_cons_zero])
              refine takeE 9 rfl (by kernel_rfl) (by kernel_rfl) (by kernel_rfl) rfl (fun _ _ _ _ h => h) rfl (fun K hK => ?_)
              go_big_quiet_op
              first | refine hK _ ?_ | refine ⟨_, fun _ _ => rfl, hK _ ?_⟩
              clear hK K
              refine takeE 10 rfl (by kernel_rfl) (by kernel_rfl) (by kernel_rfl) rfl (fun _ _ _ _ h => h) rfl (fun K hK => ?_)
              go_big_quiet_op
              first | refine hK _ ?_ | refine ⟨_, fun _ _ => rfl, hK _ ?_⟩
              clear hK K
              refine skipE 11 rfl (by kernel_rfl) (by kernel_rfl) (by kernel_rfl) (fun _ _ _ _ h => h) rfl ?_
              (try simp only [Act.put, List.setIfInBounds_toArray, List.set_cons_succ, List.set_cons_zero])
              refine skipE 12 rfl (by kernel_rfl) (by kernel_rfl) (by kernel_rfl) (fun _ _ _ _ h => h) rfl ?_
              (try simp only [Act.put, List.setIfInBounds_toArray, List.set_cons_succ, List.set_cons_zero])
              refine skipE 13 rfl (by kernel_rfl) (by kernel_rfl) (by kernel_rfl) (fun _ _ _ _ h => h) rfl ?_
              (try simp only [Act.put, List.setIfInBounds_toArray, List.set_cons_succ, List.set_cons_zero])
              refine skipE 14 rfl (by kernel_rfl) (by kernel_rfl) (by kernel_rfl) (fun _ _ _ _ h => h) rfl ?_
              (try simp only [Act.put, List.setIfInBounds_toArray, List.set_cons_succ, List.set_cons_zero])
              refine skipE 15 rfl (by kernel_rfl) (by kernel_rfl) (by kernel_rfl) (fun _ _ _ _ h => h) rfl ?_
              (try simp only [Act.put, List.setIfInBounds_toArray, List.set_cons_succ, List.set_cons_zero])
              refine skipE 16 rfl (by kernel_rfl) (by kernel_rfl) (by kernel_rfl) (fun _ _ _ _ h => h) rfl ?_
              (try simp only [Act.put, List.setIfInBounds_toArray, List.set_cons_succ, List.set_cons_zero])
              refine takeE 17 rfl (by kernel_rfl) (by kernel_rfl) (by kernel_rfl) rfl (fun _ _ _ _ h => h) rfl (fun K hK => ?_)
              go_big_quiet_op
              first | refine hK _ ?_ | refine ⟨_, fun _ _ => rfl, hK _ ?_⟩
              clear hK K
              refine takeE 18 rfl (by kernel_rfl) (by kernel_rfl) (by kernel_rfl) rfl (fun _ _ _ _ h => h) rfl (fun K hK => ?_)
              go_big_quiet_op
              first | refine hK _ ?_ | refine ⟨_, fun _ _ => rfl, hK _ ?_⟩
              clear hK K
              refine doneM (by kernel_rfl) ?_ _
              (try simp only [Exit.then])
              go_wp2_with fail
              go_ret
              exact ⟨rfl, HXL.out.trans hxx⟩
            · have hxz : ((x.toNat : Int) == 0) = false := by
                have h1 : x.toNat ≠ 0 := fun h => hx0 (UInt8.toNat_inj.1 h)
                simp only [beq_eq_false_iff_ne, ne_eq]
                omega
              by_cases hTq : fromS T d = leafM seed n
              · have HMP2 := Lib.hid (HTU.out T i HT.out hTq hi (.inl (HNP.out hx0)))
                have HQ := Lib.hid (show _ ∧ ∀ w : World, (binOp .neq 31 (.agg (bv (fromS T d)).toArray) (.agg (bv (leafM seed n)).toArray)).run Try.prog w = .ok (.bool false) w from ⟨(HDN.out _ (fromS_length T d)).1, fun w => by have := (HDN.out _ (fromS_length T d)).2 w; simpa [hTq] using this⟩)
                clear hTq HNP
                refine startM Since (by kernel_rfl) ?_
                (try simp only [Act.put, List.setIfInBounds_toArray, List.set_cons_succ, List.set_cons_zero])
                generalize (W.setCell ⟨g18, i * 16 + j, none⟩ (.int .u8 ((bb.toNat ^^^ x.toNat : Nat) : Int))).drew = w9 at HD18 HD8 HD14 HD15 HXL ⊢
                have hxx : Ext w9 w9 := Ext.refl _
                refine takeE 0 rfl (by kernel_rfl) (by kernel_rfl) (by kernel_rfl) rfl (fun _ _ _ _ h => h) rfl (fun K hK => ?_)
                go_big_quiet_op
                first | refine hK _ ?_ | refine ⟨_, fun _ _ => rfl, hK _ ?_⟩
                clear hK K
                refine takeE 1 rfl (by kernel_rfl) (by kernel_rfl) (by kernel_rfl) rfl (fun _ _ _ _ h => h) rfl (fun K hK => ?_)
                go_big_quiet_op
                first | refine hK _ ?_ | refine ⟨_, fun _ _ => rfl, hK _ ?_⟩
                clear hK K
                refine takeE 2 rfl (by kernel_rfl) (by kernel_rfl) (by kernel_rfl) rfl (fun _ _ _ _ h => h) rfl (fun K hK => ?_)
                go_big_quiet_op
                first | refine hK _ ?_ | refine ⟨_, fun _ _ => rfl, hK _ ?_⟩
                clear hK K
                refine takeE 3 rfl (by kernel_rfl) (by kernel_rfl) (by kernel_rfl) rfl (fun _ _ _ _ h => h) rfl (fun K hK => ?_)
                refine quiet_agg 38 _ rfl _ rfl (bv T) _ Try.underlying38 rfl (szSigFrom04 HTL.out) (fun W' h => (HD18.out.keep (hxx.trans h.ext) (by simp)).cells) ?_
                refine hK _ ?_
                simp only [Act.put, List.setIfInBounds_toArray, List.set_cons_succ, List.set_cons_zero]
                clear hK K
                refine takeE 5 rfl (by kernel_rfl) (by kernel_rfl) (by kernel_rfl) rfl (fun _ _ _ _ h => h) rfl (fun K hK => ?_)
                refine quiet_agg 22 _ rfl _ rfl (bv d) _ Try.underlying22 rfl (b32_size HDL.out) (fun W' h => (HD8.out.keep (hxx.trans h.ext) (by simp)).cells) ?_
                refine hK _ ?_
                simp only [Act.put, List.setIfInBounds_toArray, List.set_cons_succ, List.set_cons_zero]
                clear hK K
                refine takeE 7 rfl (by kernel_rfl) (by kernel_rfl) (by kernel_rfl) rfl (fun _ _ _ _ h => h) rfl (fun K hK => ?_)
                refine quiet_agg 31 _ rfl _ rfl (bv (leafM seed n)) _ Try.underlying31 rfl (dig_size HLL.out) (fun W' h => (HD15.out.keep (hxx.trans h.ext) (by simp)).cells) ?_
                refine hK _ ?_
                simp only [Act.put, List.setIfInBounds_toArray, List.set_cons_succ, List.set_cons_zero]
                clear hK K
                refine stepM 4 rfl (by kernel_rfl) rfl (fun K hK => ?_)
                go_simp
                refine (HTO.out _).mono ?_
                rintro en w' ⟨rfl, hx'⟩
                have hk := hx'
                replace hxx := hxx.trans hx'
                clear hx'
                refine hK _ _ (hk) ?_
                clear hK K
                refine stepM 6 rfl (by kernel_rfl) rfl (fun K hK => ?_)
                go_simp
                refine (HFT.out _).mono ?_
                rintro en w' ⟨rfl, hx'⟩
                have hk := hx'
                replace hxx := hxx.trans hx'
                clear hx'
                refine hK _ _ (hk) ?_
                clear hK K
                refine takeE 8 rfl (by kernel_rfl) (by kernel_rfl) (by kernel_rfl) rfl (fun _ _ _ _ h => h) rfl (fun K hK => ?_)
                refine quiet_binK .neq 31 _ _ _ rfl _ _ rfl rfl (.bool false) (HQ.out.1) (HQ.out.2) ?_
                refine hK _ ?_
                simp only [Act.put, List.setIfInBounds_toArray, List.set_cons_succ, List.set_cons_zero]
                clear hK K
                refine takeE 9 rfl (by kernel_rfl) (by kernel_rfl) (by kernel_rfl) rfl (fun _ _ _ _ h => h) rfl (fun K hK => ?_)
                go_big_quiet_op
                first | refine hK _ ?_ | refine ⟨_, fun _ _ => rfl, hK _ ?_⟩
                clear hK K
                refine takeE 10 rfl (by kernel_rfl) (by kernel_rfl) (by kernel_rfl) rfl (fun _ _ _ _ h => h) rfl (fun K hK => ?_)
                go_big_quiet_op
                first | refine hK _ ?_ | refine ⟨_, fun _ _ => rfl, hK _ ?_⟩
                clear hK K
                refine takeE 11 rfl (by kernel_rfl) (by kernel_rfl) (by kernel_rfl) rfl (fun _ _ _ _ h => h) rfl (fun K hK => ?_)
                refine quiet_agg 43 _ rfl _ rfl (bv (signM seed n d)) _ Try.underlying43 rfl (sig_size HGL.out) (fun W' h => (HD14.out.keep (hxx.trans h.ext) (by simp)).cells) ?_
                refine hK _ ?_
                simp only [Act.put, List.setIfInBounds_toArray, List.set_cons_succ, List.set_cons_zero]
                clear hK K
                refine takeE 13 rfl (by kernel_rfl) (by kernel_rfl) (by kernel_rfl) rfl (fun _ _ _ _ h => h) rfl (fun K hK => ?_)
                refine quiet_agg 38 _ rfl _ rfl (bv T) _ Try.underlying38 rfl (szSigFrom04 HTL.out) (fun W' h => (HD18.out.keep (hxx.trans h.ext) (by simp)).cells) ?_
                refine hK _ ?_
                simp only [Act.put, List.setIfInBounds_toArray, List.set_cons_succ, List.set_cons_zero]
                clear hK K
                refine takeE 14 rfl (by kernel_rfl) (by kernel_rfl) (by kernel_rfl) rfl (fun _ _ _ _ h => h) rfl (fun K hK => ?_)
                refine quiet_agg 22 _ rfl _ rfl (bv d) _ Try.underlying22 rfl (b32_size HDL.out) (fun W' h => (HD8.out.keep (hxx.trans h.ext) (by simp)).cells) ?_
                refine hK _ ?_
                simp only [Act.put, List.setIfInBounds_toArray, List.set_cons_succ, List.set_cons_zero]
                clear hK K
                refine takeE 15 rfl (by kernel_rfl) (by kernel_rfl) (by kernel_rfl) rfl (fun _ _ _ _ h => h) rfl (fun K hK => ?_)
                refine quiet_agg 22 _ rfl _ rfl (bv d) _ Try.underlying22 rfl (b32_size HDL.out) (fun W' h => (HD8.out.keep (hxx.trans h.ext) (by simp)).cells) ?_
                refine hK _ ?_
                simp only [Act.put, List.setIfInBounds_toArray, List.set_cons_succ, List.set_cons_zero]
                clear hK K
                refine stepM 12 rfl (by kernel_rfl) rfl (fun K hK => ?_)
                go_simp
                refine (HF4.out _).mono ?_
                rintro en w' ⟨rfl, hx'⟩
                have hk := hx'
                replace hxx := hxx.trans hx'
                clear hx'
                refine hK _ _ (hk) ?_
                clear hK K
                refine stepM 16 rfl (by kernel_rfl) rfl (fun K hK => ?_)
                go_simp
                refine (HM2.out _).mono ?_
                rintro en w' ⟨r, rfl, hr, hx'⟩
                obtain rfl : r = true := hr HMP2.out
                clear hr
                have hk := hx'
                replace hxx := hxx.trans hx'
                clear hx'
                refine hK _ _ (hk) ?_
                clear hK K
                refine takeE 17 rfl (by kernel_rfl) (by kernel_rfl) (by kernel_rfl) rfl (fun _ _ _ _ h => h) rfl (fun K hK => ?_)
                go_big_quiet_op
                first | refine hK _ ?_ | refine ⟨_, fun _ _ => rfl, hK _ ?_⟩
                clear hK K
                refine takeE 18 rfl (by kernel_rfl) (by kernel_rfl) (by kernel_rfl) rfl (fun _ _ _ _ h => h) rfl (fun K hK => ?_)
                go_big_quiet_op
                first | refine hK _ ?_ | refine ⟨_, fun _ _ => rfl, hK _ ?_⟩
                clear hK K
                refine doneM (by kernel_rfl) ?_ _
                (try simp only [Exit.then])
                go_wp2_with fail
                go_ret
                exact ⟨rfl, HXL.out.trans hxx⟩
              · have HQ := Lib.hid (show _ ∧ ∀ w : World, (binOp .neq 31 (.agg (bv (fromS T d)).toArray) (.agg (bv (leafM seed n)).toArray)).run Try.prog w = .ok (.bool true) w from ⟨(HDN.out _ (fromS_length T d)).1, fun w => by
                  have := (HDN.out _ (fromS_length T d)).2 w
                  have hbf : (fromS T d == leafM seed n) = false := by simpa using hTq
                  have hne : (BinOp.neq = BinOp.eql) = False := by simp
                  simp only [hne, if_false, hbf, Bool.not_false] at this
                  exact this⟩)
                clear hTq HNP
                refine startM Since (by kernel_rfl) ?_
                (try simp only [Act.put, List.setIfInBounds_toArray, List.set_cons_succ, List.set_cons_zero])
                generalize (W.setCell ⟨g18, i * 16 + j, none⟩ (.int .u8 ((bb.toNat ^^^ x.toNat : Nat) : Int))).drew = w9 at HD18 HD8 HD14 HD15 HXL ⊢
                have hxx : Ext w9 w9 := Ext.refl _
                refine takeE 0 rfl (by kernel_rfl) (by kernel_rfl) (by kernel_rfl) rfl (fun _ _ _ _ h => h) rfl (fun K hK => ?_)
                go_big_quiet_op
                first | refine hK _ ?_ | refine ⟨_, fun _ _ => rfl, hK _ ?_⟩
                clear hK K
                refine takeE 1 rfl (by kernel_rfl) (by kernel_rfl) (by kernel_rfl) rfl (fun _ _ _ _ h => h) rfl (fun K hK => ?_)
                go_big_quiet_op
                first | refine hK _ ?_ | refine ⟨_, fun _ _ => rfl, hK _ ?_⟩
                clear hK K
                refine takeE 2 rfl (by kernel_rfl) (by kernel_rfl) (by kernel_rfl) rfl (fun _ _ _ _ h => h) rfl (fun K hK => ?_)
                go_big_quiet_op
                first | refine hK _ ?_ | refine ⟨_, fun _ _ => rfl, hK _ ?_⟩
                clear hK K
                refine takeE 3 rfl (by kernel_rfl) (by kernel_rfl) (by kernel_rfl) rfl (fun _ _ _ _ h => h) rfl (fun K hK => ?_)
                refine quiet_agg 38 _ rfl _ rfl (bv T) _ Try.underlying38 rfl (szSigFrom04 HTL.out) (fun W' h => (HD18.out.keep (hxx.trans h.ext) (by simp)).cells) ?_
                refine hK _ ?_
                simp only [Act.put, List.setIfInBounds_toArray, List.set_cons_succ, List.set_cons_zero]
                clear hK K
                refine takeE 5 rfl (by kernel_rfl) (by kernel_rfl) (by kernel_rfl) rfl (fun _ _ _ _ h => h) rfl (fun K hK => ?_)
                refine quiet_agg 22 _ rfl _ rfl (bv d) _ Try.underlying22 rfl (b32_size HDL.out) (fun W' h => (HD8.out.keep (hxx.trans h.ext) (by simp)).cells) ?_
                refine hK _ ?_
                simp only [Act.put, List.setIfInBounds_toArray, List.set_cons_succ, List.set_cons_zero]
                clear hK K
                refine takeE 7 rfl (by kernel_rfl) (by kernel_rfl) (by kernel_rfl) rfl (fun _ _ _ _ h => h) rfl (fun K hK => ?_)
                refine quiet_agg 31 _ rfl _ rfl (bv (leafM seed n)) _ Try.underlying31 rfl (dig_size HLL.out) (fun W' h => (HD15.out.keep (hxx.trans h.ext) (by simp)).cells) ?_
                refine hK _ ?_
                simp only [Act.put, List.setIfInBounds_toArray, List.set_cons_succ, List.set_cons_zero]
                clear hK K
                refine stepM 4 rfl (by kernel_rfl) rfl (fun K hK => ?_)
                go_simp
                refine (HTO.out _).mono ?_
                rintro en w' ⟨rfl, hx'⟩
                have hk := hx'
                replace hxx := hxx.trans hx'
                clear hx'
                refine hK _ _ (hk) ?_
                clear hK K
                refine stepM 6 rfl (by kernel_rfl) rfl (fun K hK => ?_)
                go_simp
                refine (HFT.out _).mono ?_
                rintro en w' ⟨rfl, hx'⟩
                have hk := hx'
                replace hxx := hxx.trans hx'
                clear hx'
                refine hK _ _ (hk) ?_
                clear hK K
                refine takeE 8 rfl (by kernel_rfl) (by kernel_rfl) (by kernel_rfl) rfl (fun _ _ _ _ h => h) rfl (fun K hK => ?_)
                refine quiet_binK .neq 31 _ _ _ rfl _ _ rfl rfl (.bool true) (HQ.out.1) (HQ.out.2) ?_
                refine hK _ ?_
                simp only [Act.put, List.setIfInBounds_toArray, List.set_cons_succ, List.set_cons_zero]
                clear hK K
                refine takeE 9 rfl (by kernel_rfl) (by kernel_rfl) (by kernel_rfl) rfl (fun _ _ _ _ h => h) rfl (fun K hK => ?_)
                go_big_quiet_op
                first | refine hK _ ?_ | refine ⟨_, fun _ _ => rfl, hK _ ?_⟩
                clear hK K
                refine takeE 10 rfl (by kernel_rfl) (by kernel_rfl) (by kernel_rfl) rfl (fun _ _ _ _ h => h) rfl (fun K hK => ?_)
                go_big_quiet_op
                first | refine hK _ ?_ | refine ⟨_, fun _ _ => rfl, hK _ ?_⟩
                clear hK K
                refine skipE 11 rfl (by kernel_rfl) (by kernel_rfl) (by kernel_rfl) (fun _ _ _ _ h => h) rfl ?_
                (try simp only [Act.put, List.setIfInBounds_toArray, List.set_cons_succ, List.set_cons_zero])
                refine skipE 12 rfl (by kernel_rfl) (by kernel_rfl) (by kernel_rfl) (fun _ _ _ _ h => h) rfl ?_
                (try simp only [Act.put, List.setIfInBounds_toArray, List.set_cons_succ, List.set_cons_zero])
                refine skipE 13 rfl (by kernel_rfl) (by kernel_rfl) (by kernel_rfl) (fun _ _ _ _ h => h) rfl ?_
                (try simp only [Act.put, List.setIfInBounds_toArray, List.set_cons_succ, List.set_cons_zero])
                refine skipE 14 rfl (by kernel_rfl) (by kernel_rfl) (by kernel_rfl) (fun _ _ _ _ h => h) rfl ?_
                (try simp only [Act.put, List.setIfInBounds_toArray, List.set_cons_succ, List.set_cons_zero])
                refine skipE 15 rfl (by kernel_rfl) (by kernel_rfl) (by kernel_rfl) (fun _ _ _ _ h => h) rfl ?_
                (try simp only [Act.put, List.setIfInBounds_toArray, List.set_cons_succ, List.set_cons_zero])
                refine skipE 16 rfl (by kernel_rfl) (by kernel_rfl) (by kernel_rfl) (fun _ _ _ _ h => h) rfl ?_
                (try simp only [Act.put, List.setIfInBounds_toArray, List.set_cons_succ, List.set_cons_zero])
                refine takeE 17 rfl (by kernel_rfl) (by kernel_rfl) (by kernel_rfl) rfl (fun _ _ _ _ h => h) rfl (fun K hK => ?_)
                go_big_quiet_op
                first | refine hK _ ?_ | refine ⟨_, fun _ _ => rfl, hK _ ?_⟩
                clear hK K
                refine takeE 18 rfl (by kernel_rfl) (by kernel_rfl) (by kernel_rfl) rfl (fun _ _ _ _ h => h) rfl (fun K hK => ?_)
                go_big_quiet_op
                first | refine hK _ ?_ | refine ⟨_, fun _ _ => rfl, hK _ ?_⟩
                clear hK K
                refine doneM (by kernel_rfl) ?_ _
                (try simp only [Exit.then])
                go_wp2_with fail
                go_ret
                exact ⟨rfl, HXL.out.trans hxx⟩
          · generalize w69.alloc (.cells (bv (signM seed n d)).toArray 38) = W at HX7 HC8 HC14 HC15 HC18 ⊢
            generalize w69.heap.size = g18 at HC18 HLT ⊢
            have hlt2 : 512 + i * 16 + j < (signM seed n d).length := by rw [signM_length]; omega
            have hV : bits .xor .u8 (((signM seed n d)[512 + i * 16 + j]'hlt2).toNat : Int) (x.toNat : Int) = ((((signM seed n d)[512 + i * 16 + j]'hlt2) ^^^ x).toNat : Int) := xor_u8 _ _
            have HNP : Hid (x ≠ 0 → otS (signM seed n d) i ≠ otS ((signM seed n d).set (512 + i * 16 + j) (((signM seed n d)[512 + i * 16 + j]'hlt2) ^^^ x)) i) := Lib.hid (fun h => turn_ot (signM_length _ _ _) hi hj _ (xor_ne h))
            have hcl : W.cell? ⟨g18, 512 + i * 16 + j, none⟩ = some (.int .u8 (((signM seed n d)[512 + i * 16 + j]'hlt2).toNat : Int)) := by
              rw [HC18.out.cell]; simp [bv, hlt2]
            generalize hbb : (signM seed n d)[512 + i * 16 + j]'hlt2 = bb at hV HNP hcl
            clear hbb
            refine wp_region_draw_tail 13 (by kernel_rfl) (by kernel_rfl) (by kernel_rfl) ?_
            simp only [List.take_succ_cons, List.take_zero, List.drop_succ_cons, List.drop_zero]
            repeat (go_big_quiet_step (fail))
            refine wpQuiet_nil ?_
            rintro _ ⟨nq, rfl⟩
            have hxn : Ext W (W.drewN nq) := (Ext.refl W).drewN nq
            have K7 := Lib.hid (HX7.out.trans hxn)
            have K8 := Lib.hid (HC8.out.keep hxn (by simp))
            have K14 := Lib.hid (HC14.out.keep hxn (by simp))
            have K15 := Lib.hid (HC15.out.keep hxn (by simp))
            have K18 := Lib.hid (HC18.out.keep hxn (by simp))
            clear HX7 HC8 HC14 HC15 HC18 hxn hcl
            generalize W.drewN nq = W at K7 K8 K14 K15 K18 ⊢
            have hfr : W.frozen? ⟨g18, 512 + i * 16 + j, none⟩ = false := K18.out.free _
            have hcl : ∃ u, W.cell? ⟨g18, 512 + i * 16 + j, none⟩ = some u := ⟨_, by rw [K18.out.cell]; exact List.getElem?_eq_getElem (by rw [bv_length]; exact hlt2)⟩
            obtain ⟨uo, hcl⟩ := hcl
            obtain ⟨T, hT⟩ : ∃ T, T = (signM seed n d).set (512 + i * 16 + j) (bb ^^^ x) := ⟨_, rfl⟩
            rw [← hT] at HNP
            have hTl : T.length = 1024 := by rw [hT, List.length_set, signM_length]
            have hbt : (bv (signM seed n d)).set (512 + i * 16 + j) (.int .u8 ((bb.toNat ^^^ x.toNat : Nat) : Int)) = bv T := by rw [hT, bv_set, UInt8.toNat_xor]
            have HBT := Lib.hid hbt
            have HT := Lib.hid hTl
            clear hbt hT hTl
            go_wp2_with fail
            have hon : W.grownBy (W.setCell ⟨g18, 512 + i * 16 + j, none⟩ (.int .u8 ((bb.toNat ^^^ x.toNat : Nat) : Int))) (some g18) := only_set _ _
            have hdr : Ext (W.setCell ⟨g18, 512 + i * 16 + j, none⟩ (.int .u8 ((bb.toNat ^^^ x.toNat : Nat) : Int))) (W.setCell ⟨g18, 512 + i * 16 + j, none⟩ (.int .u8 ((bb.toNat ^^^ x.toNat : Nat) : Int))).drew := (Ext.refl _).drew
            have hlts := HLT.out
            have h18 := K18.out.set (512 + i * 16 + j) (.int .u8 ((bb.toNat ^^^ x.toNat : Nat) : Int))
            rw [HBT.out] at h18
            have HD18 := Lib.hid (h18.keep hdr (by simp))
            have HD8 := Lib.hid ((K8.out.keep hon (by simp; omega)).keep hdr (by simp))
            have HD14 := Lib.hid ((K14.out.keep hon (by simp; omega)).keep hdr (by simp))
            have HD15 := Lib.hid ((K15.out.keep hon (by simp; omega)).keep hdr (by simp))
            have HXL := Lib.hid (show Ext w _ from (grown_then K7.out hon (.inr (by rintro b ⟨⟩; omega))).trans hdr)
            have HTL := Lib.hid (show (bv T).length = 1024 by rw [bv_length, HT.out])
            have HFT := Lib.hid (fun W => From T HT.out d HD.out W)
            have HTO := Lib.hid (fun W => To04 (bv T) W HTL.out (bv_one _))
            have HM2 := Lib.hid (fun W => Met (signM seed n d) T d d (signM_length _ _ _) HT.out HD.out HD.out W)
            clear K7 K8 K14 K15 K18 hon hdr h18 hcl hfr
            by_cases hx0 : x = 0
            · have hxz : ((x.toNat : Int) == 0) = true := by rw [hx0]; rfl
              clear HNP
              refine startM Since (by kernel_rfl) ?_
              (try simp only [Act.put, List.setIfInBounds_toArray, List.set_cons_succ, List.set_cons_zero])
              generalize (W.setCell ⟨g18, 512 + i * 16 + j, none⟩ (.int .u8 ((bb.toNat ^^^ x.toNat : Nat) : Int))).drew = w9 at HD18 HD8 HD14 HD15 HXL ⊢
              have hxx : Ext w9 w9 := Ext.refl _
              refine takeE 0 rfl (by kernel_rfl) (by kernel_rfl) (by kernel_rfl) rfl (fun _ _ _ _ h => h) rfl (fun K hK => ?_)
              go_big_quiet_op
              first | refine hK _ ?_ | refine ⟨_, fun _ _ => rfl, hK _ ?_⟩
              clear hK K
              refine takeE 1 rfl (by kernel_rfl) (by kernel_rfl) (by kernel_rfl) rfl (fun _ _ _ _ h => h) rfl (fun K hK => ?_)
              go_big_quiet_op
              first | refine hK _ ?_ | refine ⟨_, fun _ _ => rfl, hK _ ?_⟩
              clear hK K
              refine takeE 2 rfl (by kernel_rfl) (by kernel_rfl) (by kernel_rfl) rfl (fun _ _ _ _ h => h) rfl (fun K hK => ?_)
              go_big_quiet_op
              first | refine hK _ ?_ | refine ⟨_, fun _ _ => rfl, hK _ ?_⟩
              clear hK K
              refine skipE 3 rfl (by kernel_rfl) (by kernel_rfl) (by kernel_rfl) (fun _ _ _ _ h => h) rfl ?_
              (try simp only [Act.put, List.setIfInBounds_toArray, List.set_cons_succ, List.set_cons_zero])
              refine skipE 4 rfl (by kernel_rfl) (by kernel_rfl) (by kernel_rfl) (fun _ _ _ _ h => h) rfl ?_
              (try simp only [Act.put, List.setIfInBounds_toArray, List.set_cons_succ, List.set_cons_zero])
              refine skipE 5 rfl (by kernel_rfl) (by kernel_rfl) (by kernel_rfl) (fun _ _ _ _ h => h) rfl ?_
              (try simp only [Act.put, List.setIfInBounds_toArray, List.set_cons_succ, List.set_cons_zero])
              refine skipE 6 rfl (by kernel_rfl) (by kernel_rfl) (by kernel_rfl) (fun _ _ _ _ h => h) rfl ?_
              (try simp only [Act.put, List.setIfInBounds_toArray, List.set_cons_succ, List.set_cons_zero])
              refine skipE 7 rfl (by kernel_rfl) (by kernel_rfl) (by kernel_rfl) (fun _ _ _ _ h => h) rfl ?_
              (try simp only [Act.put, List.setIfInBounds_toArray, List.set_cons_succ, List.set_cons_zero])
              refine skipE 8 rfl (by kernel_rfl) (by kernel_rfl) (by kernel_rfl) (fun _ _ _ _ h => h) rfl ?_
              (try simp only [Act.put, List.setIfInBounds_toArray, List.set_cons_succ, List.set_cons_zero])
              refine takeE 9 rfl (by kernel_rfl) (by kernel_rfl) (by kernel_rfl) rfl (fun _ _ _ _ h => h) rfl (fun K hK => ?_)
              go_big_quiet_op
              first | refine hK _ ?_ | refine ⟨_, fun _ _ => rfl, hK _ ?_⟩
              clear hK K
              refine takeE 10 rfl (by kernel_rfl) (by kernel_rfl) (by kernel_rfl) rfl (fun _ _ _ _ h => h) rfl (fun K hK => ?_)
              go_big_quiet_op
              first | refine hK _ ?_ | refine ⟨_, fun _ _ => rfl, hK _ ?_⟩
              clear hK K
              refine skipE 11 rfl (by kernel_rfl) (by kernel_rfl) (by kernel_rfl) (fun _ _ _ _ h => h) rfl ?_
              (try simp only [Act.put, List.setIfInBounds_toArray, List.set_cons_succ, List.set_cons_zero])
              refine skipE 12 rfl (by kernel_rfl) (by kernel_rfl) (by kernel_rfl) (fun _ _ _ _ h => h) rfl ?_
              (try simp only [Act.put, List.setIfInBounds_toArray, List.set_cons_succ, List.set_cons_zero])
              refine skipE 13 rfl (by kernel_rfl) (by kernel_rfl) (by kernel_rfl) (fun _ _ _ _ h => h) rfl ?_
              (try simp only [Act.put, List.setIfInBounds_toArray, List.set_cons_succ, List.set_cons_zero])
              refine skipE 14 rfl (by kernel_rfl) (by kernel_rfl) (by kernel_rfl) (fun _ _ _ _ h => h) rfl ?_
              (try simp only [Act.put, List.setIfInBounds_toArray, List.set_cons_succ, List.set_cons_zero])
              refine skipE 15 rfl (by kernel_rfl) (by kernel_rfl) (by kernel_rfl) (fun _ _ _ _ h => h) rfl ?_
              (try simp only [Act.put, List.setIfInBounds_toArray, List.set_cons_succ, List.set_cons_zero])
              refine skipE 16 rfl (by kernel_rfl) (by kernel_rfl) (by kernel_rfl) (fun _ _ _ _ h => h) rfl ?_
              (try simp only [Act.put, List.setIfInBounds_toArray, List.set_cons_succ, List.set_cons_zero])
              refine takeE 17 rfl (by kernel_rfl) (by kernel_rfl) (by kernel_rfl) rfl (fun _ _ _ _ h => h) rfl (fun K hK => ?_)
              go_big_quiet_op
              first | refine hK _ ?_ | refine ⟨_, fun _ _ => rfl, hK _ ?_⟩
              clear hK K
              refine takeE 18 rfl (by kernel_rfl) (by kernel_rfl) (by kernel_rfl) rfl (fun _ _ _ _ h => h) rfl (fun K hK => ?_)
              go_big_quiet_op
              first | refine hK _ ?_ | refine ⟨_, fun _ _ => rfl, hK _ ?_⟩
              clear hK K
              refine doneM (by kernel_rfl) ?_ _
              (try simp only [Exit.then])
              go_wp2_with fail
              go_ret
              exact ⟨rfl, HXL.out.trans hxx⟩
            · have hxz : ((x.toNat : Int) == 0) = false := by
                have h1 : x.toNat ≠ 0 := fun h => hx0 (UInt8.toNat_inj.1 h)
                simp only [beq_eq_false_iff_ne, ne_eq]
                omega
              by_cases hTq : fromS T d = leafM seed n
              · have HMP2 := Lib.hid (HTU.out T i HT.out hTq hi (.inr (HNP.out hx0)))
                have HQ := Lib.hid (show _ ∧ ∀ w : World, (binOp .neq 31 (.agg (bv (fromS T d)).toArray) (.agg (bv (leafM seed n)).toArray)).run Try.prog w = .ok (.bool false) w from ⟨(HDN.out _ (fromS_length T d)).1, fun w => by have := (HDN.out _ (fromS_length T d)).2 w; simpa [hTq] using this⟩)
                clear hTq HNP
                refine startM Since (by kernel_rfl) ?_
                (try simp only [Act.put, List.setIfInBounds_toArray, List.set_cons_succ, List.set_cons_zero])
                generalize (W.setCell ⟨g18, 512 + i * 16 + j, none⟩ (.int .u8 ((bb.toNat ^^^ x.toNat : Nat) : Int))).drew = w9 at HD18 HD8 HD14 HD15 HXL ⊢
                have hxx : Ext w9 w9 := Ext.refl _
                refine takeE 0 rfl (by kernel_rfl) (by kernel_rfl) (by kernel_rfl) rfl (fun _ _ _ _ h => h) rfl (fun K hK => ?_)
                go_big_quiet_op
                first | refine hK _ ?_ | refine ⟨_, fun _ _ => rfl, hK _ ?_⟩
                clear hK K
                refine takeE 1 rfl (by kernel_rfl) (by kernel_rfl) (by kernel_rfl) rfl (fun _ _ _ _ h => h) rfl (fun K hK => ?_)
                go_big_quiet_op
                first | refine hK _ ?_ | refine ⟨_, fun _ _ => rfl, hK _ ?_⟩
                clear hK K
                refine takeE 2 rfl (by kernel_rfl) (by kernel_rfl) (by kernel_rfl) rfl (fun _ _ _ _ h => h) rfl (fun K hK => ?_)
                go_big_quiet_op
                first | refine hK _ ?_ | refine ⟨_, fun _ _ => rfl, hK _ ?_⟩
                clear hK K
                refine takeE 3 rfl (by kernel_rfl) (by kernel_rfl) (by kernel_rfl) rfl (fun _ _ _ _ h => h) rfl (fun K hK => ?_)
                refine quiet_agg 38 _ rfl _ rfl (bv T) _ Try.underlying38 rfl (szSigFrom04 HTL.out) (fun W' h => (HD18.out.keep (hxx.trans h.ext) (by simp)).cells) ?_
                refine hK _ ?_
                simp only [Act.put, List.setIfInBounds_toArray, List.set_cons_succ, List.set_cons_zero]
                clear hK K
                refine takeE 5 rfl (by kernel_rfl) (by kernel_rfl) (by kernel_rfl) rfl (fun _ _ _ _ h => h) rfl (fun K hK => ?_)
                refine quiet_agg 22 _ rfl _ rfl (bv d) _ Try.underlying22 rfl (b32_size HDL.out) (fun W' h => (HD8.out.keep (hxx.trans h.ext) (by simp)).cells) ?_
                refine hK _ ?_
                simp only [Act.put, List.setIfInBounds_toArray, List.set_cons_succ, List.set_cons_zero]
                clear hK K
                refine takeE 7 rfl (by kernel_rfl) (by kernel_rfl) (by kernel_rfl) rfl (fun _ _ _ _ h => h) rfl (fun K hK => ?_)
                refine quiet_agg 31 _ rfl _ rfl (bv (leafM seed n)) _ Try.underlying31 rfl (dig_size HLL.out) (fun W' h => (HD15.out.keep (hxx.trans h.ext) (by simp)).cells) ?_
                refine hK _ ?_
                simp only [Act.put, List.setIfInBounds_toArray, List.set_cons_succ, List.set_cons_zero]
                clear hK K
                refine stepM 4 rfl (by kernel_rfl) rfl (fun K hK => ?_)
                go_simp
                refine (HTO.out _).mono ?_
                rintro en w' ⟨rfl, hx'⟩
                have hk := hx'
                replace hxx := hxx.trans hx'
                clear hx'
                refine hK _ _ (hk) ?_
                clear hK K
                refine stepM 6 rfl (by kernel_rfl) rfl (fun K hK => ?_)
                go_simp
                refine (HFT.out _).mono ?_
                rintro en w' ⟨rfl, hx'⟩
                have hk := hx'
                replace hxx := hxx.trans hx'
                clear hx'
                refine hK _ _ (hk) ?_
                clear hK K
                refine takeE 8 rfl (by kernel_rfl) (by kernel_rfl) (by kernel_rfl) rfl (fun _ _ _ _ h => h) rfl (fun K hK => ?_)
                refine quiet_binK .neq 31 _ _ _ rfl _ _ rfl rfl (.bool false) (HQ.out.1) (HQ.out.2) ?_
                refine hK _ ?_
                simp only [Act.put, List.setIfInBounds_toArray, List.set_cons_succ, List.set_cons_zero]
                clear hK K
                refine takeE 9 rfl (by kernel_rfl) (by kernel_rfl) (by kernel_rfl) rfl (fun _ _ _ _ h => h) rfl (fun K hK => ?_)
                go_big_quiet_op
                first | refine hK _ ?_ | refine ⟨_, fun _ _ => rfl, hK _ ?_⟩
                clear hK K
                refine takeE 10 rfl (by kernel_rfl) (by kernel_rfl) (by kernel_rfl) rfl (fun _ _ _ _ h => h) rfl (fun K hK => ?_)
                go_big_quiet_op
                first | refine hK _ ?_ | refine ⟨_, fun _ _ => rfl, hK _ ?_⟩
                clear hK K
                refine takeE 11 rfl (by kernel_rfl) (by kernel_rfl) (by kernel_rfl) rfl (fun _ _ _ _ h => h) rfl (fun K hK => ?_)
                refine quiet_agg 43 _ rfl _ rfl (bv (signM seed n d)) _ Try.underlying43 rfl (sig_size HGL.out) (fun W' h => (HD14.out.keep (hxx.trans h.ext) (by simp)).cells) ?_
                refine hK _ ?_
                simp only [Act.put, List.setIfInBounds_toArray, List.set_cons_succ, List.set_cons_zero]
                clear hK K
                refine takeE 13 rfl (by kernel_rfl) (by kernel_rfl) (by kernel_rfl) rfl (fun _ _ _ _ h => h) rfl (fun K hK => ?_)
                refine quiet_agg 38 _ rfl _ rfl (bv T) _ Try.underlying38 rfl (szSigFrom04 HTL.out) (fun W' h => (HD18.out.keep (hxx.trans h.ext) (by simp)).cells) ?_
                refine hK _ ?_
                simp only [Act.put, List.setIfInBounds_toArray, List.set_cons_succ, List.set_cons_zero]
                clear hK K
                refine takeE 14 rfl (by kernel_rfl) (by kernel_rfl) (by kernel_rfl) rfl (fun _ _ _ _ h => h) rfl (fun K hK => ?_)
                refine quiet_agg 22 _ rfl _ rfl (bv d) _ Try.underlying22 rfl (b32_size HDL.out) (fun W' h => (HD8.out.keep (hxx.trans h.ext) (by simp)).cells) ?_
                refine hK _ ?_
                simp only [Act.put, List.setIfInBounds_toArray, List.set_cons_succ, List.set_cons_zero]
                clear hK K
                refine takeE 15 rfl (by kernel_rfl) (by kernel_rfl) (by kernel_rfl) rfl (fun _ _ _ _ h => h) rfl (fun K hK => ?_)
                refine quiet_agg 22 _ rfl _ rfl (bv d) _ Try.underlying22 rfl (b32_size HDL.out) (fun W' h => (HD8.out.keep (hxx.trans h.ext) (by simp)).cells) ?_
                refine hK _ ?_
                simp only [Act.put, List.setIfInBounds_toArray, List.set_cons_succ, List.set_cons_zero]
                clear hK K
                refine stepM 12 rfl (by kernel_rfl) rfl (fun K hK => ?_)
                go_simp
                refine (HF4.out _).mono ?_
                rintro en w' ⟨rfl, hx'⟩
                have hk := hx'
                replace hxx := hxx.trans hx'
                clear hx'
                refine hK _ _ (hk) ?_
                clear hK K
                refine stepM 16 rfl (by kernel_rfl) rfl (fun K hK => ?_)
                go_simp
                refine (HM2.out _).mono ?_
                rintro en w' ⟨r, rfl, hr, hx'⟩
                obtain rfl : r = true := hr HMP2.out
                clear hr
                have hk := hx'
                replace hxx := hxx.trans hx'
                clear hx'
                refine hK _ _ (hk) ?_
                clear hK K
                refine takeE 17 rfl (by kernel_rfl) (by kernel_rfl) (by kernel_rfl) rfl (fun _ _ _ _ h => h) rfl (fun K hK => ?_)
                go_big_quiet_op
                first | refine hK _ ?_ | refine ⟨_, fun _ _ => rfl, hK _ ?_⟩
                clear hK K
                refine takeE 18 rfl (by kernel_rfl) (by kernel_rfl) (by kernel_rfl) rfl (fun _ _ _ _ h => h) rfl (fun K hK => ?_)
                go_big_quiet_op
                first | refine hK _ ?_ | refine ⟨_, fun _ _ => rfl, hK _ ?_⟩
                clear hK K
                refine doneM (by kernel_rfl) ?_ _
                (try simp only [Exit.then])
                go_wp2_with fail
                go_ret
                exact ⟨rfl, HXL.out.trans hxx⟩
              · have HQ := Lib.hid (show _ ∧ ∀ w : World, (binOp .neq 31 (.agg (bv (fromS T d)).toArray) (.agg (bv (leafM seed n)).toArray)).run Try.prog w = .ok (.bool true) w from ⟨(HDN.out _ (fromS_length T d)).1, fun w => by
                  have := (HDN.out _ (fromS_length T d)).2 w
                  have hbf : (fromS T d == leafM seed n) = false := by simpa using hTq
                  have hne : (BinOp.neq = BinOp.eql) = False := by simp
                  simp only [hne, if_false, hbf, Bool.not_false] at this
                  exact this⟩)
                clear hTq HNP
                refine startM Since (by kernel_rfl) ?_
                (try simp only [Act.put, List.setIfInBounds_toArray, List.set_cons_succ, List.set_cons_zero])
                generalize (W.setCell ⟨g18, 512 + i * 16 + j, none⟩ (.int .u8 ((bb.toNat ^^^ x.toNat : Nat) : Int))).drew = w9 at HD18 HD8 HD14 HD15 HXL ⊢
                have hxx : Ext w9 w9 := Ext.refl _
                refine takeE 0 rfl (by kernel_rfl) (by kernel_rfl) (by kernel_rfl) rfl (fun _ _ _ _ h => h) rfl (fun K hK => ?_)
                go_big_quiet_op
                first | refine hK _ ?_ | refine ⟨_, fun _ _ => rfl, hK _ ?_⟩
                clear hK K
                refine takeE 1 rfl (by kernel_rfl) (by kernel_rfl) (by kernel_rfl) rfl (fun _ _ _ _ h => h) rfl (fun K hK => ?_)
                go_big_quiet_op
                first | refine hK _ ?_ | refine ⟨_, fun _ _ => rfl, hK _ ?_⟩
                clear hK K
                refine takeE 2 rfl (by kernel_rfl) (by kernel_rfl) (by kernel_rfl) rfl (fun _ _ _ _ h => h) rfl (fun K hK => ?_)
                go_big_quiet_op
                first | refine hK _ ?_ | refine ⟨_, fun _ _ => rfl, hK _ ?_⟩
                clear hK K
                refine takeE 3 rfl (by kernel_rfl) (by kernel_rfl) (by kernel_rfl) rfl (fun _ _ _ _ h => h) rfl (fun K hK => ?_)
                refine quiet_agg 38 _ rfl _ rfl (bv T) _ Try.underlying38 rfl (szSigFrom04 HTL.out) (fun W' h => (HD18.out.keep (hxx.trans h.ext) (by simp)).cells) ?_
                refine hK _ ?_
                simp only [Act.put, List.setIfInBounds_toArray, List.set_cons_succ, List.set_cons_zero]
                clear hK K
                refine takeE 5 rfl (by kernel_rfl) (by kernel_rfl) (by kernel_rfl) rfl (fun _ _ _ _ h => h) rfl (fun K hK => ?_)
                refine quiet_agg 22 _ rfl _ rfl (bv d) _ Try.underlying22 rfl (b32_size HDL.out) (fun W' h => (HD8.out.keep (hxx.trans h.ext) (by simp)).cells) ?_
                refine hK _ ?_
                simp only [Act.put, List.setIfInBounds_toArray, List.set_cons_succ, List.set_cons_zero]
                clear hK K
                refine takeE 7 rfl (by kernel_rfl) (by kernel_rfl) (by kernel_rfl) rfl (fun _ _ _ _ h => h) rfl (fun K hK => ?_)
                refine quiet_agg 31 _ rfl _ rfl (bv (leafM seed n)) _ Try.underlying31 rfl (dig_size HLL.out) (fun W' h => (HD15.out.keep (hxx.trans h.ext) (by simp)).cells) ?_
                refine hK _ ?_
                simp only [Act.put, List.setIfInBounds_toArray, List.set_cons_succ, List.set_cons_zero]
                clear hK K
                refine stepM 4 rfl (by kernel_rfl) rfl (fun K hK => ?_)
                go_simp
                refine (HTO.out _).mono ?_
                rintro en w' ⟨rfl, hx'⟩
                have hk := hx'
                replace hxx := hxx.trans hx'
                clear hx'
                refine hK _ _ (hk) ?_
                clear hK K
                refine stepM 6 rfl (by kernel_rfl) rfl (fun K hK => ?_)
                go_simp
                refine (HFT.out _).mono ?_
                rintro en w' ⟨rfl, hx'⟩
                have hk := hx'
                replace hxx := hxx.trans hx'
                clear hx'
                refine hK _ _ (hk) ?_
                clear hK K
                refine takeE 8 rfl (by kernel_rfl) (by kernel_rfl) (by kernel_rfl) rfl (fun _ _ _ _ h => h) rfl (fun K hK => ?_)
                refine quiet_binK .neq 31 _ _ _ rfl _ _ rfl rfl (.bool true) (HQ.out.1) (HQ.out.2) ?_
                refine hK _ ?_
                simp only [Act.put, List.setIfInBounds_toArray, List.set_cons_succ, List.set_cons_zero]
                clear hK K
                refine takeE 9 rfl (by kernel_rfl) (by kernel_rfl) (by kernel_rfl) rfl (fun _ _ _ _ h => h) rfl (fun K hK => ?_)
                go_big_quiet_op
                first | refine hK _ ?_ | refine ⟨_, fun _ _ => rfl, hK _ ?_⟩
                clear hK K
                refine takeE 10 rfl (by kernel_rfl) (by kernel_rfl) (by kernel_rfl) rfl (fun _ _ _ _ h => h) rfl (fun K hK => ?_)
                go_big_quiet_op
                first | refine hK _ ?_ | refine ⟨_, fun _ _ => rfl, hK _ ?_⟩
                clear hK K
                refine skipE 11 rfl (by kernel_rfl) (by kernel_rfl) (by kernel_rfl) (fun _ _ _ _ h => h) rfl ?_
                (try simp only [Act.put, List.setIfInBounds_toArray, List.set_cons_succ, List.set_cons_zero])
                refine skipE 12 rfl (by kernel_rfl) (by kernel_rfl) (by kernel_rfl) (fun _ _ _ _ h => h) rfl ?_
                (try simp only [Act.put, List.setIfInBounds_toArray, List.set_cons_succ, List.set_cons_zero])
                refine skipE 13 rfl (by kernel_rfl) (by kernel_rfl) (by kernel_rfl) (fun _ _ _ _ h => h) rfl ?_
                (try simp only [Act.put, List.setIfInBounds_toArray, List.set_cons_succ, List.set_cons_zero])
                refine skipE 14 rfl (by kernel_rfl) (by kernel_rfl) (by kernel_rfl) (fun _ _ _ _ h => h) rfl ?_
                (try simp only [Act.put, List.setIfInBounds_toArray, List.set_cons_succ, List.set_cons_zero])
                refine skipE 15 rfl (by kernel_rfl) (by kernel_rfl) (by kernel_rfl) (fun _ _ _ _ h => h) rfl ?_
                (try simp only [Act.put, List.setIfInBounds_toArray, List.set_cons_succ, List.set_cons_zero])
                refine skipE 16 rfl (by kernel_rfl) (by kernel_rfl) (by kernel_rfl) (fun _ _ _ _ h => h) rfl ?_
                (try simp only [Act.put, List.setIfInBounds_toArray, List.set_cons_succ, List.set_cons_zero])
                refine takeE 17 rfl (by kernel_rfl) (by kernel_rfl) (by kernel_rfl) rfl (fun _ _ _ _ h => h) rfl (fun K hK => ?_)
                go_big_quiet_op
                first | refine hK _ ?_ | refine ⟨_, fun _ _ => rfl, hK _ ?_⟩
                clear hK K
                refine takeE 18 rfl (by kernel_rfl) (by kernel_rfl) (by kernel_rfl) rfl (fun _ _ _ _ h => h) rfl (fun K hK => ?_)
                go_big_quiet_op
                first | refine hK _ ?_ | refine ⟨_, fun _ _ => rfl, hK _ ?_⟩
                clear hK K
                refine doneM (by kernel_rfl) ?_ _
                (try simp only [Exit.then])
                go_wp2_with fail
                go_ret
                exact ⟨rfl, HXL.out.trans hxx⟩
        · have HQ := Lib.hid (show _ ∧ ∀ w : World, (binOp .eql 31 (.agg (bv (fromS (signM seed n d) e)).toArray) (.agg (bv (leafM seed n)).toArray)).run Try.prog w = .ok (.bool false) w from ⟨(HDQ.out _ (fromS_length (signM seed n d) e)).1, fun w => by
            have := (HDQ.out _ (fromS_length (signM seed n d) e)).2 w
            have hbf : (fromS (signM seed n d) e == leafM seed n) = false := by simpa using hf
            simp only [eq_self, if_true, hbf] at this
            exact this⟩)
          clear hf
          go_wp2_with fail
          refine startM Since (by kernel_rfl) ?_
          (try simp only [Act.put, List.setIfInBounds_toArray, List.set_cons_succ, List.set_cons_zero])
          have hxx : Ext w7 wr.drew := hx.drew
          generalize wr.drew = w0 at hxx ⊢
          refine takeE 0 rfl (by kernel_rfl) (by kernel_rfl) (by kernel_rfl) rfl (fun _ _ _ _ h => h) rfl (fun K hK => ?_)
          go_big_quiet_op
          first | refine hK _ ?_ | refine ⟨_, fun _ _ => rfl, hK _ ?_⟩
          clear hK K
          refine takeE 1 rfl (by kernel_rfl) (by kernel_rfl) (by kernel_rfl) rfl (fun _ _ _ _ h => h) rfl (fun K hK => ?_)
          refine quiet_agg 43 _ rfl _ rfl (bv (signM seed n d)) _ Try.underlying43 rfl (sig_size HGL.out) (fun W' h => (HB14.out.keep (hxx.trans h.ext) (by simp)).cells) ?_
          refine hK _ ?_
          simp only [Act.put, List.setIfInBounds_toArray, List.set_cons_succ, List.set_cons_zero]
          clear hK K
          refine takeE 2 rfl (by kernel_rfl) (by kernel_rfl) (by kernel_rfl) rfl (fun _ _ _ _ h => h) rfl (fun K hK => ?_)
          refine quiet_agg 22 _ rfl _ rfl (bv e) _ Try.underlying22 rfl (b32_size HEL.out) (fun W' h => (HB9.out.keep (hxx.trans h.ext) (by simp)).cells) ?_
          refine hK _ ?_
          simp only [Act.put, List.setIfInBounds_toArray, List.set_cons_succ, List.set_cons_zero]
          clear hK K
          refine takeE 4 rfl (by kernel_rfl) (by kernel_rfl) (by kernel_rfl) rfl (fun _ _ _ _ h => h) rfl (fun K hK => ?_)
          refine quiet_agg 31 _ rfl _ rfl (bv (leafM seed n)) _ Try.underlying31 rfl (dig_size HLL.out) (fun W' h => (HB15.out.keep (hxx.trans h.ext) (by simp)).cells) ?_
          refine hK _ ?_
          simp only [Act.put, List.setIfInBounds_toArray, List.set_cons_succ, List.set_cons_zero]
          clear hK K
          refine stepM 3 rfl (by kernel_rfl) rfl (fun K hK => ?_)
          go_simp
          refine (HFE.out _).mono ?_
          rintro en w' ⟨rfl, hx'⟩
          have hk := hx'
          replace hxx := hxx.trans hx'
          clear hx'
          refine hK _ _ (hk) ?_
          clear hK K
          refine takeE 5 rfl (by kernel_rfl) (by kernel_rfl) (by kernel_rfl) rfl (fun _ _ _ _ h => h) rfl (fun K hK => ?_)
          refine quiet_binK .eql 31 _ _ _ rfl _ _ rfl rfl (.bool false) (HQ.out.1) (HQ.out.2) ?_
          refine hK _ ?_
          simp only [Act.put, List.setIfInBounds_toArray, List.set_cons_succ, List.set_cons_zero]
          clear hK K
          refine takeE 6 rfl (by kernel_rfl) (by kernel_rfl) (by kernel_rfl) rfl (fun _ _ _ _ h => h) rfl (fun K hK => ?_)
          go_big_quiet_op
          first | refine hK _ ?_ | refine ⟨_, fun _ _ => rfl, hK _ ?_⟩
          clear hK K
          refine takeE 7 rfl (by kernel_rfl) (by kernel_rfl) (by kernel_rfl) rfl (fun _ _ _ _ h => h) rfl (fun K hK => ?_)
          go_big_quiet_op
          first | refine hK _ ?_ | refine ⟨_, fun _ _ => rfl, hK _ ?_⟩
          clear hK K
          refine skipE 8 rfl (by kernel_rfl) (by kernel_rfl) (by kernel_rfl) (fun _ _ _ _ h => h) rfl ?_
          (try simp only [Act.put, List.setIfInBounds_toArray, List.set_cons_succ, List.set_cons_zero])
          refine skipE 9 rfl (by kernel_rfl) (by kernel_rfl) (by kernel_rfl) (fun _ _ _ _ h => h) rfl ?_
          (try simp only [Act.put, List.setIfInBounds_toArray, List.set_cons_succ, List.set_cons_zero])
          refine skipE 10 rfl (by kernel_rfl) (by kernel_rfl) (by kernel_rfl) (fun _ _ _ _ h => h) rfl ?_
          (try simp only [Act.put, List.setIfInBounds_toArray, List.set_cons_succ, List.set_cons_zero])
          refine skipE 11 rfl (by kernel_rfl) (by kernel_rfl) (by kernel_rfl) (fun _ _ _ _ h => h) rfl ?_
          (try simp only [Act.put, List.setIfInBounds_toArray, List.set_cons_succ, List.set_cons_zero])
          refine skipE 12 rfl (by kernel_rfl) (by kernel_rfl) (by kernel_rfl) (fun _ _ _ _ h => h) rfl ?_
          (try simp only [Act.put, List.setIfInBounds_toArray, List.set_cons_succ, List.set_cons_zero])
          refine skipE 13 rfl (by kernel_rfl) (by kernel_rfl) (by kernel_rfl) (fun _ _ _ _ h => h) rfl ?_
          (try simp only [Act.put, List.setIfInBounds_toArray, List.set_cons_succ, List.set_cons_zero])
          refine skipE 14 rfl (by kernel_rfl) (by kernel_rfl) (by kernel_rfl) (fun _ _ _ _ h => h) rfl ?_
          (try simp only [Act.put, List.setIfInBounds_toArray, List.set_cons_succ, List.set_cons_zero])
          refine skipE 15 rfl (by kernel_rfl) (by kernel_rfl) (by kernel_rfl) (fun _ _ _ _ h => h) rfl ?_
          (try simp only [Act.put, List.setIfInBounds_toArray, List.set_cons_succ, List.set_cons_zero])
          refine takeE 16 rfl (by kernel_rfl) (by kernel_rfl) (by kernel_rfl) rfl (fun _ _ _ _ h => h) rfl (fun K hK => ?_)
          go_big_quiet_op
          first | refine hK _ ?_ | refine ⟨_, fun _ _ => rfl, hK _ ?_⟩
          clear hK K
          refine doneM (by kernel_rfl) ?_ _
          (try simp only [Exit.then])
          go_wp2_with (first
            | ((with_reducible refine wpDst 68 rfl ?_); refine wpList_load_agg _ rfl 43 _ rfl _ rfl (bv (signM seed n d)) _ Try.underlying43 rfl (sig_size HGL.out) (by exact (HB14.out.keep hxx (by simp)).cells) ?_)
            | fail)
          obtain ⟨i, hi, e32⟩ : ∃ i : Nat, i < 32 ∧ (at_ : Int) % 32 = (i : Int) := ⟨at_ % 32, by omega, by omega⟩
          obtain ⟨j, hj, e16⟩ : ∃ j : Nat, j < 16 ∧ (at_ : Int) / 64 % 16 = (j : Int) := ⟨at_ / 64 % 16, by omega, by omega⟩
          refine (HF4.out _).mono ?_
          rintro en w69 ⟨rfl, hx69⟩
          have hxy : Ext w7 (w69.alloc (.cells (bv (signM seed n d)).toArray 38)) := (hxx.trans hx69).alloc _
          have HX7 := Lib.hid (HX.out.trans hxy)
          have HLT := Lib.hid (show w.heap.size + 1 < w69.heap.size ∧ g14 < w69.heap.size ∧ g15 < w69.heap.size from ⟨(HB8.out.keep (hxx.trans hx69) (by simp)).lt, (HB14.out.keep (hxx.trans hx69) (by simp)).lt, (HB15.out.keep (hxx.trans hx69) (by simp)).lt⟩)
          have HC8 := Lib.hid (HB8.out.keep hxy (by simp))
          have HC14 := Lib.hid (HB14.out.keep hxy (by simp))
          have HC15 := Lib.hid (HB15.out.keep hxy (by simp))
          have HC18 := Lib.hid (show Blk (w69.alloc (.cells (bv (signM seed n d)).toArray 38)) w69.heap.size 38 (bv (signM seed n d)) from Blk.new _ _ _)
          clear hxx hx69 hxy
          go_wp2_with (first
            | ((with_reducible refine wpDst 18 rfl ?_); refine wpList_alloc _ rfl 38 rfl _ hzr ?_)
            | ((with_reducible refine wpSto 18 69 rfl ?_); refine wpList_storeN rfl 38 _ _ rfl _ rfl ZR (bv (signM seed n d)) _ rfl rfl (szSigFrom04 HGL.out) (by rw [HGL.out, HZRL.out]) (bv_one _) ?_)
            | fail)
          · generalize w69.alloc (.cells (bv (signM seed n d)).toArray 38) = W at HX7 HC8 HC14 HC15 HC18 ⊢
            generalize w69.heap.size = g18 at HC18 HLT ⊢
            have hlt2 : i * 16 + j < (signM seed n d).length := by rw [signM_length]; omega
            have hV : bits .xor .u8 (((signM seed n d)[i * 16 + j]'hlt2).toNat : Int) (x.toNat : Int) = ((((signM seed n d)[i * 16 + j]'hlt2) ^^^ x).toNat : Int) := xor_u8 _ _
            have HNP : Hid (x ≠ 0 → opS (signM seed n d) i ≠ opS ((signM seed n d).set (i * 16 + j) (((signM seed n d)[i * 16 + j]'hlt2) ^^^ x)) i) := Lib.hid (fun h => turn_op (signM_length _ _ _) hi hj _ (xor_ne h))
            have hcl : W.cell? ⟨g18, i * 16 + j, none⟩ = some (.int .u8 (((signM seed n d)[i * 16 + j]'hlt2).toNat : Int)) := by
              rw [HC18.out.cell]; simp [bv, hlt2]
            generalize hbb : (signM seed n d)[i * 16 + j]'hlt2 = bb at hV HNP hcl
            clear hbb
            refine wp_region_draw_tail 13 (by kernel_rfl) (by kernel_rfl) (by kernel_rfl) ?_
            simp only [List.take_succ_cons, List.take_zero, List.drop_succ_cons, List.drop_zero]
            repeat (go_big_quiet_step (fail))
            refine wpQuiet_nil ?_
            rintro _ ⟨nq, rfl⟩
            have hxn : Ext W (W.drewN nq) := (Ext.refl W).drewN nq
            have K7 := Lib.hid (HX7.out.trans hxn)
            have K8 := Lib.hid (HC8.out.keep hxn (by simp))
            have K14 := Lib.hid (HC14.out.keep hxn (by simp))
            have K15 := Lib.hid (HC15.out.keep hxn (by simp))
            have K18 := Lib.hid (HC18.out.keep hxn (by simp))
            clear HX7 HC8 HC14 HC15 HC18 hxn hcl
            generalize W.drewN nq = W at K7 K8 K14 K15 K18 ⊢
            have hfr : W.frozen? ⟨g18, i * 16 + j, none⟩ = false := K18.out.free _
            have hcl : ∃ u, W.cell? ⟨g18, i * 16 + j, none⟩ = some u := ⟨_, by rw [K18.out.cell]; exact List.getElem?_eq_getElem (by rw [bv_length]; exact hlt2)⟩
            obtain ⟨uo, hcl⟩ := hcl
            obtain ⟨T, hT⟩ : ∃ T, T = (signM seed n d).set (i * 16 + j) (bb ^^^ x) := ⟨_, rfl⟩
            rw [← hT] at HNP
            have hTl : T.length = 1024 := by rw [hT, List.length_set, signM_length]
            have hbt : (bv (signM seed n d)).set (i * 16 + j) (.int .u8 ((bb.toNat ^^^ x.toNat : Nat) : Int)) = bv T := by rw [hT, bv_set, UInt8.toNat_xor]
            have HBT := Lib.hid hbt
            have HT := Lib.hid hTl
            clear hbt hT hTl
            go_wp2_with fail
            have hon : W.grownBy (W.setCell ⟨g18, i * 16 + j, none⟩ (.int .u8 ((bb.toNat ^^^ x.toNat : Nat) : Int))) (some g18) := only_set _ _
            have hdr : Ext (W.setCell ⟨g18, i * 16 + j, none⟩ (.int .u8 ((bb.toNat ^^^ x.toNat : Nat) : Int))) (W.setCell ⟨g18, i * 16 + j, none⟩ (.int .u8 ((bb.toNat ^^^ x.toNat : Nat) : Int))).drew := (Ext.refl _).drew
            have hlts := HLT.out
            have h18 := K18.out.set (i * 16 + j) (.int .u8 ((bb.toNat ^^^ x.toNat : Nat) : Int))
            rw [HBT.out] at h18
            have HD18 := Lib.hid (h18.keep hdr (by simp))
            have HD8 := Lib.hid ((K8.out.keep hon (by simp; omega)).keep hdr (by simp))
            have HD14 := Lib.hid ((K14.out.keep hon (by simp; omega)).keep hdr (by simp))
            have HD15 := Lib.hid ((K15.out.keep hon (by simp; omega)).keep hdr (by simp))
            have HXL := Lib.hid (show Ext w _ from (grown_then K7.out hon (.inr (by rintro b ⟨⟩; omega))).trans hdr)
            have HTL := Lib.hid (show (bv T).length = 1024 by rw [bv_length, HT.out])
            have HFT := Lib.hid (fun W => From T HT.out d HD.out W)
            have HTO := Lib.hid (fun W => To04 (bv T) W HTL.out (bv_one _))
            have HM2 := Lib.hid (fun W => Met (signM seed n d) T d d (signM_length _ _ _) HT.out HD.out HD.out W)
            clear K7 K8 K14 K15 K18 hon hdr h18 hcl hfr
            by_cases hx0 : x = 0
            · have hxz : ((x.toNat : Int) == 0) = true := by rw [hx0]; rfl
              clear HNP
              refine startM Since (by kernel_rfl) ?_
              (try simp only [Act.put, List.setIfInBounds_toArray, List.set_cons_succ, List.set_cons_zero])
              generalize (W.setCell ⟨g18, i * 16 + j, none⟩ (.int .u8 ((bb.toNat ^^^ x.toNat : Nat) : Int))).drew = w9 at HD18 HD8 HD14 HD15 HXL ⊢
              have hxx : Ext w9 w9 := Ext.refl _
              refine takeE 0 rfl (by kernel_rfl) (by kernel_rfl) (by kernel_rfl) rfl (fun _ _ _ _ h => h) rfl (fun K hK => ?_)
              go_big_quiet_op
              first | refine hK _ ?_ | refine ⟨_, fun _ _ => rfl, hK _ ?_⟩
              clear hK K
              refine takeE 1 rfl (by kernel_rfl) (by kernel_rfl) (by kernel_rfl) rfl (fun _ _ _ _ h => h) rfl (fun K hK => ?_)
              go_big_quiet_op
              first | refine hK _ ?_ | refine ⟨_, fun _ _ => rfl, hK _ ?_⟩
              clear hK K
              refine takeE 2 rfl (by kernel_rfl) (by kernel_rfl) (by kernel_rfl) rfl (fun _ _ _ _ h => h) rfl (fun K hK => ?_)
              go_big_quiet_op
              first | refine hK _ ?_ | refine ⟨_, fun _ _ => rfl, hK _ ?_⟩
              clear hK K
              refine skipE 3 rfl (by kernel_rfl) (by kernel_rfl) (by kernel_rfl) (fun _ _ _ _ h => h) rfl ?_
              (try simp only [Act.put, List.setIfInBounds_toArray, List.set_cons_succ, List.set_cons_zero])
              refine skipE 4 rfl (by kernel_rfl) (by kernel_rfl) (by kernel_rfl) (fun _ _ _ _ h => h) rfl ?_
              (try simp only [Act.put, List.setIfInBounds_toArray, List.set_cons_succ, List.set_cons_zero])
              refine skipE 5 rfl (by kernel_rfl) (by kernel_rfl) (by kernel_rfl) (fun _ _ _ _ h => h) rfl ?_
              (try simp only [Act.put, List.setIfInBounds_toArray, List.set_cons_succ, List.set_cons_zero])
              refine skipE 6 rfl (by kernel_rfl) (by kernel_rfl) (by kernel_rfl) (fun _ _ _ _ h => h) rfl ?_
              (try simp only [Act.put, List.setIfInBounds_toArray, List.set_cons_succ, List.set_cons_zero])
              refine skipE 7 rfl (by kernel_rfl) (by kernel_rfl) (by kernel_rfl) (fun _ _ _ _ h => h) rfl ?_
              (try simp only [Act.put, List.setIfInBounds_toArray, List.set_cons_succ, List.set_cons_zero])
              refine skipE 8 rfl (by kernel_rfl) (by kernel_rfl) (by kernel_rfl) (fun _ _ _ _ h => h) rfl ?_
              (try simp only [Act.put, List.setIfInBounds_toArray, List.set_cons_succ, List.set_cons_zero])
              refine takeE 9 rfl (by kernel_rfl) (by kernel_rfl) (by kernel_rfl) rfl (fun _ _ _ _ h => h) rfl (fun K hK => ?_)
              go_big_quiet_op
              first | refine hK _ ?_ | refine ⟨_, fun _ _ => rfl, hK _ ?_⟩
              clear hK K
              refine takeE 10 rfl (by kernel_rfl) (by kernel_rfl) (by kernel_rfl) rfl (fun _ _ _ _ h => h) rfl (fun K hK => ?_)
              go_big_quiet_op
              first | refine hK _ ?_ | refine ⟨_, fun _ _ => rfl, hK _ ?_⟩
              clear hK K
              refine skipE 11 rfl (by kernel_rfl) (by kernel_rfl) (by kernel_rfl) (fun _ _ _ _ h => h) rfl ?_
              (try simp only [Act.put, List.setIfInBounds_toArray, List.set_cons_succ, List.set_cons_zero])
              refine skipE 12 rfl (by kernel_rfl) (by kernel_rfl) (by kernel_rfl) (fun _ _ _ _ h => h) rfl ?_
              (try simp only [Act.put, List.setIfInBounds_toArray, List.set_cons_succ, List.set_cons_zero])
              refine skipE 13 rfl (by kernel_rfl) (by kernel_rfl) (by kernel_rfl) (fun _ _ _ _ h => h) rfl ?_
              (try simp only [Act.put, List.setIfInBounds_toArray, List.set_cons_succ, List.set_cons_zero])
              refine skipE 14 rfl (by kernel_rfl) (by kernel_rfl) (by kernel_rfl) (fun _ _ _ _ h => h) rfl ?_
              (try simp only [Act.put, List.setIfInBounds_toArray, List.set_cons_succ, List.set_cons_zero])
              refine skipE 15 rfl (by kernel_rfl) (by kernel_rfl) (by kernel_rfl) (fun _ _ _ _ h => h) rfl ?_
              (try simp only [Act.put, List.setIfInBounds_toArray, List.set_cons_succ, List.set_cons_zero])
              refine skipE 16 rfl (by kernel_rfl) (by kernel_rfl) (by kernel_rfl) (fun _ _ _ _ h => h) rfl ?_
              (try simp only [Act.put, List.setIfInBounds_toArray, List.set_cons_succ, List.set_cons_zero])
              refine takeE 17 rfl (by kernel_rfl) (by kernel_rfl) (by kernel_rfl) rfl (fun _ _ _ _ h => h) rfl (fun K hK => ?_)
              go_big_quiet_op
              first | refine hK _ ?_ | refine ⟨_, fun _ _ => rfl, hK _ ?_⟩
              clear hK K
              refine takeE 18 rfl (by kernel_rfl) (by kernel_rfl) (by kernel_rfl) rfl (fun _ _ _ _ h => h) rfl (fun K hK => ?_)
              go_big_quiet_op
              first | refine hK _ ?_ | refine ⟨_, fun _ _ => rfl, hK _ ?_⟩
              clear hK K
              refine doneM (by kernel_rfl) ?_ _
              (try simp only [Exit.then])
              go_wp2_with fail
              go_ret
              exact ⟨rfl, HXL.out.trans hxx⟩
            · have hxz : ((x.toNat : Int) == 0) = false := by
                have h1 : x.toNat ≠ 0 := fun h => hx0 (UInt8.toNat_inj.1 h)
                simp only [beq_eq_false_iff_ne, ne_eq]
                omega
              by_cases hTq : fromS T d = leafM seed n
              · have HMP2 := Lib.hid (HTU.out T i HT.out hTq hi (.inl (HNP.out hx0)))
                have HQ := Lib.hid (show _ ∧ ∀ w : World, (binOp .neq 31 (.agg (bv (fromS T d)).toArray) (.agg (bv (leafM seed n)).toArray)).run Try.prog w = .ok (.bool false) w from ⟨(HDN.out _ (fromS_length T d)).1, fun w => by have := (HDN.out _ (fromS_length T d)).2 w; simpa [hTq] using this⟩)
                clear hTq HNP
                refine startM Since (by kernel_rfl) ?_
                (try simp only [Act.put, List.setIfInBounds_toArray, List.set_cons_succ, List.set_cons_zero])
                generalize (W.setCell ⟨g18, i * 16 + j, none⟩ (.int .u8 ((bb.toNat ^^^ x.toNat : Nat) : Int))).drew = w9 at HD18 HD8 HD14 HD15 HXL ⊢
                have hxx : Ext w9 w9 := Ext.refl _
                refine takeE 0 rfl (by kernel_rfl) (by kernel_rfl) (by kernel_rfl) rfl (fun _ _ _ _ h => h) rfl (fun K hK => ?_)
                go_big_quiet_op
                first | refine hK _ ?_ | refine ⟨_, fun _ _ => rfl, hK _ ?_⟩
                clear hK K
                refine takeE 1 rfl (by kernel_rfl) (by kernel_rfl) (by kernel_rfl) rfl (fun _ _ _ _ h => h) rfl (fun K hK => ?_)
                go_big_quiet_op
                first | refine hK _ ?_ | refine ⟨_, fun _ _ => rfl, hK _ ?_⟩
                clear hK K
                refine takeE 2 rfl (by kernel_rfl) (by kernel_rfl) (by kernel_rfl) rfl (fun _ _ _ _ h => h) rfl (fun K hK => ?_)
                go_big_quiet_op
                first | refine hK _ ?_ | refine ⟨_, fun _ _ => rfl, hK _ ?_⟩
                clear hK K
                refine takeE 3 rfl (by kernel_rfl) (by kernel_rfl) (by kernel_rfl) rfl (fun _ _ _ _ h => h) rfl (fun K hK => ?_)
                refine quiet_agg 38 _ rfl _ rfl (bv T) _ Try.underlying38 rfl (szSigFrom04 HTL.out) (fun W' h => (HD18.out.keep (hxx.trans h.ext) (by simp)).cells) ?_
                refine hK _ ?_
                simp only [Act.put, List.setIfInBounds_toArray, List.set_cons_succ, List.set_cons_zero]
                clear hK K
                refine takeE 5 rfl (by kernel_rfl) (by kernel_rfl) (by kernel_rfl) rfl (fun _ _ _ _ h => h) rfl (fun K hK => ?_)
                refine quiet_agg 22 _ rfl _ rfl (bv d) _ Try.underlying22 rfl (b32_size HDL.out) (fun W' h => (HD8.out.keep (hxx.trans h.ext) (by simp)).cells) ?_
                refine hK _ ?_
                simp only [Act.put, List.setIfInBounds_toArray, List.set_cons_succ, List.set_cons_zero]
                clear hK K
                refine takeE 7 rfl (by kernel_rfl) (by kernel_rfl) (by kernel_rfl) rfl (fun _ _ _ _ h => h) rfl (fun K hK => ?_)
                refine quiet_agg 31 _ rfl _ rfl (bv (leafM seed n)) _ Try.underlying31 rfl (dig_size HLL.out) (fun W' h => (HD15.out.keep (hxx.trans h.ext) (by simp)).cells) ?_
                refine hK _ ?_
                simp only [Act.put, List.setIfInBounds_toArray, List.set_cons_succ, List.set_cons_zero]
                clear hK K
                refine stepM 4 rfl (by kernel_rfl) rfl (fun K hK => ?_)
                go_simp
                refine (HTO.out _).mono ?_
                rintro en w' ⟨rfl, hx'⟩
                have hk := hx'
                replace hxx := hxx.trans hx'
                clear hx'
                refine hK _ _ (hk) ?_
                clear hK K
                refine stepM 6 rfl (by kernel_rfl) rfl (fun K hK => ?_)
                go_simp
                refine (HFT.out _).mono ?_
                rintro en w' ⟨rfl, hx'⟩
                have hk := hx'
                replace hxx := hxx.trans hx'
                clear hx'
                refine hK _ _ (hk) ?_
                clear hK K
                refine takeE 8 rfl (by kernel_rfl) (by kernel_rfl) (by kernel_rfl) rfl (fun _ _ _ _ h => h) rfl (fun K hK => ?_)
                refine quiet_binK .neq 31 _ _ _ rfl _ _ rfl rfl (.bool false) (HQ.out.1) (HQ.out.2) ?_
                refine hK _ ?_
                simp only [Act.put, List.setIfInBounds_toArray, List.set_cons_succ, List.set_cons_zero]
                clear hK K
                refine takeE 9 rfl (by kernel_rfl) (by kernel_rfl) (by kernel_rfl) rfl (fun _ _ _ _ h => h) rfl (fun K hK => ?_)
                go_big_quiet_op
                first | refine hK _ ?_ | refine ⟨_, fun _ _ => rfl, hK _ ?_⟩
                clear hK K
                refine takeE 10 rfl (by kernel_rfl) (by kernel_rfl) (by kernel_rfl) rfl (fun _ _ _ _ h => h) rfl (fun K hK => ?_)
                go_big_quiet_op
                first | refine hK _ ?_ | refine ⟨_, fun _ _ => rfl, hK _ ?_⟩
                clear hK K
                refine takeE 11 rfl (by kernel_rfl) (by kernel_rfl) (by kernel_rfl) rfl (fun _ _ _ _ h => h) rfl (fun K hK => ?_)
                refine quiet_agg 43 _ rfl _ rfl (bv (signM seed n d)) _ Try.underlying43 rfl (sig_size HGL.out) (fun W' h => (HD14.out.keep (hxx.trans h.ext) (by simp)).cells) ?_
                refine hK _ ?_
                simp only [Act.put, List.setIfInBounds_toArray, List.set_cons_succ, List.set_cons_zero]
                clear hK K
                refine takeE 13 rfl (by kernel_rfl) (by kernel_rfl) (by kernel_rfl) rfl (fun _ _ _ _ h => h) rfl (fun K hK => ?_)
                refine quiet_agg 38 _ rfl _ rfl (bv T) _ Try.underlying38 rfl (szSigFrom04 HTL.out) (fun W' h => (HD18.out.keep (hxx.trans h.ext) (by simp)).cells) ?_
                refine hK _ ?_
                simp only [Act.put, List.setIfInBounds_toArray, List.set_cons_succ, List.set_cons_zero]
                clear hK K
                refine takeE 14 rfl (by kernel_rfl) (by kernel_rfl) (by kernel_rfl) rfl (fun _ _ _ _ h => h) rfl (fun K hK => ?_)
                refine quiet_agg 22 _ rfl _ rfl (bv d) _ Try.underlying22 rfl (b32_size HDL.out) (fun W' h => (HD8.out.keep (hxx.trans h.ext) (by simp)).cells) ?_
                refine hK _ ?_
                simp only [Act.put, List.setIfInBounds_toArray, List.set_cons_succ, List.set_cons_zero]
                clear hK K
                refine takeE 15 rfl (by kernel_rfl) (by kernel_rfl) (by kernel_rfl) rfl (fun _ _ _ _ h => h) rfl (fun K hK => ?_)
                refine quiet_agg 22 _ rfl _ rfl (bv d) _ Try.underlying22 rfl (b32_size HDL.out) (fun W' h => (HD8.out.keep (hxx.trans h.ext) (by simp)).cells) ?_
                refine hK _ ?_
                simp only [Act.put, List.setIfInBounds_toArray, List.set_cons_succ, List.set_cons_zero]
                clear hK K
                refine stepM 12 rfl (by kernel_rfl) rfl (fun K hK => ?_)
                go_simp
                refine (HF4.out _).mono ?_
                rintro en w' ⟨rfl, hx'⟩
                have hk := hx'
                replace hxx := hxx.trans hx'
                clear hx'
                refine hK _ _ (hk) ?_
                clear hK K
                refine stepM 16 rfl (by kernel_rfl) rfl (fun K hK => ?_)
                go_simp
                refine (HM2.out _).mono ?_
                rintro en w' ⟨r, rfl, hr, hx'⟩
                obtain rfl : r = true := hr HMP2.out
                clear hr
                have hk := hx'
                replace hxx := hxx.trans hx'
                clear hx'
                refine hK _ _ (hk) ?_
                clear hK K
                refine takeE 17 rfl (by kernel_rfl) (by kernel_rfl) (by kernel_rfl) rfl (fun _ _ _ _ h => h) rfl (fun K hK => ?_)
                go_big_quiet_op
                first | refine hK _ ?_ | refine ⟨_, fun _ _ => rfl, hK _ ?_⟩
                clear hK K
                refine takeE 18 rfl (by kernel_rfl) (by kernel_rfl) (by kernel_rfl) rfl (fun _ _ _ _ h => h) rfl (fun K hK => ?_)
                go_big_quiet_op
                first | refine hK _ ?_ | refine ⟨_, fun _ _ => rfl, hK _ ?_⟩
                clear hK K
                refine doneM (by kernel_rfl) ?_ _
                (try simp only [Exit.then])
                go_wp2_with fail
                go_ret
                exact ⟨rfl, HXL.out.trans hxx⟩
              · have HQ := Lib.hid (show _ ∧ ∀ w : World, (binOp .neq 31 (.agg (bv (fromS T d)).toArray) (.agg (bv (leafM seed n)).toArray)).run Try.prog w = .ok (.bool true) w from ⟨(HDN.out _ (fromS_length T d)).1, fun w => by
                  have := (HDN.out _ (fromS_length T d)).2 w
                  have hbf : (fromS T d == leafM seed n) = false := by simpa using hTq
                  have hne : (BinOp.neq = BinOp.eql) = False := by simp
                  simp only [hne, if_false, hbf, Bool.not_false] at this
                  exact this⟩)
                clear hTq HNP
                refine startM Since (by kernel_rfl) ?_
                (try simp only [Act.put, List.setIfInBounds_toArray, List.set_cons_succ, List.set_cons_zero])
                generalize (W.setCell ⟨g18, i * 16 + j, none⟩ (.int .u8 ((bb.toNat ^^^ x.toNat : Nat) : Int))).drew = w9 at HD18 HD8 HD14 HD15 HXL ⊢
                have hxx : Ext w9 w9 := Ext.refl _
                refine takeE 0 rfl (by kernel_rfl) (by kernel_rfl) (by kernel_rfl) rfl (fun _ _ _ _ h => h) rfl (fun K hK => ?_)
                go_big_quiet_op
                first | refine hK _ ?_ | refine ⟨_, fun _ _ => rfl, hK _ ?_⟩
                clear hK K
                refine takeE 1 rfl (by kernel_rfl) (by kernel_rfl) (by kernel_rfl) rfl (fun _ _ _ _ h => h) rfl (fun K hK => ?_)
                go_big_quiet_op
                first | refine hK _ ?_ | refine ⟨_, fun _ _ => rfl, hK _ ?_⟩
                clear hK K
                refine takeE 2 rfl (by kernel_rfl) (by kernel_rfl) (by kernel_rfl) rfl (fun _ _ _ _ h => h) rfl (fun K hK => ?_)
                go_big_quiet_op
                first | refine hK _ ?_ | refine ⟨_, fun _ _ => rfl, hK _ ?_⟩
                clear hK K
                refine takeE 3 rfl (by kernel_rfl) (by kernel_rfl) (by kernel_rfl) rfl (fun _ _ _ _ h => h) rfl (fun K hK => ?_)
                refine quiet_agg 38 _ rfl _ rfl (bv T) _ Try.underlying38 rfl (szSigFrom04 HTL.out) (fun W' h => (HD18.out.keep (hxx.trans h.ext) (by simp)).cells) ?_
                refine hK _ ?_
                simp only [Act.put, List.setIfInBounds_toArray, List.set_cons_succ, List.set_cons_zero]
                clear hK K
                refine takeE 5 rfl (by kernel_rfl) (by kernel_rfl) (by kernel_rfl) rfl (fun _ _ _ _ h => h) rfl (fun K hK => ?_)
                refine quiet_agg 22 _ rfl _ rfl (bv d) _ Try.underlying22 rfl (b32_size HDL.out) (fun W' h => (HD8.out.keep (hxx.trans h.ext) (by simp)).cells) ?_
                refine hK _ ?_
                simp only [Act.put, List.setIfInBounds_toArray, List.set_cons_succ, List.set_cons_zero]
                clear hK K
                refine takeE 7 rfl (by kernel_rfl) (by kernel_rfl) (by kernel_rfl) rfl (fun _ _ _ _ h => h) rfl (fun K hK => ?_)
                refine quiet_agg 31 _ rfl _ rfl (bv (leafM seed n)) _ Try.underlying31 rfl (dig_size HLL.out) (fun W' h => (HD15.out.keep (hxx.trans h.ext) (by simp)).cells) ?_
                refine hK _ ?_
                simp only [Act.put, List.setIfInBounds_toArray, List.set_cons_succ, List.set_cons_zero]
                clear hK K
                refine stepM 4 rfl (by kernel_rfl) rfl (fun K hK => ?_)
                go_simp
                refine (HTO.out _).mono ?_
                rintro en w' ⟨rfl, hx'⟩
                have hk := hx'
                replace hxx := hxx.trans hx'
                clear hx'
                refine hK _ _ (hk) ?_
                clear hK K
                refine stepM 6 rfl (by kernel_rfl) rfl (fun K hK => ?_)
                go_simp
                refine (HFT.out _).mono ?_
                rintro en w' ⟨rfl, hx'⟩
                have hk := hx'
                replace hxx := hxx.trans hx'
                clear hx'
                refine hK _ _ (hk) ?_
                clear hK K
                refine takeE 8 rfl (by kernel_rfl) (by kernel_rfl) (by kernel_rfl) rfl (fun _ _ _ _ h => h) rfl (fun K hK => ?_)
                refine quiet_binK .neq 31 _ _ _ rfl _ _ rfl rfl (.bool true) (HQ.out.1) (HQ.out.2) ?_
                refine hK _ ?_
                simp only [Act.put, List.setIfInBounds_toArray, List.set_cons_succ, List.set_cons_zero]
                clear hK K
                refine takeE 9 rfl (by kernel_rfl) (by kernel_rfl) (by kernel_rfl) rfl (fun _ _ _ _ h => h) rfl (fun K hK => ?_)
                go_big_quiet_op
                first | refine hK _ ?_ | refine ⟨_, fun _ _ => rfl, hK _ ?_⟩
                clear hK K
                refine takeE 10 rfl (by kernel_rfl) (by kernel_rfl) (by kernel_rfl) rfl (fun _ _ _ _ h => h) rfl (fun K hK => ?_)
                go_big_quiet_op
                first | refine hK _ ?_ | refine ⟨_, fun _ _ => rfl, hK _ ?_⟩
                clear hK K
                refine skipE 11 rfl (by kernel_rfl) (by kernel_rfl) (by kernel_rfl) (fun _ _ _ _ h => h) rfl ?_
                (try simp only [Act.put, List.setIfInBounds_toArray, List.set_cons_succ, List.set_cons_zero])
                refine skipE 12 rfl (by kernel_rfl) (by kernel_rfl) (by kernel_rfl) (fun _ _ _ _ h => h) rfl ?_
                (try simp only [Act.put, List.setIfInBounds_toArray, List.set_cons_succ, List.set_cons_zero])
                refine skipE 13 rfl (by kernel_rfl) (by kernel_rfl) (by kernel_rfl) (fun _ _ _ _ h => h) rfl ?_
                (try simp only [Act.put, List.setIfInBounds_toArray, List.set_cons_succ, List.set_cons_zero])
                refine skipE 14 rfl (by kernel_rfl) (by kernel_rfl) (by kernel_rfl) (fun _ _ _ _ h => h) rfl ?_
                (try simp only [Act.put, List.setIfInBounds_toArray, List.set_cons_succ, List.set_cons_zero])
                refine skipE 15 rfl (by kernel_rfl) (by kernel_rfl) (by kernel_rfl) (fun _ _ _ _ h => h) rfl ?_
                (try simp only [Act.put, List.setIfInBounds_toArray, List.set_cons_succ, List.set_cons_zero])
                refine skipE 16 rfl (by kernel_rfl) (by kernel_rfl) (by kernel_rfl) (fun _ _ _ _ h => h) rfl ?_
                (try simp only [Act.put, List.setIfInBounds_toArray, List.set_cons_succ, List.set_cons_zero])
                refine takeE 17 rfl (by kernel_rfl) (by kernel_rfl) (by kernel_rfl) rfl (fun _ _ _ _ h => h) rfl (fun K hK => ?_)
                go_big_quiet_op
                first | refine hK _ ?_ | refine ⟨_, fun _ _ => rfl, hK _ ?_⟩
                clear hK K
                refine takeE 18 rfl (by kernel_rfl) (by kernel_rfl) (by kernel_rfl) rfl (fun _ _ _ _ h => h) rfl (fun K hK => ?_)
                go_big_quiet_op
                first | refine hK _ ?_ | refine ⟨_, fun _ _ => rfl, hK _ ?_⟩
                clear hK K
                refine doneM (by kernel_rfl) ?_ _
                (try simp only [Exit.then])
                go_wp2_with fail
                go_ret
                exact ⟨rfl, HXL.out.trans hxx⟩
          · generalize w69.alloc (.cells (bv (signM seed n d)).toArray 38) = W at HX7 HC8 HC14 HC15 HC18 ⊢
            generalize w69.heap.size = g18 at HC18 HLT ⊢
            have hlt2 : 512 + i * 16 + j < (signM seed n d).length := by rw [signM_length]; omega
            have hV : bits .xor .u8 (((signM seed n d)[512 + i * 16 + j]'hlt2).toNat : Int) (x.toNat : Int) = ((((signM seed n d)[512 + i * 16 + j]'hlt2) ^^^ x).toNat : Int) := xor_u8 _ _
            have HNP : Hid (x ≠ 0 → otS (signM seed n d) i ≠ otS ((signM seed n d).set (512 + i * 16 + j) (((signM seed n d)[512 + i * 16 + j]'hlt2) ^^^ x)) i) := Lib.hid (fun h => turn_ot (signM_length _ _ _) hi hj _ (xor_ne h))
            have hcl : W.cell? ⟨g18, 512 + i * 16 + j, none⟩ = some (.int .u8 (((signM seed n d)[512 + i * 16 + j]'hlt2).toNat : Int)) := by
              rw [HC18.out.cell]; simp [bv, hlt2]
            generalize hbb : (signM seed n d)[512 + i * 16 + j]'hlt2 = bb at hV HNP hcl
            clear hbb
            refine wp_region_draw_tail 13 (by kernel_rfl) (by kernel_rfl) (by kernel_rfl) ?_
            simp only [List.take_succ_cons, List.take_zero, List.drop_succ_cons, List.drop_zero]
            repeat (go_big_quiet_step (fail))
            refine wpQuiet_nil ?_
            rintro _ ⟨nq, rfl⟩
            have hxn : Ext W (W.drewN nq) := (Ext.refl W).drewN nq
            have K7 := Lib.hid (HX7.out.trans hxn)
            have K8 := Lib.hid (HC8.out.keep hxn (by simp))
            have K14 := Lib.hid (HC14.out.keep hxn (by simp))
            have K15 := Lib.hid (HC15.out.keep hxn (by simp))
            have K18 := Lib.hid (HC18.out.keep hxn (by simp))
            clear HX7 HC8 HC14 HC15 HC18 hxn hcl
            generalize W.drewN nq = W at K7 K8 K14 K15 K18 ⊢
            have hfr : W.frozen? ⟨g18, 512 + i * 16 + j, none⟩ = false := K18.out.free _
            have hcl : ∃ u, W.cell? ⟨g18, 512 + i * 16 + j, none⟩ = some u := ⟨_, by rw [K18.out.cell]; exact List.getElem?_eq_getElem (by rw [bv_length]; exact hlt2)⟩
            obtain ⟨uo, hcl⟩ := hcl
            obtain ⟨T, hT⟩ : ∃ T, T = (signM seed n d).set (512 + i * 16 + j) (bb ^^^ x) := ⟨_, rfl⟩
            rw [← hT] at HNP
            have hTl : T.length = 1024 := by rw [hT, List.length_set, signM_length]
            have hbt : (bv (signM seed n d)).set (512 + i * 16 + j) (.int .u8 ((bb.toNat ^^^ x.toNat : Nat) : Int)) = bv T := by rw [hT, bv_set, UInt8.toNat_xor]
            have HBT := Lib.hid hbt
            have HT := Lib.hid hTl
            clear hbt hT hTl
            go_wp2_with fail
            have hon : W.grownBy (W.setCell ⟨g18, 512 + i * 16 + j, none⟩ (.int .u8 ((bb.toNat ^^^ x.toNat : Nat) : Int))) (some g18) := only_set _ _
            have hdr : Ext (W.setCell ⟨g18, 512 + i * 16 + j, none⟩ (.int .u8 ((bb.toNat ^^^ x.toNat : Nat) : Int))) (W.setCell ⟨g18, 512 + i * 16 + j, none⟩ (.int .u8 ((bb.toNat ^^^ x.toNat : Nat) : Int))).drew := (Ext.refl _).drew
            have hlts := HLT.out
            have h18 := K18.out.set (512 + i * 16 + j) (.int .u8 ((bb.toNat ^^^ x.toNat : Nat) : Int))
            rw [HBT.out] at h18
            have HD18 := Lib.hid (h18.keep hdr (by simp))
            have HD8 := Lib.hid ((K8.out.keep hon (by simp; omega)).keep hdr (by simp))
            have HD14 := Lib.hid ((K14.out.keep hon (by simp; omega)).keep hdr (by simp))
            have HD15 := Lib.hid ((K15.out.keep hon (by simp; omega)).keep hdr (by simp))
            have HXL := Lib.hid (show Ext w _ from (grown_then K7.out hon (.inr (by rintro b ⟨⟩; omega))).trans hdr)
            have HTL := Lib.hid (show (bv T).length = 1024 by rw [bv_length, HT.out])
            have HFT := Lib.hid (fun W => From T HT.out d HD.out W)
            have HTO := Lib.hid (fun W => To04 (bv T) W HTL.out (bv_one _))
            have HM2 := Lib.hid (fun W => Met (signM seed n d) T d d (signM_length _ _ _) HT.out HD.out HD.out W)
            clear K7 K8 K14 K15 K18 hon hdr h18 hcl hfr
            by_cases hx0 : x = 0
            · have hxz : ((x.toNat : Int) == 0) = true := by rw [hx0]; rfl
              clear HNP
              refine startM Since (by kernel_rfl) ?_
              (try simp only [Act.put, List.setIfInBounds_toArray, List.set_cons_succ, List.set_cons_zero])
              generalize (W.setCell ⟨g18, 512 + i * 16 + j, none⟩ (.int .u8 ((bb.toNat ^^^ x.toNat : Nat) : Int))).drew = w9 at HD18 HD8 HD14 HD15 HXL ⊢
              have hxx : Ext w9 w9 := Ext.refl _
              refine takeE 0 rfl (by kernel_rfl) (by kernel_rfl) (by kernel_rfl) rfl (fun _ _ _ _ h => h) rfl (fun K hK => ?_)
              go_big_quiet_op
              first | refine hK _ ?_ | refine ⟨_, fun _ _ => rfl, hK _ ?_⟩
              clear hK K
              refine takeE 1 rfl (by kernel_rfl) (by kernel_rfl) (by kernel_rfl) rfl (fun _ _ _ _ h => h) rfl (fun K hK => ?_)
              go_big_quiet_op
              first | refine hK _ ?_ | refine ⟨_, fun _ _ => rfl, hK _ ?_⟩
              clear hK K
              refine takeE 2 rfl (by kernel_rfl) (by kernel_rfl) (by kernel_rfl) rfl (fun _ _ _ _ h => h) rfl (fun K hK => ?_)
              go_big_quiet_op
              first | refine hK _ ?_ | refine ⟨_, fun _ _ => rfl, hK _ ?_⟩
              clear hK K
              refine skipE 3 rfl (by kernel_rfl) (by kernel_rfl) (by kernel_rfl) (fun _ _ _ _ h => h) rfl ?_
              (try simp only [Act.put, List.setIfInBounds_toArray, List.set_cons_succ, List.set_cons_zero])
              refine skipE 4 rfl (by kernel_rfl) (by kernel_rfl) (by kernel_rfl) (fun _ _ _ _ h => h) rfl ?_
              (try simp only [Act.put, List.setIfInBounds_toArray, List.set_cons_succ, List.set_cons_zero])
              refine skipE 5 rfl (by kernel_rfl) (by kernel_rfl) (by kernel_rfl) (fun _ _ _ _ h => h) rfl ?_
              (try simp only [Act.put, List.setIfInBounds_toArray, List.set_cons_succ, List.set_cons_zero])
              refine skipE 6 rfl (by kernel_rfl) (by kernel_rfl) (by kernel_rfl) (fun _ _ _ _ h => h) rfl ?_
              (try simp only [Act.put, List.setIfInBounds_toArray, List.set_cons_succ, List.set_cons_zero])
              refine skipE 7 rfl (by kernel_rfl) (by kernel_rfl) (by kernel_rfl) (fun _ _ _ _ h => h) rfl ?_
              (try simp only [Act.put, List.setIfInBounds_toArray, List.set_cons_succ, List.set_cons_zero])
              refine skipE 8 rfl (by kernel_rfl) (by kernel_rfl) (by kernel_rfl) (fun _ _ _ _ h => h) rfl ?_
              (try simp only [Act.put, List.setIfInBounds_toArray, List.set_cons_succ, List.set_cons_zero])
              refine takeE 9 rfl (by kernel_rfl) (by kernel_rfl) (by kernel_rfl) rfl (fun _ _ _ _ h => h) rfl (fun K hK => ?_)
              go_big_quiet_op
              first | refine hK _ ?_ | refine ⟨_, fun _ _ => rfl, hK _ ?_⟩
              clear hK K
              refine takeE 10 rfl (by kernel_rfl) (by kernel_rfl) (by kernel_rfl) rfl (fun _ _ _ _ h => h) rfl (fun K hK => ?_)
              go_big_quiet_op
              first | refine hK _ ?_ | refine ⟨_, fun _ _ => rfl, hK _ ?_⟩
              clear hK K
              refine skipE 11 rfl (by kernel_rfl) (by kernel_rfl) (by kernel_rfl) (fun _ _ _ _ h => h) rfl ?_
              (try simp only [Act.put, List.setIfInBounds_toArray, List.set_cons_succ, List.set_cons_zero])
              refine skipE 12 rfl (by kernel_rfl) (by kernel_rfl) (by kernel_rfl) (fun _ _ _ _ h => h) rfl ?_
              (try simp only [Act.put, List.setIfInBounds_toArray, List.set_cons_succ, List.set_cons_zero])
              refine skipE 13 rfl (by kernel_rfl) (by kernel_rfl) (by kernel_rfl) (fun _ _ _ _ h => h) rfl ?_
              (try simp only [Act.put, List.setIfInBounds_toArray, List.set_cons_succ, List.set_cons_zero])
              refine skipE 14 rfl (by kernel_rfl) (by kernel_rfl) (by kernel_rfl) (fun _ _ _ _ h => h) rfl ?_
              (try simp only [Act.put, List.setIfInBounds_toArray, List.set_cons_succ, List.set_cons_zero])
              refine skipE 15 rfl (by kernel_rfl) (by kernel_rfl) (by kernel_rfl) (fun _ _ _ _ h => h) rfl ?_
              (try simp only [Act.put, List.setIfInBounds_toArray, List.set_cons_succ, List.set_cons_zero])
              refine skipE 16 rfl (by kernel_rfl) (by kernel_rfl) (by kernel_rfl) (fun _ _ _ _ h => h) rfl ?_
              (try simp only [Act.put, List.setIfInBounds_toArray, List.set_cons_succ, List.set_cons_zero])
              refine takeE 17 rfl (by kernel_rfl) (by kernel_rfl) (by kernel_rfl) rfl (fun _ _ _ _ h => h) rfl (fun K hK => ?_)
              go_big_quiet_op
              first | refine hK _ ?_ | refine ⟨_, fun _ _ => rfl, hK _ ?_⟩
              clear hK K
              refine takeE 18 rfl (by kernel_rfl) (by kernel_rfl) (by kernel_rfl) rfl (fun _ _ _ _ h => h) rfl (fun K hK => ?_)
              go_big_quiet_op
              first | refine hK _ ?_ | refine ⟨_, fun _ _ => rfl, hK _ ?_⟩
              clear hK K
              refine doneM (by kernel_rfl) ?_ _
              (try simp only [Exit.then])
              go_wp2_with fail
              go_ret
              exact ⟨rfl, HXL.out.trans hxx⟩
            · have hxz : ((x.toNat : Int) == 0) = false := by
                have h1 : x.toNat ≠ 0 := fun h => hx0 (UInt8.toNat_inj.1 h)
                simp only [beq_eq_false_iff_ne, ne_eq]
                omega
              by_cases hTq : fromS T d = leafM seed n
              · have HMP2 := Lib.hid (HTU.out T i HT.out hTq hi (.inr (HNP.out hx0)))
                have HQ := Lib.hid (show _ ∧ ∀ w : World, (binOp .neq 31 (.agg (bv (fromS T d)).toArray) (.agg (bv (leafM seed n)).toArray)).run Try.prog w = .ok (.bool false) w from ⟨(HDN.out _ (fromS_length T d)).1, fun w => by have := (HDN.out _ (fromS_length T d)).2 w; simpa [hTq] using this⟩)
                clear hTq HNP
                refine startM Since (by kernel_rfl) ?_
                (try simp only [Act.put, List.setIfInBounds_toArray, List.set_cons_succ, List.set_cons_zero])
                generalize (W.setCell ⟨g18, 512 + i * 16 + j, none⟩ (.int .u8 ((bb.toNat ^^^ x.toNat : Nat) : Int))).drew = w9 at HD18 HD8 HD14 HD15 HXL ⊢
                have hxx : Ext w9 w9 := Ext.refl _
                refine takeE 0 rfl (by kernel_rfl) (by kernel_rfl) (by kernel_rfl) rfl (fun _ _ _ _ h => h) rfl (fun K hK => ?_)
                go_big_quiet_op
                first | refine hK _ ?_ | refine ⟨_, fun _ _ => rfl, hK _ ?_⟩
                clear hK K
                refine takeE 1 rfl (by kernel_rfl) (by kernel_rfl) (by kernel_rfl) rfl (fun _ _ _ _ h => h) rfl (fun K hK => ?_)
                go_big_quiet_op
                first | refine hK _ ?_ | refine ⟨_, fun _ _ => rfl, hK _ ?_⟩
                clear hK K
                refine takeE 2 rfl (by kernel_rfl) (by kernel_rfl) (by kernel_rfl) rfl (fun _ _ _ _ h => h) rfl (fun K hK => ?_)
                go_big_quiet_op
                first | refine hK _ ?_ | refine ⟨_, fun _ _ => rfl, hK _ ?_⟩
                clear hK K
                refine takeE 3 rfl (by kernel_rfl) (by kernel_rfl) (by kernel_rfl) rfl (fun _ _ _ _ h => h) rfl (fun K hK => ?_)
                refine quiet_agg 38 _ rfl _ rfl (bv T) _ Try.underlying38 rfl (szSigFrom04 HTL.out) (fun W' h => (HD18.out.keep (hxx.trans h.ext) (by simp)).cells) ?_
                refine hK _ ?_
                simp only [Act.put, List.setIfInBounds_toArray, List.set_cons_succ, List.set_cons_zero]
                clear hK K
                refine takeE 5 rfl (by kernel_rfl) (by kernel_rfl) (by kernel_rfl) rfl (fun _ _ _ _ h => h) rfl (fun K hK => ?_)
                refine quiet_agg 22 _ rfl _ rfl (bv d) _ Try.underlying22 rfl (b32_size HDL.out) (fun W' h => (HD8.out.keep (hxx.trans h.ext) (by simp)).cells) ?_
                refine hK _ ?_
                simp only [Act.put, List.setIfInBounds_toArray, List.set_cons_succ, List.set_cons_zero]
                clear hK K
                refine takeE 7 rfl (by kernel_rfl) (by kernel_rfl) (by kernel_rfl) rfl (fun _ _ _ _ h => h) rfl (fun K hK => ?_)
                refine quiet_agg 31 _ rfl _ rfl (bv (leafM seed n)) _ Try.underlying31 rfl (dig_size HLL.out) (fun W' h => (HD15.out.keep (hxx.trans h.ext) (by simp)).cells) ?_
                refine hK _ ?_
                simp only [Act.put, List.setIfInBounds_toArray, List.set_cons_succ, List.set_cons_zero]
                clear hK K
                refine stepM 4 rfl (by kernel_rfl) rfl (fun K hK => ?_)
                go_simp
                refine (HTO.out _).mono ?_
                rintro en w' ⟨rfl, hx'⟩
                have hk := hx'
                replace hxx := hxx.trans hx'
                clear hx'
                refine hK _ _ (hk) ?_
                clear hK K
                refine stepM 6 rfl (by kernel_rfl) rfl (fun K hK => ?_)
                go_simp
                refine (HFT.out _).mono ?_
                rintro en w' ⟨rfl, hx'⟩
                have hk := hx'
                replace hxx := hxx.trans hx'
                clear hx'
                refine hK _ _ (hk) ?_
                clear hK K
                refine takeE 8 rfl (by kernel_rfl) (by kernel_rfl) (by kernel_rfl) rfl (fun _ _ _ _ h => h) rfl (fun K hK => ?_)
                refine quiet_binK .neq 31 _ _ _ rfl _ _ rfl rfl (.bool false) (HQ.out.1) (HQ.out.2) ?_
                refine hK _ ?_
                simp only [Act.put, List.setIfInBounds_toArray, List.set_cons_succ, List.set_cons_zero]
                clear hK K
                refine takeE 9 rfl (by kernel_rfl) (by kernel_rfl) (by kernel_rfl) rfl (fun _ _ _ _ h => h) rfl (fun K hK => ?_)
                go_big_quiet_op
                first | refine hK _ ?_ | refine ⟨_, fun _ _ => rfl, hK _ ?_⟩
                clear hK K
                refine takeE 10 rfl (by kernel_rfl) (by kernel_rfl) (by kernel_rfl) rfl (fun _ _ _ _ h => h) rfl (fun K hK => ?_)
                go_big_quiet_op
                first | refine hK _ ?_ | refine ⟨_, fun _ _ => rfl, hK _ ?_⟩
                clear hK K
                refine takeE 11 rfl (by kernel_rfl) (by kernel_rfl) (by kernel_rfl) rfl (fun _ _ _ _ h => h) rfl (fun K hK => ?_)
                refine quiet_agg 43 _ rfl _ rfl (bv (signM seed n d)) _ Try.underlying43 rfl (sig_size HGL.out) (fun W' h => (HD14.out.keep (hxx.trans h.ext) (by simp)).cells) ?_
                refine hK _ ?_
                simp only [Act.put, List.setIfInBounds_toArray, List.set_cons_succ, List.set_cons_zero]
                clear hK K
                refine takeE 13 rfl (by kernel_rfl) (by kernel_rfl) (by kernel_rfl) rfl (fun _ _ _ _ h => h) rfl (fun K hK => ?_)
                refine quiet_agg 38 _ rfl _ rfl (bv T) _ Try.underlying38 rfl (szSigFrom04 HTL.out) (fun W' h => (HD18.out.keep (hxx.trans h.ext) (by simp)).cells) ?_
                refine hK _ ?_
                simp only [Act.put, List.setIfInBounds_toArray, List.set_cons_succ, List.set_cons_zero]
                clear hK K
                refine takeE 14 rfl (by kernel_rfl) (by kernel_rfl) (by kernel_rfl) rfl (fun _ _ _ _ h => h) rfl (fun K hK => ?_)
                refine quiet_agg 22 _ rfl _ rfl (bv d) _ Try.underlying22 rfl (b32_size HDL.out) (fun W' h => (HD8.out.keep (hxx.trans h.ext) (by simp)).cells) ?_
                refine hK _ ?_
                simp only [Act.put, List.setIfInBounds_toArray, List.set_cons_succ, List.set_cons_zero]
                clear hK K
                refine takeE 15 rfl (by kernel_rfl) (by kernel_rfl) (by kernel_rfl) rfl (fun _ _ _ _ h => h) rfl (fun K hK => ?_)
                refine quiet_agg 22 _ rfl _ rfl (bv d) _ Try.underlying22 rfl (b32_size HDL.out) (fun W' h => (HD8.out.keep (hxx.trans h.ext) (by simp)).cells) ?_
                refine hK _ ?_
                simp only [Act.put, List.setIfInBounds_toArray, List.set_cons_succ, List.set_cons_zero]
                clear hK K
                refine stepM 12 rfl (by kernel_rfl) rfl (fun K hK => ?_)
                go_simp
                refine (HF4.out _).mono ?_
                rintro en w' ⟨rfl, hx'⟩
                have hk := hx'
                replace hxx := hxx.trans hx'
                clear hx'
                refine hK _ _ (hk) ?_
                clear hK K
                refine stepM 16 rfl (by kernel_rfl) rfl (fun K hK => ?_)
                go_simp
                refine (HM2.out _).mono ?_
                rintro en w' ⟨r, rfl, hr, hx'⟩
                obtain rfl : r = true := hr HMP2.out
                clear hr
                have hk := hx'
                replace hxx := hxx.trans hx'
                clear hx'
                refine hK _ _ (hk) ?_
                clear hK K
                refine takeE 17 rfl (by kernel_rfl) (by kernel_rfl) (by kernel_rfl) rfl (fun _ _ _ _ h => h) rfl (fun K hK => ?_)
                go_big_quiet_op
                first | refine hK _ ?_ | refine ⟨_, fun _ _ => rfl, hK _ ?_⟩
                clear hK K
                refine takeE 18 rfl (by kernel_rfl) (by kernel_rfl) (by kernel_rfl) rfl (fun _ _ _ _ h => h) rfl (fun K hK => ?_)
                go_big_quiet_op
                first | refine hK _ ?_ | refine ⟨_, fun _ _ => rfl, hK _ ?_⟩
                clear hK K
                refine doneM (by kernel_rfl) ?_ _
                (try simp only [Exit.then])
                go_wp2_with fail
                go_ret
                exact ⟨rfl, HXL.out.trans hxx⟩
              · have HQ := Lib.hid (show _ ∧ ∀ w : World, (binOp .neq 31 (.agg (bv (fromS T d)).toArray) (.agg (bv (leafM seed n)).toArray)).run Try.prog w = .ok (.bool true) w from ⟨(HDN.out _ (fromS_length T d)).1, fun w => by
                  have := (HDN.out _ (fromS_length T d)).2 w
                  have hbf : (fromS T d == leafM seed n) = false := by simpa using hTq
                  have hne : (BinOp.neq = BinOp.eql) = False := by simp
                  simp only [hne, if_false, hbf, Bool.not_false] at this
                  exact this⟩)
                clear hTq HNP
                refine startM Since (by kernel_rfl) ?_
                (try simp only [Act.put, List.setIfInBounds_toArray, List.set_cons_succ, List.set_cons_zero])
                generalize (W.setCell ⟨g18, 512 + i * 16 + j, none⟩ (.int .u8 ((bb.toNat ^^^ x.toNat : Nat) : Int))).drew = w9 at HD18 HD8 HD14 HD15 HXL ⊢
                have hxx : Ext w9 w9 := Ext.refl _
                refine takeE 0 rfl (by kernel_rfl) (by kernel_rfl) (by kernel_rfl) rfl (fun _ _ _ _ h => h) rfl (fun K hK => ?_)
                go_big_quiet_op
                first | refine hK _ ?_ | refine ⟨_, fun _ _ => rfl, hK _ ?_⟩
                clear hK K
                refine takeE 1 rfl (by kernel_rfl) (by kernel_rfl) (by kernel_rfl) rfl (fun _ _ _ _ h => h) rfl (fun K hK => ?_)
                go_big_quiet_op
                first | refine hK _ ?_ | refine ⟨_, fun _ _ => rfl, hK _ ?_⟩
                clear hK K
                refine takeE 2 rfl (by kernel_rfl) (by kernel_rfl) (by kernel_rfl) rfl (fun _ _ _ _ h => h) rfl (fun K hK => ?_)
                go_big_quiet_op
                first | refine hK _ ?_ | refine ⟨_, fun _ _ => rfl, hK _ ?_⟩
                clear hK K
                refine takeE 3 rfl (by kernel_rfl) (by kernel_rfl) (by kernel_rfl) rfl (fun _ _ _ _ h => h) rfl (fun K hK => ?_)
                refine quiet_agg 38 _ rfl _ rfl (bv T) _ Try.underlying38 rfl (szSigFrom04 HTL.out) (fun W' h => (HD18.out.keep (hxx.trans h.ext) (by simp)).cells) ?_
                refine hK _ ?_
                simp only [Act.put, List.setIfInBounds_toArray, List.set_cons_succ, List.set_cons_zero]
                clear hK K
                refine takeE 5 rfl (by kernel_rfl) (by kernel_rfl) (by kernel_rfl) rfl (fun _ _ _ _ h => h) rfl (fun K hK => ?_)
                refine quiet_agg 22 _ rfl _ rfl (bv d) _ Try.underlying22 rfl (b32_size HDL.out) (fun W' h => (HD8.out.keep (hxx.trans h.ext) (by simp)).cells) ?_
                refine hK _ ?_
                simp only [Act.put, List.setIfInBounds_toArray, List.set_cons_succ, List.set_cons_zero]
                clear hK K
                refine takeE 7 rfl (by kernel_rfl) (by kernel_rfl) (by kernel_rfl) rfl (fun _ _ _ _ h => h) rfl (fun K hK => ?_)
                refine quiet_agg 31 _ rfl _ rfl (bv (leafM seed n)) _ Try.underlying31 rfl (dig_size HLL.out) (fun W' h => (HD15.out.keep (hxx.trans h.ext) (by simp)).cells) ?_
                refine hK _ ?_
                simp only [Act.put, List.setIfInBounds_toArray, List.set_cons_succ, List.set_cons_zero]
                clear hK K
                refine stepM 4 rfl (by kernel_rfl) rfl (fun K hK => ?_)
                go_simp
                refine (HTO.out _).mono ?_
                rintro en w' ⟨rfl, hx'⟩
                have hk := hx'
                replace hxx := hxx.trans hx'
                clear hx'
                refine hK _ _ (hk) ?_
                clear hK K
                refine stepM 6 rfl (by kernel_rfl) rfl (fun K hK => ?_)
                go_simp
                refine (HFT.out _).mono ?_
                rintro en w' ⟨rfl, hx'⟩
                have hk := hx'
                replace hxx := hxx.trans hx'
                clear hx'
                refine hK _ _ (hk) ?_
                clear hK K
                refine takeE 8 rfl (by kernel_rfl) (by kernel_rfl) (by kernel_rfl) rfl (fun _ _ _ _ h => h) rfl (fun K hK => ?_)
                refine quiet_binK .neq 31 _ _ _ rfl _ _ rfl rfl (.bool true) (HQ.out.1) (HQ.out.2) ?_
                refine hK _ ?_
                simp only [Act.put, List.setIfInBounds_toArray, List.set_cons_succ, List.set_cons_zero]
                clear hK K
                refine takeE 9 rfl (by kernel_rfl) (by kernel_rfl) (by kernel_rfl) rfl (fun _ _ _ _ h => h) rfl (fun K hK => ?_)
                go_big_quiet_op
                first | refine hK _ ?_ | refine ⟨_, fun _ _ => rfl, hK _ ?_⟩
                clear hK K
                refine takeE 10 rfl (by kernel_rfl) (by kernel_rfl) (by kernel_rfl) rfl (fun _ _ _ _ h => h) rfl (fun K hK => ?_)
                go_big_quiet_op
                first | refine hK _ ?_ | refine ⟨_, fun _ _ => rfl, hK _ ?_⟩
                clear hK K
                refine skipE 11 rfl (by kernel_rfl) (by kernel_rfl) (by kernel_rfl) (fun _ _ _ _ h => h) rfl ?_
                (try simp only [Act.put, List.setIfInBounds_toArray, List.set_cons_succ, List.set_cons_zero])
                refine skipE 12 rfl (by kernel_rfl) (by kernel_rfl) (by kernel_rfl) (fun _ _ _ _ h => h) rfl ?_
                (try simp only [Act.put, List.setIfInBounds_toArray, List.set_cons_succ, List.set_cons_zero])
                refine skipE 13 rfl (by kernel_rfl) (by kernel_rfl) (by kernel_rfl) (fun _ _ _ _ h => h) rfl ?_
                (try simp only [Act.put, List.setIfInBounds_toArray, List.set_cons_succ, List.set_cons_zero])
                refine skipE 14 rfl (by kernel_rfl) (by kernel_rfl) (by kernel_rfl) (fun _ _ _ _ h => h) rfl ?_
                (try simp only [Act.put, List.setIfInBounds_toArray, List.set_cons_succ, List.set_cons_zero])
                refine skipE 15 rfl (by kernel_rfl) (by kernel_rfl) (by kernel_rfl) (fun _ _ _ _ h => h) rfl ?_
                (try simp only [Act.put, List.setIfInBounds_toArray, List.set_cons_succ, List.set_cons_zero])
                refine skipE 16 rfl (by kernel_rfl) (by kernel_rfl) (by kernel_rfl) (fun _ _ _ _ h => h) rfl ?_
                (try simp only [Act.put, List.setIfInBounds_toArray, List.set_cons_succ, List.set_cons_zero])
                refine takeE 17 rfl (by kernel_rfl) (by kernel_rfl) (by kernel_rfl) rfl (fun _ _ _ _ h => h) rfl (fun K hK => ?_)
                go_big_quiet_op
                first | refine hK _ ?_ | refine ⟨_, fun _ _ => rfl, hK _ ?_⟩
                clear hK K
                refine takeE 18 rfl (by kernel_rfl) (by kernel_rfl) (by kernel_rfl) rfl (fun _ _ _ _ h => h) rfl (fun K hK => ?_)
                go_big_quiet_op
                first | refine hK _ ?_ | refine ⟨_, fun _ _ => rfl, hK _ ?_⟩
                clear hK K
                refine doneM (by kernel_rfl) ?_ _
                (try simp only [Exit.then])
                go_wp2_with fail
                go_ret
                exact ⟨rfl, HXL.out.trans hxx⟩
      · have hf := HFROM.out (HIFF.out.1 rfl)
        have HQ := Lib.hid (show _ ∧ ∀ w : World, (binOp .eql 31 (.agg (bv (fromS (signM seed n d) e)).toArray) (.agg (bv (leafM seed n)).toArray)).run Try.prog w = .ok (.bool true) w from ⟨(HDQ.out _ (fromS_length (signM seed n d) e)).1, fun w => by have := (HDQ.out _ (fromS_length (signM seed n d) e)).2 w; simpa [hf] using this⟩)
        clear hf
        go_wp2_with fail
        refine startM Since (by kernel_rfl) ?_
        (try simp only [Act.put, List.setIfInBounds_toArray, List.set_cons_succ, List.set_cons_zero])
        have hxx : Ext w7 wr.drew := hx.drew
        generalize wr.drew = w0 at hxx ⊢
        refine takeE 0 rfl (by kernel_rfl) (by kernel_rfl) (by kernel_rfl) rfl (fun _ _ _ _ h => h) rfl (fun K hK => ?_)
        go_big_quiet_op
        first | refine hK _ ?_ | refine ⟨_, fun _ _ => rfl, hK _ ?_⟩
        clear hK K
        refine takeE 1 rfl (by kernel_rfl) (by kernel_rfl) (by kernel_rfl) rfl (fun _ _ _ _ h => h) rfl (fun K hK => ?_)
        refine quiet_agg 43 _ rfl _ rfl (bv (signM seed n d)) _ Try.underlying43 rfl (sig_size HGL.out) (fun W' h => (HB14.out.keep (hxx.trans h.ext) (by simp)).cells) ?_
        refine hK _ ?_
        simp only [Act.put, List.setIfInBounds_toArray, List.set_cons_succ, List.set_cons_zero]
        clear hK K
        refine takeE 2 rfl (by kernel_rfl) (by kernel_rfl) (by kernel_rfl) rfl (fun _ _ _ _ h => h) rfl (fun K hK => ?_)
        refine quiet_agg 22 _ rfl _ rfl (bv e) _ Try.underlying22 rfl (b32_size HEL.out) (fun W' h => (HB9.out.keep (hxx.trans h.ext) (by simp)).cells) ?_
        refine hK _ ?_
        simp only [Act.put, List.setIfInBounds_toArray, List.set_cons_succ, List.set_cons_zero]
        clear hK K
        refine takeE 4 rfl (by kernel_rfl) (by kernel_rfl) (by kernel_rfl) rfl (fun _ _ _ _ h => h) rfl (fun K hK => ?_)
        refine quiet_agg 31 _ rfl _ rfl (bv (leafM seed n)) _ Try.underlying31 rfl (dig_size HLL.out) (fun W' h => (HB15.out.keep (hxx.trans h.ext) (by simp)).cells) ?_
        refine hK _ ?_
        simp only [Act.put, List.setIfInBounds_toArray, List.set_cons_succ, List.set_cons_zero]
        clear hK K
        refine stepM 3 rfl (by kernel_rfl) rfl (fun K hK => ?_)
        go_simp
        refine (HFE.out _).mono ?_
        rintro en w' ⟨rfl, hx'⟩
        have hk := hx'
        replace hxx := hxx.trans hx'
        clear hx'
        refine hK _ _ (hk) ?_
        clear hK K
        refine takeE 5 rfl (by kernel_rfl) (by kernel_rfl) (by kernel_rfl) rfl (fun _ _ _ _ h => h) rfl (fun K hK => ?_)
        refine quiet_binK .eql 31 _ _ _ rfl _ _ rfl rfl (.bool true) (HQ.out.1) (HQ.out.2) ?_
        refine hK _ ?_
        simp only [Act.put, List.setIfInBounds_toArray, List.set_cons_succ, List.set_cons_zero]
        clear hK K
        refine takeE 6 rfl (by kernel_rfl) (by kernel_rfl) (by kernel_rfl) rfl (fun _ _ _ _ h => h) rfl (fun K hK => ?_)
        go_big_quiet_op
        first | refine hK _ ?_ | refine ⟨_, fun _ _ => rfl, hK _ ?_⟩
        clear hK K
        refine takeE 7 rfl (by kernel_rfl) (by kernel_rfl) (by kernel_rfl) rfl (fun _ _ _ _ h => h) rfl (fun K hK => ?_)
        go_big_quiet_op
        first | refine hK _ ?_ | refine ⟨_, fun _ _ => rfl, hK _ ?_⟩
        clear hK K
        refine skipE 8 rfl (by kernel_rfl) (by kernel_rfl) (by kernel_rfl) (fun _ _ _ _ h => h) rfl ?_
        (try simp only [Act.put, List.setIfInBounds_toArray, List.set_cons_succ, List.set_cons_zero])
        refine skipE 9 rfl (by kernel_rfl) (by kernel_rfl) (by kernel_rfl) (fun _ _ _ _ h => h) rfl ?_
        (try simp only [Act.put, List.setIfInBounds_toArray, List.set_cons_succ, List.set_cons_zero])
        refine skipE 10 rfl (by kernel_rfl) (by kernel_rfl) (by kernel_rfl) (fun _ _ _ _ h => h) rfl ?_
        (try simp only [Act.put, List.setIfInBounds_toArray, List.set_cons_succ, List.set_cons_zero])
        refine skipE 11 rfl (by kernel_rfl) (by kernel_rfl) (by kernel_rfl) (fun _ _ _ _ h => h) rfl ?_
        (try simp only [Act.put, List.setIfInBounds_toArray, List.set_cons_succ, List.set_cons_zero])
        refine skipE 12 rfl (by kernel_rfl) (by kernel_rfl) (by kernel_rfl) (fun _ _ _ _ h => h) rfl ?_
        (try simp only [Act.put, List.setIfInBounds_toArray, List.set_cons_succ, List.set_cons_zero])
        refine skipE 13 rfl (by kernel_rfl) (by kernel_rfl) (by kernel_rfl) (fun _ _ _ _ h => h) rfl ?_
        (try simp only [Act.put, List.setIfInBounds_toArray, List.set_cons_succ, List.set_cons_zero])
        refine skipE 14 rfl (by kernel_rfl) (by kernel_rfl) (by kernel_rfl) (fun _ _ _ _ h => h) rfl ?_
        (try simp only [Act.put, List.setIfInBounds_toArray, List.set_cons_succ, List.set_cons_zero])
        refine skipE 15 rfl (by kernel_rfl) (by kernel_rfl) (by kernel_rfl) (fun _ _ _ _ h => h) rfl ?_
        (try simp only [Act.put, List.setIfInBounds_toArray, List.set_cons_succ, List.set_cons_zero])
        refine takeE 16 rfl (by kernel_rfl) (by kernel_rfl) (by kernel_rfl) rfl (fun _ _ _ _ h => h) rfl (fun K hK => ?_)
        go_big_quiet_op
        first | refine hK _ ?_ | refine ⟨_, fun _ _ => rfl, hK _ ?_⟩
        clear hK K
        refine doneM (by kernel_rfl) ?_ _
        (try simp only [Exit.then])
        go_wp2_with (first
          | ((with_reducible refine wpDst 68 rfl ?_); refine wpList_load_agg _ rfl 43 _ rfl _ rfl (bv (signM seed n d)) _ Try.underlying43 rfl (sig_size HGL.out) (by exact (HB14.out.keep hxx (by simp)).cells) ?_)
          | fail)
        obtain ⟨i, hi, e32⟩ : ∃ i : Nat, i < 32 ∧ (at_ : Int) % 32 = (i : Int) := ⟨at_ % 32, by omega, by omega⟩
        obtain ⟨j, hj, e16⟩ : ∃ j : Nat, j < 16 ∧ (at_ : Int) / 64 % 16 = (j : Int) := ⟨at_ / 64 % 16, by omega, by omega⟩
        refine (HF4.out _).mono ?_
        rintro en w69 ⟨rfl, hx69⟩
        have hxy : Ext w7 (w69.alloc (.cells (bv (signM seed n d)).toArray 38)) := (hxx.trans hx69).alloc _
        have HX7 := Lib.hid (HX.out.trans hxy)
        have HLT := Lib.hid (show w.heap.size + 1 < w69.heap.size ∧ g14 < w69.heap.size ∧ g15 < w69.heap.size from ⟨(HB8.out.keep (hxx.trans hx69) (by simp)).lt, (HB14.out.keep (hxx.trans hx69) (by simp)).lt, (HB15.out.keep (hxx.trans hx69) (by simp)).lt⟩)
        have HC8 := Lib.hid (HB8.out.keep hxy (by simp))
        have HC14 := Lib.hid (HB14.out.keep hxy (by simp))
        have HC15 := Lib.hid (HB15.out.keep hxy (by simp))
        have HC18 := Lib.hid (show Blk (w69.alloc (.cells (bv (signM seed n d)).toArray 38)) w69.heap.size 38 (bv (signM seed n d)) from Blk.new _ _ _)
        clear hxx hx69 hxy
        go_wp2_with (first
          | ((with_reducible refine wpDst 18 rfl ?_); refine wpList_alloc _ rfl 38 rfl _ hzr ?_)
          | ((with_reducible refine wpSto 18 69 rfl ?_); refine wpList_storeN rfl 38 _ _ rfl _ rfl ZR (bv (signM seed n d)) _ rfl rfl (szSigFrom04 HGL.out) (by rw [HGL.out, HZRL.out]) (bv_one _) ?_)
          | fail)
        · generalize w69.alloc (.cells (bv (signM seed n d)).toArray 38) = W at HX7 HC8 HC14 HC15 HC18 ⊢
          generalize w69.heap.size = g18 at HC18 HLT ⊢
          have hlt2 : i * 16 + j < (signM seed n d).length := by rw [signM_length]; omega
          have hV : bits .xor .u8 (((signM seed n d)[i * 16 + j]'hlt2).toNat : Int) (x.toNat : Int) = ((((signM seed n d)[i * 16 + j]'hlt2) ^^^ x).toNat : Int) := xor_u8 _ _
          have HNP : Hid (x ≠ 0 → opS (signM seed n d) i ≠ opS ((signM seed n d).set (i * 16 + j) (((signM seed n d)[i * 16 + j]'hlt2) ^^^ x)) i) := Lib.hid (fun h => turn_op (signM_length _ _ _) hi hj _ (xor_ne h))
          have hcl : W.cell? ⟨g18, i * 16 + j, none⟩ = some (.int .u8 (((signM seed n d)[i * 16 + j]'hlt2).toNat : Int)) := by
            rw [HC18.out.cell]; simp [bv, hlt2]
          generalize hbb : (signM seed n d)[i * 16 + j]'hlt2 = bb at hV HNP hcl
          clear hbb
          refine wp_region_draw_tail 13 (by kernel_rfl) (by kernel_rfl) (by kernel_rfl) ?_
          simp only [List.take_succ_cons, List.take_zero, List.drop_succ_cons, List.drop_zero]
          repeat (go_big_quiet_step (fail))
          refine wpQuiet_nil ?_
          rintro _ ⟨nq, rfl⟩
          have hxn : Ext W (W.drewN nq) := (Ext.refl W).drewN nq
          have K7 := Lib.hid (HX7.out.trans hxn)
          have K8 := Lib.hid (HC8.out.keep hxn (by simp))
          have K14 := Lib.hid (HC14.out.keep hxn (by simp))
          have K15 := Lib.hid (HC15.out.keep hxn (by simp))
          have K18 := Lib.hid (HC18.out.keep hxn (by simp))
          clear HX7 HC8 HC14 HC15 HC18 hxn hcl
          generalize W.drewN nq = W at K7 K8 K14 K15 K18 ⊢
          have hfr : W.frozen? ⟨g18, i * 16 + j, none⟩ = false := K18.out.free _
          have hcl : ∃ u, W.cell? ⟨g18, i * 16 + j, none⟩ = some u := ⟨_, by rw [K18.out.cell]; exact List.getElem?_eq_getElem (by rw [bv_length]; exact hlt2)⟩
          obtain ⟨uo, hcl⟩ := hcl
          obtain ⟨T, hT⟩ : ∃ T, T = (signM seed n d).set (i * 16 + j) (bb ^^^ x) := ⟨_, rfl⟩
          rw [← hT] at HNP
          have hTl : T.length = 1024 := by rw [hT, List.length_set, signM_length]
          have hbt : (bv (signM seed n d)).set (i * 16 + j) (.int .u8 ((bb.toNat ^^^ x.toNat : Nat) : Int)) = bv T := by rw [hT, bv_set, UInt8.toNat_xor]
          have HBT := Lib.hid hbt
          have HT := Lib.hid hTl
          clear hbt hT hTl
          go_wp2_with fail
          have hon : W.grownBy (W.setCell ⟨g18, i * 16 + j, none⟩ (.int .u8 ((bb.toNat ^^^ x.toNat : Nat) : Int))) (some g18) := only_set _ _
          have hdr : Ext (W.setCell ⟨g18, i * 16 + j, none⟩ (.int .u8 ((bb.toNat ^^^ x.toNat : Nat) : Int))) (W.setCell ⟨g18, i * 16 + j, none⟩ (.int .u8 ((bb.toNat ^^^ x.toNat : Nat) : Int))).drew := (Ext.refl _).drew
          have hlts := HLT.out
          have h18 := K18.out.set (i * 16 + j) (.int .u8 ((bb.toNat ^^^ x.toNat : Nat) : Int))
          rw [HBT.out] at h18
          have HD18 := Lib.hid (h18.keep hdr (by simp))
          have HD8 := Lib.hid ((K8.out.keep hon (by simp; omega)).keep hdr (by simp))
          have HD14 := Lib.hid ((K14.out.keep hon (by simp; omega)).keep hdr (by simp))
          have HD15 := Lib.hid ((K15.out.keep hon (by simp; omega)).keep hdr (by simp))
          have HXL := Lib.hid (show Ext w _ from (grown_then K7.out hon (.inr (by rintro b ⟨⟩; omega))).trans hdr)
          have HTL := Lib.hid (show (bv T).length = 1024 by rw [bv_length, HT.out])
          have HFT := Lib.hid (fun W => From T HT.out d HD.out W)
          have HTO := Lib.hid (fun W => To04 (bv T) W HTL.out (bv_one _))
          have HM2 := Lib.hid (fun W => Met (signM seed n d) T d d (signM_length _ _ _) HT.out HD.out HD.out W)
          clear K7 K8 K14 K15 K18 hon hdr h18 hcl hfr
          by_cases hx0 : x = 0
          · have hxz : ((x.toNat : Int) == 0) = true := by rw [hx0]; rfl
            clear HNP
            refine startM Since (by kernel_rfl) ?_
            (try simp only [Act.put, List.setIfInBounds_toArray, List.set_cons_succ, List.set_cons_zero])
            generalize (W.setCell ⟨g18, i * 16 + j, none⟩ (.int .u8 ((bb.toNat ^^^ x.toNat : Nat) : Int))).drew = w9 at HD18 HD8 HD14 HD15 HXL ⊢
            have hxx : Ext w9 w9 := Ext.refl _
            refine takeE 0 rfl (by kernel_rfl) (by kernel_rfl) (by kernel_rfl) rfl (fun _ _ _ _ h => h) rfl (fun K hK => ?_)
            go_big_quiet_op
            first | refine hK _ ?_ | refine ⟨_, fun _ _ => rfl, hK _ ?_⟩
            clear hK K
            refine takeE 1 rfl (by kernel_rfl) (by kernel_rfl) (by kernel_rfl) rfl (fun _ _ _ _ h => h) rfl (fun K hK => ?_)
            go_big_quiet_op
            first | refine hK _ ?_ | refine ⟨_, fun _ _ => rfl, hK _ ?_⟩
            clear hK K
            refine takeE 2 rfl (by kernel_rfl) (by kernel_rfl) (by kernel_rfl) rfl (fun _ _ _ _ h => h) rfl (fun K hK => ?_)
            go_big_quiet_op
            first | refine hK _ ?_ | refine ⟨_, fun _ _ => rfl, hK _ ?_⟩
            clear hK K
            refine skipE 3 rfl (by kernel_rfl) (by kernel_rfl) (by kernel_rfl) (fun _ _ _ _ h => h) rfl ?_
            (try simp only [Act.put, List.setIfInBounds_toArray, List.set_cons_succ, List.set_cons_zero])
            refine skipE 4 rfl (by kernel_rfl) (by kernel_rfl) (by kernel_rfl) (fun _ _ _ _ h => h) rfl ?_
            (try simp only [Act.put, List.setIfInBounds_toArray, List.set_cons_succ, List.set_cons_zero])
            refine skipE 5 rfl (by kernel_rfl) (by kernel_rfl) (by kernel_rfl) (fun _ _ _ _ h => h) rfl ?_
            (try simp only [Act.put, List.setIfInBounds_toArray, List.set_cons_succ, List.set_cons_zero])
            refine skipE 6 rfl (by kernel_rfl) (by kernel_rfl) (by kernel_rfl) (fun _ _ _ _ h => h) rfl ?_
            (try simp only [Act.put, List.setIfInBounds_toArray, List.set_cons_succ, List.set_cons_zero])
            refine skipE 7 rfl (by kernel_rfl) (by kernel_rfl) (by kernel_rfl) (fun _ _ _ _ h => h) rfl ?_
            (try simp only [Act.put, List.setIfInBounds_toArray, List.set_cons_succ, List.set_cons_zero])
            refine skipE 8 rfl (by kernel_rfl) (by kernel_rfl) (by kernel_rfl) (fun _ _ _ _ h => h) rfl ?_
            (try simp only [Act.put, List.setIfInBounds_toArray, List.set_cons_succ, List.set_cons_zero])
            refine takeE 9 rfl (by kernel_rfl) (by kernel_rfl) (by kernel_rfl) rfl (fun _ _ _ _ h => h) rfl (fun K hK => ?_)
            go_big_quiet_op
            first | refine hK _ ?_ | refine ⟨_, fun _ _ => rfl, hK _ ?_⟩
            clear hK K
            refine takeE 10 rfl (by kernel_rfl) (by kernel_rfl) (by kernel_rfl) rfl (fun _ _ _ _ h => h) rfl (fun K hK => ?_)
            go_big_quiet_op
            first | refine hK _ ?_ | refine ⟨_, fun _ _ => rfl, hK _ ?_⟩
            clear hK K
            refine skipE 11 rfl (by kernel_rfl) (by kernel_rfl) (by kernel_rfl) (fun _ _ _ _ h => h) rfl ?_
            (try simp only [Act.put, List.setIfInBounds_toArray, List.set_cons_succ, List.set_cons_zero])
            refine skipE 12 rfl (by kernel_rfl) (by kernel_rfl) (by kernel_rfl) (fun _ _ _ _ h => h) rfl ?_
            (try simp only [Act.put, List.setIfInBounds_toArray, List.set_cons_succ, List.set_cons_zero])
            refine skipE 13 rfl (by kernel_rfl) (by kernel_rfl) (by kernel_rfl) (fun _ _ _ _ h => h) rfl ?_
            (try simp only [Act.put, List.setIfInBounds_toArray, List.set_cons_succ, List.set_cons_zero])
            refine skipE 14 rfl (by kernel_rfl) (by kernel_rfl) (by kernel_rfl) (fun _ _ _ _ h => h) rfl ?_
            (try simp only [Act.put, List.setIfInBounds_toArray, List.set_cons_succ, List.set_cons_zero])
            refine skipE 15 rfl (by kernel_rfl) (by kernel_rfl) (by kernel_rfl) (fun _ _ _ _ h => h) rfl ?_
            (try simp only [Act.put, List.setIfInBounds_toArray, List.set_cons_succ, List.set_cons_zero])
            refine skipE 16 rfl (by kernel_rfl) (by kernel_rfl) (by kernel_rfl) (fun _ _ _ _ h => h) rfl ?_
            (try simp only [Act.put, List.setIfInBounds_toArray, List.set_cons_succ, List.set_cons_zero])
            refine takeE 17 rfl (by kernel_rfl) (by kernel_rfl) (by kernel_rfl) rfl (fun _ _ _ _ h => h) rfl (fun K hK => ?_)
            go_big_quiet_op
            first | refine hK _ ?_ | refine ⟨_, fun _ _ => rfl, hK _ ?_⟩
            clear hK K
            refine takeE 18 rfl (by kernel_rfl) (by kernel_rfl) (by kernel_rfl) rfl (fun _ _ _ _ h => h) rfl (fun K hK => ?_)
            go_big_quiet_op
            first | refine hK _ ?_ | refine ⟨_, fun _ _ => rfl, hK _ ?_⟩
            clear hK K
            refine doneM (by kernel_rfl) ?_ _
            (try simp only [Exit.then])
            go_wp2_with fail
            go_ret
            exact ⟨rfl, HXL.out.trans hxx⟩
          · have hxz : ((x.toNat : Int) == 0) = false := by
              have h1 : x.toNat ≠ 0 := fun h => hx0 (UInt8.toNat_inj.1 h)
              simp only [beq_eq_false_iff_ne, ne_eq]
              omega
            by_cases hTq : fromS T d = leafM seed n
            · have HMP2 := Lib.hid (HTU.out T i HT.out hTq hi (.inl (HNP.out hx0)))
              have HQ := Lib.hid (show _ ∧ ∀ w : World, (binOp .neq 31 (.agg (bv (fromS T d)).toArray) (.agg (bv (leafM seed n)).toArray)).run Try.prog w = .ok (.bool false) w from ⟨(HDN.out _ (fromS_length T d)).1, fun w => by have := (HDN.out _ (fromS_length T d)).2 w; simpa [hTq] using this⟩)
              clear hTq HNP
              refine startM Since (by kernel_rfl) ?_
              (try simp only [Act.put, List.setIfInBounds_toArray, List.set_cons_succ, List.set_cons_zero])
              generalize (W.setCell ⟨g18, i * 16 + j, none⟩ (.int .u8 ((bb.toNat ^^^ x.toNat : Nat) : Int))).drew = w9 at HD18 HD8 HD14 HD15 HXL ⊢
              have hxx : Ext w9 w9 := Ext.refl _
              refine takeE 0 rfl (by kernel_rfl) (by kernel_rfl) (by kernel_rfl) rfl (fun _ _ _ _ h => h) rfl (fun K hK => ?_)
              go_big_quiet_op
              first | refine hK _ ?_ | refine ⟨_, fun _ _ => rfl, hK _ ?_⟩
              clear hK K
              refine takeE 1 rfl (by kernel_rfl) (by kernel_rfl) (by kernel_rfl) rfl (fun _ _ _ _ h => h) rfl (fun K hK => ?_)
              go_big_quiet_op
              first | refine hK _ ?_ | refine ⟨_, fun _ _ => rfl, hK _ ?_⟩
              clear hK K
              refine takeE 2 rfl (by kernel_rfl) (by kernel_rfl) (by kernel_rfl) rfl (fun _ _ _ _ h => h) rfl (fun K hK => ?_)
              go_big_quiet_op
              first | refine hK _ ?_ | refine ⟨_, fun _ _ => rfl, hK _ ?_⟩
              clear hK K
              refine takeE 3 rfl (by kernel_rfl) (by kernel_rfl) (by kernel_rfl) rfl (fun _ _ _ _ h => h) rfl (fun K hK => ?_)
              refine quiet_agg 38 _ rfl _ rfl (bv T) _ Try.underlying38 rfl (szSigFrom04 HTL.out) (fun W' h => (HD18.out.keep (hxx.trans h.ext) (by simp)).cells) ?_
              refine hK _ ?_
              simp only [Act.put, List.setIfInBounds_toArray, List.set_cons_succ, List.set_cons_zero]
              clear hK K
              refine takeE 5 rfl (by kernel_rfl) (by kernel_rfl) (by kernel_rfl) rfl (fun _ _ _ _ h => h) rfl (fun K hK => ?_)
              refine quiet_agg 22 _ rfl _ rfl (bv d) _ Try.underlying22 rfl (b32_size HDL.out) (fun W' h => (HD8.out.keep (hxx.trans h.ext) (by simp)).cells) ?_
              refine hK _ ?_
              simp only [Act.put, List.setIfInBounds_toArray, List.set_cons_succ, List.set_cons_zero]
              clear hK K
              refine takeE 7 rfl (by kernel_rfl) (by kernel_rfl) (by kernel_rfl) rfl (fun _ _ _ _ h => h) rfl (fun K hK => ?_)
              refine quiet_agg 31 _ rfl _ rfl (bv (leafM seed n)) _ Try.underlying31 rfl (dig_size HLL.out) (fun W' h => (HD15.out.keep (hxx.trans h.ext) (by simp)).cells) ?_
              refine hK _ ?_
              simp only [Act.put, List.setIfInBounds_toArray, List.set_cons_succ, List.set_cons_zero]
              clear hK K
              refine stepM 4 rfl (by kernel_rfl) rfl (fun K hK => ?_)
              go_simp
              refine (HTO.out _).mono ?_
              rintro en w' ⟨rfl, hx'⟩
              have hk := hx'
              replace hxx := hxx.trans hx'
              clear hx'
              refine hK _ _ (hk) ?_
              clear hK K
              refine stepM 6 rfl (by kernel_rfl) rfl (fun K hK => ?_)
              go_simp
              refine (HFT.out _).mono ?_
              rintro en w' ⟨rfl, hx'⟩
              have hk := hx'
              replace hxx := hxx.trans hx'
              clear hx'
              refine hK _ _ (hk) ?_
              clear hK K
              refine takeE 8 rfl (by kernel_rfl) (by kernel_rfl) (by kernel_rfl) rfl (fun _ _ _ _ h => h) rfl (fun K hK => ?_)
              refine quiet_binK .neq 31 _ _ _ rfl _ _ rfl rfl (.bool false) (HQ.out.1) (HQ.out.2) ?_
              refine hK _ ?_
              simp only [Act.put, List.setIfInBounds_toArray, List.set_cons_succ, List.set_cons_zero]
              clear hK K
              refine takeE 9 rfl (by kernel_rfl) (by kernel_rfl) (by kernel_rfl) rfl (fun _ _ _ _ h => h) rfl (fun K hK => ?_)
              go_big_quiet_op
              first | refine hK _ ?_ | refine ⟨_, fun _ _ => rfl, hK _ ?_⟩
              clear hK K
              refine takeE 10 rfl (by kernel_rfl) (by kernel_rfl) (by kernel_rfl) rfl (fun _ _ _ _ h => h) rfl (fun K hK => ?_)
              go_big_quiet_op
              first | refine hK _ ?_ | refine ⟨_, fun _ _ => rfl, hK _ ?_⟩
              clear hK K
              refine takeE 11 rfl (by kernel_rfl) (by kernel_rfl) (by kernel_rfl) rfl (fun _ _ _ _ h => h) rfl (fun K hK => ?_)
              refine quiet_agg 43 _ rfl _ rfl (bv (signM seed n d)) _ Try.underlying43 rfl (sig_size HGL.out) (fun W' h => (HD14.out.keep (hxx.trans h.ext) (by simp)).cells) ?_
              refine hK _ ?_
              simp only [Act.put, List.setIfInBounds_toArray, List.set_cons_succ, List.set_cons_zero]
              clear hK K
              refine takeE 13 rfl (by kernel_rfl) (by kernel_rfl) (by kernel_rfl) rfl (fun _ _ _ _ h => h) rfl (fun K hK => ?_)
              refine quiet_agg 38 _ rfl _ rfl (bv T) _ Try.underlying38 rfl (szSigFrom04 HTL.out) (fun W' h => (HD18.out.keep (hxx.trans h.ext) (by simp)).cells) ?_
              refine hK _ ?_
              simp only [Act.put, List.setIfInBounds_toArray, List.set_cons_succ, List.set_cons_zero]
              clear hK K
              refine takeE 14 rfl (by kernel_rfl) (by kernel_rfl) (by kernel_rfl) rfl (fun _ _ _ _ h => h) rfl (fun K hK => ?_)
              refine quiet_agg 22 _ rfl _ rfl (bv d) _ Try.underlying22 rfl (b32_size HDL.out) (fun W' h => (HD8.out.keep (hxx.trans h.ext) (by simp)).cells) ?_
              refine hK _ ?_
              simp only [Act.put, List.setIfInBounds_toArray, List.set_cons_succ, List.set_cons_zero]
              clear hK K
              refine takeE 15 rfl (by kernel_rfl) (by kernel_rfl) (by kernel_rfl) rfl (fun _ _ _ _ h => h) rfl (fun K hK => ?_)
              refine quiet_agg 22 _ rfl _ rfl (bv d) _ Try.underlying22 rfl (b32_size HDL.out) (fun W' h => (HD8.out.keep (hxx.trans h.ext) (by simp)).cells) ?_
              refine hK _ ?_
              simp only [Act.put, List.setIfInBounds_toArray, List.set_cons_succ, List.set_cons_zero]
              clear hK K
              refine stepM 12 rfl (by kernel_rfl) rfl (fun K hK => ?_)
              go_simp
              refine (HF4.out _).mono ?_
              rintro en w' ⟨rfl, hx'⟩
              have hk := hx'
              replace hxx := hxx.trans hx'
              clear hx'
              refine hK _ _ (hk) ?_
              clear hK K
              refine stepM 16 rfl (by kernel_rfl) rfl (fun K hK => ?_)
              go_simp
              refine (HM2.out _).mono ?_
              rintro en w' ⟨r, rfl, hr, hx'⟩
              obtain rfl : r = true := hr HMP2.out
              clear hr
              have hk := hx'
              replace hxx := hxx.trans hx'
              clear hx'
              refine hK _ _ (hk) ?_
              clear hK K
              refine takeE 17 rfl (by kernel_rfl) (by kernel_rfl) (by kernel_rfl) rfl (fun _ _ _ _ h => h) rfl (fun K hK => ?_)
              go_big_quiet_op
              first | refine hK _ ?_ | refine ⟨_, fun _ _ => rfl, hK _ ?_⟩
              clear hK K
              refine takeE 18 rfl (by kernel_rfl) (by kernel_rfl) (by kernel_rfl) rfl (fun _ _ _ _ h => h) rfl (fun K hK => ?_)
              go_big_quiet_op
              first | refine hK _ ?_ | refine ⟨_, fun _ _ => rfl, hK _ ?_⟩
              clear hK K
              refine doneM (by kernel_rfl) ?_ _
              (try simp only [Exit.then])
              go_wp2_with fail
              go_ret
              exact ⟨rfl, HXL.out.trans hxx⟩
            · have HQ := Lib.hid (show _ ∧ ∀ w : World, (binOp .neq 31 (.agg (bv (fromS T d)).toArray) (.agg (bv (leafM seed n)).toArray)).run Try.prog w = .ok (.bool true) w from ⟨(HDN.out _ (fromS_length T d)).1, fun w => by
                have := (HDN.out _ (fromS_length T d)).2 w
                have hbf : (fromS T d == leafM seed n) = false := by simpa using hTq
                have hne : (BinOp.neq = BinOp.eql) = False := by simp
                simp only [hne, if_false, hbf, Bool.not_false] at this
                exact this⟩)
              clear hTq HNP
              refine startM Since (by kernel_rfl) ?_
              (try simp only [Act.put, List.setIfInBounds_toArray, List.set_cons_succ, List.set_cons_zero])
              generalize (W.setCell ⟨g18, i * 16 + j, none⟩ (.int .u8 ((bb.toNat ^^^ x.toNat : Nat) : Int))).drew = w9 at HD18 HD8 HD14 HD15 HXL ⊢
              have hxx : Ext w9 w9 := Ext.refl _
              refine takeE 0 rfl (by kernel_rfl) (by kernel_rfl) (by kernel_rfl) rfl (fun _ _ _ _ h => h) rfl (fun K hK => ?_)
              go_big_quiet_op
              first | refine hK _ ?_ | refine ⟨_, fun _ _ => rfl, hK _ ?_⟩
              clear hK K
              refine takeE 1 rfl (by kernel_rfl) (by kernel_rfl) (by kernel_rfl) rfl (fun _ _ _ _ h => h) rfl (fun K hK => ?_)
              go_big_quiet_op
              first | refine hK _ ?_ | refine ⟨_, fun _ _ => rfl, hK _ ?_⟩
              clear hK K
              refine takeE 2 rfl (by kernel_rfl) (by kernel_rfl) (by kernel_rfl) rfl (fun _ _ _ _ h => h) rfl (fun K hK => ?_)
              go_big_quiet_op
              first | refine hK _ ?_ | refine ⟨_, fun _ _ => rfl, hK _ ?_⟩
              clear hK K
              refine takeE 3 rfl (by kernel_rfl) (by kernel_rfl) (by kernel_rfl) rfl (fun _ _ _ _ h => h) rfl (fun K hK => ?_)
              refine quiet_agg 38 _ rfl _ rfl (bv T) _ Try.underlying38 rfl (szSigFrom04 HTL.out) (fun W' h => (HD18.out.keep (hxx.trans h.ext) (by simp)).cells) ?_
              refine hK _ ?_
              simp only [Act.put, List.setIfInBounds_toArray, List.set_cons_succ, List.set_cons_zero]
              clear hK K
              refine takeE 5 rfl (by kernel_rfl) (by kernel_rfl) (by kernel_rfl) rfl (fun _ _ _ _ h => h) rfl (fun K hK => ?_)
              refine quiet_agg 22 _ rfl _ rfl (bv d) _ Try.underlying22 rfl (b32_size HDL.out) (fun W' h => (HD8.out.keep (hxx.trans h.ext) (by simp)).cells) ?_
              refine hK _ ?_
              simp only [Act.put, List.setIfInBounds_toArray, List.set_cons_succ, List.set_cons_zero]
              clear hK K
              refine takeE 7 rfl (by kernel_rfl) (by kernel_rfl) (by kernel_rfl) rfl (fun _ _ _ _ h => h) rfl (fun K hK => ?_)
              refine quiet_agg 31 _ rfl _ rfl (bv (leafM seed n)) _ Try.underlying31 rfl (dig_size HLL.out) (fun W' h => (HD15.out.keep (hxx.trans h.ext) (by simp)).cells) ?_
              refine hK _ ?_
              simp only [Act.put, List.setIfInBounds_toArray, List.set_cons_succ, List.set_cons_zero]
              clear hK K
              refine stepM 4 rfl (by kernel_rfl) rfl (fun K hK => ?_)
              go_simp
              refine (HTO.out _).mono ?_
              rintro en w' ⟨rfl, hx'⟩
              have hk := hx'
              replace hxx := hxx.trans hx'
              clear hx'
              refine hK _ _ (hk) ?_
              clear hK K
              refine stepM 6 rfl (by kernel_rfl) rfl (fun K hK => ?_)
              go_simp
              refine (HFT.out _).mono ?_
              rintro en w' ⟨rfl, hx'⟩
              have hk := hx'
              replace hxx := hxx.trans hx'
              clear hx'
              refine hK _ _ (hk) ?_
              clear hK K
              refine takeE 8 rfl (by kernel_rfl) (by kernel_rfl) (by kernel_rfl) rfl (fun _ _ _ _ h => h) rfl (fun K hK => ?_)
              refine quiet_binK .neq 31 _ _ _ rfl _ _ rfl rfl (.bool true) (HQ.out.1) (HQ.out.2) ?_
              refine hK _ ?_
              simp only [Act.put, List.setIfInBounds_toArray, List.set_cons_succ, List.set_cons_zero]
              clear hK K
              refine takeE 9 rfl (by kernel_rfl) (by kernel_rfl) (by kernel_rfl) rfl (fun _ _ _ _ h => h) rfl (fun K hK => ?_)
              go_big_quiet_op
              first | refine hK _ ?_ | refine ⟨_, fun _ _ => rfl, hK _ ?_⟩
              clear hK K
              refine takeE 10 rfl (by kernel_rfl) (by kernel_rfl) (by kernel_rfl) rfl (fun _ _ _ _ h => h) rfl (fun K hK => ?_)
              go_big_quiet_op
              first | refine hK _ ?_ | refine ⟨_, fun _ _ => rfl, hK _ ?_⟩
              clear hK K
              refine skipE 11 rfl (by kernel_rfl) (by kernel_rfl) (by kernel_rfl) (fun _ _ _ _ h => h) rfl ?_
              (try simp only [Act.put, List.setIfInBounds_toArray, List.set_cons_succ, List.set_cons_zero])
              refine skipE 12 rfl (by kernel_rfl) (by kernel_rfl) (by kernel_rfl) (fun _ _ _ _ h => h) rfl ?_
              (try simp only [Act.put, List.setIfInBounds_toArray, List.set_cons_succ, List.set_cons_zero])
              refine skipE 13 rfl (by kernel_rfl) (by kernel_rfl) (by kernel_rfl) (fun _ _ _ _ h => h) rfl ?_
              (try simp only [Act.put, List.setIfInBounds_toArray, List.set_cons_succ, List.set_cons_zero])
              refine skipE 14 rfl (by kernel_rfl) (by kernel_rfl) (by kernel_rfl) (fun _ _ _ _ h => h) rfl ?_
              (try simp only [Act.put, List.setIfInBounds_toArray, List.set_cons_succ, List.set_cons_zero])
              refine skipE 15 rfl (by kernel_rfl) (by kernel_rfl) (by kernel_rfl) (fun _ _ _ _ h => h) rfl ?_
              (try simp only [Act.put, List.setIfInBounds_toArray, List.set_cons_succ, List.set_cons_zero])
              refine skipE 16 rfl (by kernel_rfl) (by kernel_rfl) (by kernel_rfl) (fun _ _ _ _ h => h) rfl ?_
              (try simp only [Act.put, List.setIfInBounds_toArray, List.set_cons_succ, List.set_cons_zero])
              refine takeE 17 rfl (by kernel_rfl) (by kernel_rfl) (by kernel_rfl) rfl (fun _ _ _ _ h => h) rfl (fun K hK => ?_)
              go_big_quiet_op
              first | refine hK _ ?_ | refine ⟨_, fun _ _ => rfl, hK _ ?_⟩
              clear hK K
              refine takeE 18 rfl (by kernel_rfl) (by kernel_rfl) (by kernel_rfl) rfl (fun _ _ _ _ h => h) rfl (fun K hK => ?_)
              go_big_quiet_op
              first | refine hK _ ?_ | refine ⟨_, fun _ _ => rfl, hK _ ?_⟩
              clear hK K
              refine doneM (by kernel_rfl) ?_ _
              (try simp only [Exit.then])
              go_wp2_with fail
              go_ret
              exact ⟨rfl, HXL.out.trans hxx⟩
        · generalize w69.alloc (.cells (bv (signM seed n d)).toArray 38) = W at HX7 HC8 HC14 HC15 HC18 ⊢
          generalize w69.heap.size = g18 at HC18 HLT ⊢
          have hlt2 : 512 + i * 16 + j < (signM seed n d).length := by rw [signM_length]; omega
          have hV : bits .xor .u8 (((signM seed n d)[512 + i * 16 + j]'hlt2).toNat : Int) (x.toNat : Int) = ((((signM seed n d)[512 + i * 16 + j]'hlt2) ^^^ x).toNat : Int) := xor_u8 _ _
          have HNP : Hid (x ≠ 0 → otS (signM seed n d) i ≠ otS ((signM seed n d).set (512 + i * 16 + j) (((signM seed n d)[512 + i * 16 + j]'hlt2) ^^^ x)) i) := Lib.hid (fun h => turn_ot (signM_length _ _ _) hi hj _ (xor_ne h))
          have hcl : W.cell? ⟨g18, 512 + i * 16 + j, none⟩ = some (.int .u8 (((signM seed n d)[512 + i * 16 + j]'hlt2).toNat : Int)) := by
            rw [HC18.out.cell]; simp [bv, hlt2]
          generalize hbb : (signM seed n d)[512 + i * 16 + j]'hlt2 = bb at hV HNP hcl
          clear hbb
          refine wp_region_draw_tail 13 (by kernel_rfl) (by kernel_rfl) (by kernel_rfl) ?_
          simp only [List.take_succ_cons, List.take_zero, List.drop_succ_cons, List.drop_zero]
          repeat (go_big_quiet_step (fail))
          refine wpQuiet_nil ?_
          rintro _ ⟨nq, rfl⟩
          have hxn : Ext W (W.drewN nq) := (Ext.refl W).drewN nq
          have K7 := Lib.hid (HX7.out.trans hxn)
          have K8 := Lib.hid (HC8.out.keep hxn (by simp))
          have K14 := Lib.hid (HC14.out.keep hxn (by simp))
          have K15 := Lib.hid (HC15.out.keep hxn (by simp))
          have K18 := Lib.hid (HC18.out.keep hxn (by simp))
          clear HX7 HC8 HC14 HC15 HC18 hxn hcl
          generalize W.drewN nq = W at K7 K8 K14 K15 K18 ⊢
          have hfr : W.frozen? ⟨g18, 512 + i * 16 + j, none⟩ = false := K18.out.free _
          have hcl : ∃ u, W.cell? ⟨g18, 512 + i * 16 + j, none⟩ = some u := ⟨_, by rw [K18.out.cell]; exact List.getElem?_eq_getElem (by rw [bv_length]; exact hlt2)⟩
          obtain ⟨uo, hcl⟩ := hcl
          obtain ⟨T, hT⟩ : ∃ T, T = (signM seed n d).set (512 + i * 16 + j) (bb ^^^ x) := ⟨_, rfl⟩
          rw [← hT] at HNP
          have hTl : T.length = 1024 := by rw [hT, List.length_set, signM_length]
          have hbt : (bv (signM seed n d)).set (512 + i * 16 + j) (.int .u8 ((bb.toNat ^^^ x.toNat : Nat) : Int)) = bv T := by rw [hT, bv_set, UInt8.toNat_xor]
          have HBT := Lib.hid hbt
          have HT := Lib.hid hTl
          clear hbt hT hTl
          go_wp2_with fail
          have hon : W.grownBy (W.setCell ⟨g18, 512 + i * 16 + j, none⟩ (.int .u8 ((bb.toNat ^^^ x.toNat : Nat) : Int))) (some g18) := only_set _ _
          have hdr : Ext (W.setCell ⟨g18, 512 + i * 16 + j, none⟩ (.int .u8 ((bb.toNat ^^^ x.toNat : Nat) : Int))) (W.setCell ⟨g18, 512 + i * 16 + j, none⟩ (.int .u8 ((bb.toNat ^^^ x.toNat : Nat) : Int))).drew := (Ext.refl _).drew
          have hlts := HLT.out
          have h18 := K18.out.set (512 + i * 16 + j) (.int .u8 ((bb.toNat ^^^ x.toNat : Nat) : Int))
          rw [HBT.out] at h18
          have HD18 := Lib.hid (h18.keep hdr (by simp))
          have HD8 := Lib.hid ((K8.out.keep hon (by simp; omega)).keep hdr (by simp))
          have HD14 := Lib.hid ((K14.out.keep hon (by simp; omega)).keep hdr (by simp))
          have HD15 := Lib.hid ((K15.out.keep hon (by simp; omega)).keep hdr (by simp))
          have HXL := Lib.hid (show Ext w _ from (grown_then K7.out hon (.inr (by rintro b ⟨⟩; omega))).trans hdr)
          have HTL := Lib.hid (show (bv T).length = 1024 by rw [bv_length, HT.out])
          have HFT := Lib.hid (fun W => From T HT.out d HD.out W)
          have HTO := Lib.hid (fun W => To04 (bv T) W HTL.out (bv_one _))
          have HM2 := Lib.hid (fun W => Met (signM seed n d) T d d (signM_length _ _ _) HT.out HD.out HD.out W)
          clear K7 K8 K14 K15 K18 hon hdr h18 hcl hfr
          by_cases hx0 : x = 0
          · have hxz : ((x.toNat : Int) == 0) = true := by rw [hx0]; rfl
            clear HNP
            refine startM Since (by kernel_rfl) ?_
            (try simp only [Act.put, List.setIfInBounds_toArray, List.set_cons_succ, List.set_cons_zero])
            generalize (W.setCell ⟨g18, 512 + i * 16 + j, none⟩ (.int .u8 ((bb.toNat ^^^ x.toNat : Nat) : Int))).drew = w9 at HD18 HD8 HD14 HD15 HXL ⊢
            have hxx : Ext w9 w9 := Ext.refl _
            refine takeE 0 rfl (by kernel_rfl) (by kernel_rfl) (by kernel_rfl) rfl (fun _ _ _ _ h => h) rfl (fun K hK => ?_)
            go_big_quiet_op
            first | refine hK _ ?_ | refine ⟨_, fun _ _ => rfl, hK _ ?_⟩
            clear hK K
            refine takeE 1 rfl (by kernel_rfl) (by kernel_rfl) (by kernel_rfl) rfl (fun _ _ _ _ h => h) rfl (fun K hK => ?_)
            go_big_quiet_op
            first | refine hK _ ?_ | refine ⟨_, fun _ _ => rfl, hK _ ?_⟩
            clear hK K
            refine takeE 2 rfl (by kernel_rfl) (by kernel_rfl) (by kernel_rfl) rfl (fun _ _ _ _ h => h) rfl (fun K hK => ?_)
            go_big_quiet_op
            first | refine hK _ ?_ | refine ⟨_, fun _ _ => rfl, hK _ ?_⟩
            clear hK K
            refine skipE 3 rfl (by kernel_rfl) (by kernel_rfl) (by kernel_rfl) (fun _ _ _ _ h => h) rfl ?_
            (try simp only [Act.put, List.setIfInBounds_toArray, List.set_cons_succ, List.set_cons_zero])
            refine skipE 4 rfl (by kernel_rfl) (by kernel_rfl) (by kernel_rfl) (fun _ _ _ _ h => h) rfl ?_
            (try simp only [Act.put, List.setIfInBounds_toArray, List.set_cons_succ, List.set_cons_zero])
            refine skipE 5 rfl (by kernel_rfl) (by kernel_rfl) (by kernel_rfl) (fun _ _ _ _ h => h) rfl ?_
            (try simp only [Act.put, List.setIfInBounds_toArray, List.set_cons_succ, List.set_cons_zero])
            refine skipE 6 rfl (by kernel_rfl) (by kernel_rfl) (by kernel_rfl) (fun _ _ _ _ h => h) rfl ?_
            (try simp only [Act.put, List.setIfInBounds_toArray, List.set_cons_succ, List.set_cons_zero])
            refine skipE 7 rfl (by kernel_rfl) (by kernel_rfl) (by kernel_rfl) (fun _ _ _ _ h => h) rfl ?_
            (try simp only [Act.put, List.setIfInBounds_toArray, List.set_cons_succ, List.set_cons_zero])
            refine skipE 8 rfl (by kernel_rfl) (by kernel_rfl) (by kernel_rfl) (fun _ _ _ _ h => h) rfl ?_
            (try simp only [Act.put, List.setIfInBounds_toArray, List.set_cons_succ, List.set_cons_zero])
            refine takeE 9 rfl (by kernel_rfl) (by kernel_rfl) (by kernel_rfl) rfl (fun _ _ _ _ h => h) rfl (fun K hK => ?_)
            go_big_quiet_op
            first | refine hK _ ?_ | refine ⟨_, fun _ _ => rfl, hK _ ?_⟩
            clear hK K
            refine takeE 10 rfl (by kernel_rfl) (by kernel_rfl) (by kernel_rfl) rfl (fun _ _ _ _ h => h) rfl (fun K hK => ?_)
            go_big_quiet_op
            first | refine hK _ ?_ | refine ⟨_, fun _ _ => rfl, hK _ ?_⟩
            clear hK K
            refine skipE 11 rfl (by kernel_rfl) (by kernel_rfl) (by kernel_rfl) (fun _ _ _ _ h => h) rfl ?_
            (try simp only [Act.put, List.setIfInBounds_toArray, List.set_cons_succ, List.set_cons_zero])
            refine skipE 12 rfl (by kernel_rfl) (by kernel_rfl) (by kernel_rfl) (fun _ _ _ _ h => h) rfl ?_
            (try simp only [Act.put, List.setIfInBounds_toArray, List.set_cons_succ, List.set_cons_zero])
            refine skipE 13 rfl (by kernel_rfl) (by kernel_rfl) (by kernel_rfl) (fun _ _ _ _ h => h) rfl ?_
            (try simp only [Act.put, List.setIfInBounds_toArray, List.set_cons_succ, List.set_cons_zero])
            refine skipE 14 rfl (by kernel_rfl) (by kernel_rfl) (by kernel_rfl) (fun _ _ _ _ h => h) rfl ?_
            (try simp only [Act.put, List.setIfInBounds_toArray, List.set_cons_succ, List.set_cons_zero])
            refine skipE 15 rfl (by kernel_rfl) (by kernel_rfl) (by kernel_rfl) (fun _ _ _ _ h => h) rfl ?_
            (try simp only [Act.put, List.setIfInBounds_toArray, List.set_cons_succ, List.set_cons_zero])
            refine skipE 16 rfl (by kernel_rfl) (by kernel_rfl) (by kernel_rfl) (fun _ _ _ _ h => h) rfl ?_
            (try simp only [Act.put, List.setIfInBounds_toArray, List.set_cons_succ, List.set_cons_zero])
            refine takeE 17 rfl (by kernel_rfl) (by kernel_rfl) (by kernel_rfl) rfl (fun _ _ _ _ h => h) rfl (fun K hK => ?_)
            go_big_quiet_op
            first | refine hK _ ?_ | refine ⟨_, fun _ _ => rfl, hK _ ?_⟩
            clear hK K
            refine takeE 18 rfl (by kernel_rfl) (by kernel_rfl) (by kernel_rfl) rfl (fun _ _ _ _ h => h) rfl (fun K hK => ?_)
            go_big_quiet_op
            first | refine hK _ ?_ | refine ⟨_, fun _ _ => rfl, hK _ ?_⟩
            clear hK K
            refine doneM (by kernel_rfl) ?_ _
            (try simp only [Exit.then])
            go_wp2_with fail
            go_ret
            exact ⟨rfl, HXL.out.trans hxx⟩
          · have hxz : ((x.toNat : Int) == 0) = false := by
              have h1 : x.toNat ≠ 0 := fun h => hx0 (UInt8.toNat_inj.1 h)
              simp only [beq_eq_false_iff_ne, ne_eq]
              omega
            by_cases hTq : fromS T d = leafM seed n
            · have HMP2 := Lib.hid (HTU.out T i HT.out hTq hi (.inr (HNP.out hx0)))
              have HQ := Lib.hid (show _ ∧ ∀ w : World, (binOp .neq 31 (.agg (bv (fromS T d)).toArray) (.agg (bv (leafM seed n)).toArray)).run Try.prog w = .ok (.bool false) w from ⟨(HDN.out _ (fromS_length T d)).1, fun w => by have := (HDN.out _ (fromS_length T d)).2 w; simpa [hTq] using this⟩)
              clear hTq HNP
              refine startM Since (by kernel_rfl) ?_
              (try simp only [Act.put, List.setIfInBounds_toArray, List.set_cons_succ, List.set_cons_zero])
              generalize (W.setCell ⟨g18, 512 + i * 16 + j, none⟩ (.int .u8 ((bb.toNat ^^^ x.toNat : Nat) : Int))).drew = w9 at HD18 HD8 HD14 HD15 HXL ⊢
              have hxx : Ext w9 w9 := Ext.refl _
              refine takeE 0 rfl (by kernel_rfl) (by kernel_rfl) (by kernel_rfl) rfl (fun _ _ _ _ h => h) rfl (fun K hK => ?_)
              go_big_quiet_op
              first | refine hK _ ?_ | refine ⟨_, fun _ _ => rfl, hK _ ?_⟩
              clear hK K
              refine takeE 1 rfl (by kernel_rfl) (by kernel_rfl) (by kernel_rfl) rfl (fun _ _ _ _ h => h) rfl (fun K hK => ?_)
              go_big_quiet_op
              first | refine hK _ ?_ | refine ⟨_, fun _ _ => rfl, hK _ ?_⟩
              clear hK K
              refine takeE 2 rfl (by kernel_rfl) (by kernel_rfl) (by kernel_rfl) rfl (fun _ _ _ _ h => h) rfl (fun K hK => ?_)
              go_big_quiet_op
              first | refine hK _ ?_ | refine ⟨_, fun _ _ => rfl, hK _ ?_⟩
              clear hK K
              refine takeE 3 rfl (by kernel_rfl) (by kernel_rfl) (by kernel_rfl) rfl (fun _ _ _ _ h => h) rfl (fun K hK => ?_)
              refine quiet_agg 38 _ rfl _ rfl (bv T) _ Try.underlying38 rfl (szSigFrom04 HTL.out) (fun W' h => (HD18.out.keep (hxx.trans h.ext) (by simp)).cells) ?_
              refine hK _ ?_
              simp only [Act.put, List.setIfInBounds_toArray, List.set_cons_succ, List.set_cons_zero]
              clear hK K
              refine takeE 5 rfl (by kernel_rfl) (by kernel_rfl) (by kernel_rfl) rfl (fun _ _ _ _ h => h) rfl (fun K hK => ?_)
              refine quiet_agg 22 _ rfl _ rfl (bv d) _ Try.underlying22 rfl (b32_size HDL.out) (fun W' h => (HD8.out.keep (hxx.trans h.ext) (by simp)).cells) ?_
              refine hK _ ?_
              simp only [Act.put, List.setIfInBounds_toArray, List.set_cons_succ, List.set_cons_zero]
              clear hK K
              refine takeE 7 rfl (by kernel_rfl) (by kernel_rfl) (by kernel_rfl) rfl (fun _ _ _ _ h => h) rfl (fun K hK => ?_)
              refine quiet_agg 31 _ rfl _ rfl (bv (leafM seed n)) _ Try.underlying31 rfl (dig_size HLL.out) (fun W' h => (HD15.out.keep (hxx.trans h.ext) (by simp)).cells) ?_
              refine hK _ ?_
              simp only [Act.put, List.setIfInBounds_toArray, List.set_cons_succ, List.set_cons_zero]
              clear hK K
              refine stepM 4 rfl (by kernel_rfl) rfl (fun K hK => ?_)
              go_simp
              refine (HTO.out _).mono ?_
              rintro en w' ⟨rfl, hx'⟩
              have hk := hx'
              replace hxx := hxx.trans hx'
              clear hx'
              refine hK _ _ (hk) ?_
              clear hK K
              refine stepM 6 rfl (by kernel_rfl) rfl (fun K hK => ?_)
              go_simp
              refine (HFT.out _).mono ?_
              rintro en w' ⟨rfl, hx'⟩
              have hk := hx'
              replace hxx := hxx.trans hx'
              clear hx'
              refine hK _ _ (hk) ?_
              clear hK K
              refine takeE 8 rfl (by kernel_rfl) (by kernel_rfl) (by kernel_rfl) rfl (fun _ _ _ _ h => h) rfl (fun K hK => ?_)
              refine quiet_binK .neq 31 _ _ _ rfl _ _ rfl rfl (.bool false) (HQ.out.1) (HQ.out.2) ?_
              refine hK _ ?_
              simp only [Act.put, List.setIfInBounds_toArray, List.set_cons_succ, List.set_cons_zero]
              clear hK K
              refine takeE 9 rfl (by kernel_rfl) (by kernel_rfl) (by kernel_rfl) rfl (fun _ _ _ _ h => h) rfl (fun K hK => ?_)
              go_big_quiet_op
              first | refine hK _ ?_ | refine ⟨_, fun _ _ => rfl, hK _ ?_⟩
              clear hK K
              refine takeE 10 rfl (by kernel_rfl) (by kernel_rfl) (by kernel_rfl) rfl (fun _ _ _ _ h => h) rfl (fun K hK => ?_)
              go_big_quiet_op
              first | refine hK _ ?_ | refine ⟨_, fun _ _ => rfl, hK _ ?_⟩
              clear hK K
              refine takeE 11 rfl (by kernel_rfl) (by kernel_rfl) (by kernel_rfl) rfl (fun _ _ _ _ h => h) rfl (fun K hK => ?_)
              refine quiet_agg 43 _ rfl _ rfl (bv (signM seed n d)) _ Try.underlying43 rfl (sig_size HGL.out) (fun W' h => (HD14.out.keep (hxx.trans h.ext) (by simp)).cells) ?_
              refine hK _ ?_
              simp only [Act.put, List.setIfInBounds_toArray, List.set_cons_succ, List.set_cons_zero]
              clear hK K
              refine takeE 13 rfl (by kernel_rfl) (by kernel_rfl) (by kernel_rfl) rfl (fun _ _ _ _ h => h) rfl (fun K hK => ?_)
              refine quiet_agg 38 _ rfl _ rfl (bv T) _ Try.underlying38 rfl (szSigFrom04 HTL.out) (fun W' h => (HD18.out.keep (hxx.trans h.ext) (by simp)).cells) ?_
              refine hK _ ?_
              simp only [Act.put, List.setIfInBounds_toArray, List.set_cons_succ, List.set_cons_zero]
              clear hK K
              refine takeE 14 rfl (by kernel_rfl) (by kernel_rfl) (by kernel_rfl) rfl (fun _ _ _ _ h => h) rfl (fun K hK => ?_)
              refine quiet_agg 22 _ rfl _ rfl (bv d) _ Try.underlying22 rfl (b32_size HDL.out) (fun W' h => (HD8.out.keep (hxx.trans h.ext) (by simp)).cells) ?_
              refine hK _ ?_
              simp only [Act.put, List.setIfInBounds_toArray, List.set_cons_succ, List.set_cons_zero]
              clear hK K
              refine takeE 15 rfl (by kernel_rfl) (by kernel_rfl) (by kernel_rfl) rfl (fun _ _ _ _ h => h) rfl (fun K hK => ?_)
              refine quiet_agg 22 _ rfl _ rfl (bv d) _ Try.underlying22 rfl (b32_size HDL.out) (fun W' h => (HD8.out.keep (hxx.trans h.ext) (by simp)).cells) ?_
              refine hK _ ?_
              simp only [Act.put, List.setIfInBounds_toArray, List.set_cons_succ, List.set_cons_zero]
              clear hK K
              refine stepM 12 rfl (by kernel_rfl) rfl (fun K hK => ?_)
              go_simp
              refine (HF4.out _).mono ?_
              rintro en w' ⟨rfl, hx'⟩
              have hk := hx'
              replace hxx := hxx.trans hx'
              clear hx'
              refine hK _ _ (hk) ?_
              clear hK K
              refine stepM 16 rfl (by kernel_rfl) rfl (fun K hK => ?_)
              go_simp
              refine (HM2.out _).mono ?_
              rintro en w' ⟨r, rfl, hr, hx'⟩
              obtain rfl : r = true := hr HMP2.out
              clear hr
              have hk := hx'
              replace hxx := hxx.trans hx'
              clear hx'
              refine hK _ _ (hk) ?_
              clear hK K
              refine takeE 17 rfl (by kernel_rfl) (by kernel_rfl) (by kernel_rfl) rfl (fun _ _ _ _ h => h) rfl (fun K hK => ?_)
              go_big_quiet_op
              first | refine hK _ ?_ | refine ⟨_, fun _ _ => rfl, hK _ ?_⟩
              clear hK K
              refine takeE 18 rfl (by kernel_rfl) (by kernel_rfl) (by kernel_rfl) rfl (fun _ _ _ _ h => h) rfl (fun K hK => ?_)
              go_big_quiet_op
              first | refine hK _ ?_ | refine ⟨_, fun _ _ => rfl, hK _ ?_⟩
              clear hK K
              refine doneM (by kernel_rfl) ?_ _
              (try simp only [Exit.then])
              go_wp2_with fail
              go_ret
              exact ⟨rfl, HXL.out.trans hxx⟩
            · have HQ := Lib.hid (show _ ∧ ∀ w : World, (binOp .neq 31 (.agg (bv (fromS T d)).toArray) (.agg (bv (leafM seed n)).toArray)).run Try.prog w = .ok (.bool true) w from ⟨(HDN.out _ (fromS_length T d)).1, fun w => by
                have := (HDN.out _ (fromS_length T d)).2 w
                have hbf : (fromS T d == leafM seed n) = false := by simpa using hTq
                have hne : (BinOp.neq = BinOp.eql) = False := by simp
                simp only [hne, if_false, hbf, Bool.not_false] at this
                exact this⟩)
              clear hTq HNP
              refine startM Since (by kernel_rfl) ?_
              (try simp only [Act.put, List.setIfInBounds_toArray, List.set_cons_succ, List.set_cons_zero])
              generalize (W.setCell ⟨g18, 512 + i * 16 + j, none⟩ (.int .u8 ((bb.toNat ^^^ x.toNat : Nat) : Int))).drew = w9 at HD18 HD8 HD14 HD15 HXL ⊢
              have hxx : Ext w9 w9 := Ext.refl _
              refine takeE 0 rfl (by kernel_rfl) (by kernel_rfl) (by kernel_rfl) rfl (fun _ _ _ _ h => h) rfl (fun K hK => ?_)
              go_big_quiet_op
              first | refine hK _ ?_ | refine ⟨_, fun _ _ => rfl, hK _ ?_⟩
              clear hK K
              refine takeE 1 rfl (by kernel_rfl) (by kernel_rfl) (by kernel_rfl) rfl (fun _ _ _ _ h => h) rfl (fun K hK => ?_)
              go_big_quiet_op
              first | refine hK _ ?_ | refine ⟨_, fun _ _ => rfl, hK _ ?_⟩
              clear hK K
              refine takeE 2 rfl (by kernel_rfl) (by kernel_rfl) (by kernel_rfl) rfl (fun _ _ _ _ h => h) rfl (fun K hK => ?_)
              go_big_quiet_op
              first | refine hK _ ?_ | refine ⟨_, fun _ _ => rfl, hK _ ?_⟩
              clear hK K
              refine takeE 3 rfl (by kernel_rfl) (by kernel_rfl) (by kernel_rfl) rfl (fun _ _ _ _ h => h) rfl (fun K hK => ?_)
              refine quiet_agg 38 _ rfl _ rfl (bv T) _ Try.underlying38 rfl (szSigFrom04 HTL.out) (fun W' h => (HD18.out.keep (hxx.trans h.ext) (by simp)).cells) ?_
              refine hK _ ?_
              simp only [Act.put, List.setIfInBounds_toArray, List.set_cons_succ, List.set_cons_zero]
              clear hK K
              refine takeE 5 rfl (by kernel_rfl) (by kernel_rfl) (by kernel_rfl) rfl (fun _ _ _ _ h => h) rfl (fun K hK => ?_)
              refine quiet_agg 22 _ rfl _ rfl (bv d) _ Try.underlying22 rfl (b32_size HDL.out) (fun W' h => (HD8.out.keep (hxx.trans h.ext) (by simp)).cells) ?_
              refine hK _ ?_
              simp only [Act.put, List.setIfInBounds_toArray, List.set_cons_succ, List.set_cons_zero]
              clear hK K
              refine takeE 7 rfl (by kernel_rfl) (by kernel_rfl) (by kernel_rfl) rfl (fun _ _ _ _ h => h) rfl (fun K hK => ?_)
              refine quiet_agg 31 _ rfl _ rfl (bv (leafM seed n)) _ Try.underlying31 rfl (dig_size HLL.out) (fun W' h => (HD15.out.keep (hxx.trans h.ext) (by simp)).cells) ?_
              refine hK _ ?_
              simp only [Act.put, List.setIfInBounds_toArray, List.set_cons_succ, List.set_cons_zero]
              clear hK K
              refine stepM 4 rfl (by kernel_rfl) rfl (fun K hK => ?_)
              go_simp
              refine (HTO.out _).mono ?_
              rintro en w' ⟨rfl, hx'⟩
              have hk := hx'
              replace hxx := hxx.trans hx'
              clear hx'
              refine hK _ _ (hk) ?_
              clear hK K
              refine stepM 6 rfl (by kernel_rfl) rfl (fun K hK => ?_)
              go_simp
              refine (HFT.out _).mono ?_
              rintro en w' ⟨rfl, hx'⟩
              have hk := hx'
              replace hxx := hxx.trans hx'
              clear hx'
              refine hK _ _ (hk) ?_
              clear hK K
              refine takeE 8 rfl (by kernel_rfl) (by kernel_rfl) (by kernel_rfl) rfl (fun _ _ _ _ h => h) rfl (fun K hK => ?_)
              refine quiet_binK .neq 31 _ _ _ rfl _ _ rfl rfl (.bool true) (HQ.out.1) (HQ.out.2) ?_
              refine hK _ ?_
              simp only [Act.put, List.setIfInBounds_toArray, List.set_cons_succ, List.set_cons_zero]
              clear hK K
              refine takeE 9 rfl (by kernel_rfl) (by kernel_rfl) (by kernel_rfl) rfl (fun _ _ _ _ h => h) rfl (fun K hK => ?_)
              go_big_quiet_op
              first | refine hK _ ?_ | refine ⟨_, fun _ _ => rfl, hK _ ?_⟩
              clear hK K
              refine takeE 10 rfl (by kernel_rfl) (by kernel_rfl) (by kernel_rfl) rfl (fun _ _ _ _ h => h) rfl (fun K hK => ?_)
              go_big_quiet_op
              first | refine hK _ ?_ | refine ⟨_, fun _ _ => rfl, hK _ ?_⟩
              clear hK K
              refine skipE 11 rfl (by kernel_rfl) (by kernel_rfl) (by kernel_rfl) (fun _ _ _ _ h => h) rfl ?_
              (try simp only [Act.put, List.setIfInBounds_toArray, List.set_cons_succ, List.set_cons_zero])
              refine skipE 12 rfl (by kernel_rfl) (by kernel_rfl) (by kernel_rfl) (fun _ _ _ _ h => h) rfl ?_
              (try simp only [Act.put, List.setIfInBounds_toArray, List.set_cons_succ, List.set_cons_zero])
              refine skipE 13 rfl (by kernel_rfl) (by kernel_rfl) (by kernel_rfl) (fun _ _ _ _ h => h) rfl ?_
              (try simp only [Act.put, List.setIfInBounds_toArray, List.set_cons_succ, List.set_cons_zero])
              refine skipE 14 rfl (by kernel_rfl) (by kernel_rfl) (by kernel_rfl) (fun _ _ _ _ h => h) rfl ?_
              (try simp only [Act.put, List.setIfInBounds_toArray, List.set_cons_succ, List.set_cons_zero])
              refine skipE 15 rfl (by kernel_rfl) (by kernel_rfl) (by kernel_rfl) (fun _ _ _ _ h => h) rfl ?_
              (try simp only [Act.put, List.setIfInBounds_toArray, List.set_cons_succ, List.set_cons_zero])
              refine skipE 16 rfl (by kernel_rfl) (by kernel_rfl) (by kernel_rfl) (fun _ _ _ _ h => h) rfl ?_
              (try simp only [Act.put, List.setIfInBounds_toArray, List.set_cons_succ, List.set_cons_zero])
              refine takeE 17 rfl (by kernel_rfl) (by kernel_rfl) (by kernel_rfl) rfl (fun _ _ _ _ h => h) rfl (fun K hK => ?_)
              go_big_quiet_op
              first | refine hK _ ?_ | refine ⟨_, fun _ _ => rfl, hK _ ?_⟩
              clear hK K
              refine takeE 18 rfl (by kernel_rfl) (by kernel_rfl) (by kernel_rfl) rfl (fun _ _ _ _ h => h) rfl (fun K hK => ?_)
              go_big_quiet_op
              first | refine hK _ ?_ | refine ⟨_, fun _ _ => rfl, hK _ ?_⟩
              clear hK K
              refine doneM (by kernel_rfl) ?_ _
              (try simp only [Exit.then])
              go_wp2_with fail
              go_ret
              exact ⟨rfl, HXL.out.trans hxx⟩
end
end Go.Proofs.Ytfoomnibfibfnaa

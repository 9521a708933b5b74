/- The walk of law 25's from; a request is equal to itself; a string's bytes in a row of their own. Conditions: the request's numbers are in their bounds, the string isn't too long. -/
import Derived.Test.YtchnjcghbbacoaaDoorQTo
import Derived.Test.YtchnjcghbbacoaaDoorEqQ
set_option linter.unusedVariables false
set_option linter.unusedSimpArgs false
set_option linter.unnecessarySimpa false
namespace Go.Proofs.YtchnjcghbbacoaaDoor
open Go.RowKit

theorem zR_zeroR : (Tryd.prog.info? 25).bind (fun i => i.zero.map (·.cells)) = some (rqC zR).toArray := by kernel_rfl
theorem rq_fieldsR : ∃ fields, Tryd.prog.underlying 25 = some (.struct fields) ∧ fields.toList.mapM (fun f => (Tryd.prog.info? f.type).map fun i => (f.offset, i.size)) = some [(0, 1), (1, 1), (2, 1), (3, 32), (35, 1)] := ⟨_, Tryd.underlying25, by kernel_rfl⟩
theorem szHashR {n : Nat} (h : n = 32) : (Tryd.prog.info? 29).map (·.size) = some n := by subst h; kernel_rfl
theorem rq_holds {r : Rq} (h : RqOk r) (w : World) (F : Fp) : rqTy.holds w F (rqC r) (r.1, r.2.1, r.2.2.1, r.2.2.2.1, r.2.2.2.2, ()) :=
  ⟨[.int .u8 (r.1.toNat : Int)], _, rfl, rfl, [.int .u64 (r.2.1 : Int)], _, rfl, ⟨rfl, h.am⟩, [.int .u64 (r.2.2.1 : Int)], _, rfl, ⟨rfl, h.ex⟩, bv r.2.2.2.1, _, rfl, ⟨h.hash, AllH.bytes.2 rfl⟩, [.string r.2.2.2.2], [], rfl, ⟨rfl, h.note⟩, rfl⟩
theorem rq_fits : (rqTy.eqFits Tryd.prog).1 25 = true := by kernel_rfl
theorem rq_guard : Tryd.prog.eqGuardType Tryd.prog.depth 25 = false := by kernel_rfl
/-- A request is equal to itself. -/
theorem wp_neRq {r : Rq} (hok : RqOk r) {o : Oper} {a : Act} {w : World} {K : Act → World → Prop} {Q : Exit → Act → World → Prop} (x y : Operand) (t' : TypeId) (ho : o.op = .binOp .neq 25 x y t') (hx : a.eval x = .agg (rqC r).toArray) (hy : a.eval y = .agg (rqC r).toArray)
    (hk : K (a.put o.dst (.bool false)) w) : o.wp Tryd.prog a w K Q := by
  have hr := run_neTy (P := Tryd.prog) rqTy 25 rq_fits (by decide) w w w (fun _ => False) (fun _ => False) (rqC r) (rqC r) _ _ (rq_holds hok w _) (rq_holds hok w _) (fun _ => rfl)
  have e : rqTy.eqv (r.1, r.2.1, r.2.2.1, r.2.2.2.1, r.2.2.2.2, ()) (r.1, r.2.1, r.2.2.1, r.2.2.2.1, r.2.2.2.2, ()) = true := (Ty.eqv_iff rqTy rfl _ _).2 rfl
  rw [e] at hr
  unfold Oper.wp execOp
  simp only [ho, hx, hy, Sem.run_bind, run_eqGuard w .neq 25 x y _ _ (.inr rfl) rq_guard, hr, Result.andThen_ok, Sem.run_pure]
  exact hk
set_option maxRecDepth 100000 in
set_option maxHeartbeats 4000000 in
theorem QFrom (r : Rq) (w : World) (hok : RqOk r) : Calls Tryd.prog 11 #[.agg (rqC r).toArray] w fun e w' => e = .returned (.agg (rqC r).toArray) ∧ Ext w w' := by
  obtain ⟨fields, hfu, hfp⟩ := rq_fieldsR
  have HF := Lib.hid (show fillL ([(0, 1), (1, 1), (2, 1), (3, 32), (35, 1)].toArray[·]?) (rqC zR) [(0, [Value.int .u8 (r.1.toNat : Int)]), (1, [Value.int .u64 (r.2.1 : Int)]), (2, [Value.int .u64 (r.2.2.1 : Int)]), (3, bv r.2.2.2.1), (4, [Value.string r.2.2.2.2])] = some (rqC r) by
    have h : ∀ (a b c : Value) (d : List Value) (e : Value), d.length = 32 → fillL ([(0, 1), (1, 1), (2, 1), (3, 32), (35, 1)].toArray[·]?) (rqC zR) [(0, [a]), (1, [b]), (2, [c]), (3, d), (4, [e])] = some (a :: b :: c :: (d ++ [e])) := by
      intro a b c d e hd
      simp [fillL, hd, rqC, zR, List.take_left', List.drop_left']
    exact h _ _ _ _ _ (by rw [bv_length, hok.hash]))
  have hzr := zR_zeroR
  have HZO := Lib.hid (rqC_one zR)
  have HZL := Lib.hid (rqC_length zR_ok)
  obtain ⟨ZR, hZR⟩ : ∃ ZR, ZR = rqC zR := ⟨_, rfl⟩
  rw [← hZR] at hzr HZO HZL HF
  clear hZR
  have HHL := Lib.hid hok.hash
  have HCL := Lib.hid (rqC_length hok)
  have HCO := Lib.hid (rqC_one r)
  have hb1 : Blk ((w.alloc (.cells (rqC r).toArray 31)).alloc (.cells ZR.toArray 25)) w.heap.size 31 (rqC r) := (Blk.new w _ (rqC r)).keep ((Ext.refl _).alloc _) (by simp)
  have hb2 : Blk ((w.alloc (.cells (rqC r).toArray 31)).alloc (.cells ZR.toArray 25)) (w.heap.size + 1) 25 ZR := Blk.fresh (by simp) _ _
  have hx : Ext w ((w.alloc (.cells (rqC r).toArray 31)).alloc (.cells ZR.toArray 25)) := ((Ext.refl w).alloc _).alloc _
  have c0 := (hb1.cell 0).trans (show (rqC r)[0]? = some (.int .u8 (r.1.toNat : Int)) from rfl)
  have c1 := (hb1.cell 1).trans (show (rqC r)[1]? = some (.int .u64 (r.2.1 : Int)) from rfl)
  have c2 := (hb1.cell 2).trans (show (rqC r)[2]? = some (.int .u64 (r.2.2.1 : Int)) from rfl)
  have c35 := (hb1.cell 35).trans (rqC_note hok)
  have hch : Cells ((w.alloc (.cells (rqC r).toArray 31)).alloc (.cells ZR.toArray 25)) ⟨w.heap.size, 3, none⟩ (bv r.2.2.2.1) := by
    have h := (hb1.cells.drop 3).take 32
    rw [rqC_hash hok, addr_atQ] at h
    exact h
  have HCH := Lib.hid hch
  have HB2 := Lib.hid hb2
  have HX := Lib.hid hx
  clear hb1 hb2 hx hch hok
  obtain ⟨C, hC⟩ : ∃ C, C = rqC r := ⟨_, rfl⟩
  rw [← hC] at HF HCL HCO c0 c1 c2 c35 HCH HB2 HX ⊢
  clear hC
  obtain ⟨to, am, ex, hash, note⟩ := r
  dsimp only at *
  go_enter Tryd.func11, Tryd.ntmps11
  go_wp2_with (first
    | ((with_reducible refine wpDst 2 rfl ?_); refine wpList_alloc _ rfl 25 rfl _ hzr ?_)
    | ((with_reducible refine wpDst 10 rfl ?_); refine wpList_load_agg _ rfl 29 (.tmp 9) rfl _ rfl (bv hash) _ Tryd.underlying29 rfl (szHash (by rw [bv_length]; exact HHL.out)) HCH.out ?_)
    | ((with_reducible refine wpDst 13 rfl ?_); go_must (refine wpList_build_st (.inl rfl) 25 #[(0, .tmp 4), (1, .tmp 6), (2, .tmp 8), (3, .tmp 10), (4, .tmp 12)] rfl fields ZR C _ [(0, [Value.int .u8 (to.toNat : Int)]), (1, [Value.int .u64 (am : Int)]), (2, [Value.int .u64 (ex : Int)]), (3, bv hash), (4, [Value.string note])] hfu hzr hfp (by simp [Act.eval, Value.cells]) HF.out ?_))
    | ((with_reducible refine wpSto 2 13 rfl ?_); refine wpList_store_row _ rfl 25 (.tmp 2) (.tmp 13) rfl (w.heap.size + 1) (by first | rfl | simp [Act.eval, Act.put]) ZR C 25 rfl (by exact HB2.out) (szRqR HCL.out) (by rw [HCL.out, HZL.out]) HCO.out ?_)
    | fail)
  have hc9 := Blk.cells (t := 25) (setRow_at (cs' := C.toArray) HB2.out)
  (try simp only [Exit.inBlock, Exit.then])
  refine bodyPost_ret (results_agg rfl _ _ _ _ _ rfl Tryd.underlying25 rfl (szRqR HCL.out) hc9) rfl ?_
  exact ⟨rfl, setRow_grownQ HX.out _ _ (by omega)⟩
/-- A string's bytes in a row of their own. -/
def ByAt (w : World) (b : Nat) (l : List UInt8) : Prop := ∃ C r, w.heap[b]? = some (.cells C 5 (C.size, C.size + 1)) ∧ C.toList = bv l ++ r
theorem ByAt.cells {w : World} {b : Nat} {l : List UInt8} (h : ByAt w b l) : Cells w ⟨b, 0, none⟩ (bv l) := by
  obtain ⟨C, r, h1, h2⟩ := h
  have h := Cells.of_block h1
  rw [h2] at h
  exact h.left
theorem ByAt.lt {w : World} {b : Nat} {l : List UInt8} (h : ByAt w b l) : b < w.heap.size := by
  obtain ⟨C, r, h1, _⟩ := h
  exact (Array.getElem?_eq_some_iff.1 h1).1
theorem ByAt.keep {w w' : World} {b : Nat} {l : List UInt8} (h : ByAt w b l) (hk : Ext w w') : ByAt w' b l := by
  have hb := hk.block b h.lt (by simp)
  obtain ⟨C, r, h1, h2⟩ := h
  exact ⟨C, r, hb.trans h1, h2⟩
theorem ByAt.free {w : World} {b : Nat} {l : List UInt8} (h : ByAt w b l) {i : Nat} (hi : i < l.length) : w.frozen? ⟨b, i, none⟩ = false := by
  obtain ⟨C, r, h1, h2⟩ := h
  have hs : i < C.size := by
    have := congrArg List.length h2
    rw [Array.length_toList, List.length_append, bv_length] at this
    omega
  simp [World.frozen?, h1]
  omega
theorem ByAt.set {w : World} {b : Nat} {l : List UInt8} (h : ByAt w b l) (i : Nat) (u : UInt8) (hi : i < l.length) : ByAt (w.setCell ⟨b, i, none⟩ (.int .u8 (u.toNat : Int))) b (l.set i u) := by
  obtain ⟨C, r, h1, h2⟩ := h
  refine ⟨C.setIfInBounds i (.int .u8 (u.toNat : Int)), r, ?_, ?_⟩
  · simp [World.setCell, Array.getElem?_modify, h1]
  · rw [Array.toList_setIfInBounds, h2, List.set_append_left _ _ (by rw [bv_length]; exact hi)]
    unfold bv
    rw [List.map_set]
/-- '[]byte(s)'. -/
theorem wpList_bytesOf {w : World} {ops : Array Oper} {rest : List Oper} {o : Oper} {a : Act} {Q : Exit → Act → World → Prop} (hgd : o.guard = none) (src dst : TypeId) (p : Operand) (ho : o.op = .convert src dst p) (hs : Tryd.prog.underlying src = some .string) (hd : Tryd.prog.underlying dst = some (.slice 5))
    (s : ByteArray) (hp : a.eval p = .string s) (hm : s.size ≤ maxLen)
    (h : ∀ cap W', s.size ≤ cap → cap ≤ maxLen → ByAt W' w.heap.size s.data.toList → Ext w W' → wpList Tryd.prog ops Q rest (a.put o.dst (.slice (some ⟨w.heap.size, 0, none⟩) s.size cap)) W') : wpList Tryd.prog ops Q (o :: rest) a w :=
  wpList_plain hgd fun K hK => by
    have hrun := run_bytes_of_string (P := Tryd.prog) w src dst 5 s hs hd Tryd.underlying5
    have hge := grownCap_ge w s.size 0 5
    have hle := grownCap_le_maxLen w s.size 0 5 hm
    generalize grownCap w s.size 0 5 = cap at *
    have hcl : (bytesRow s cap).toList = bv s.data.toList ++ List.replicate (cap - s.size) (.int .u8 0) := by
      unfold bytesRow bv
      rw [Array.toList_append, Array.toList_map, Array.toList_replicate]
    generalize bytesRow s cap = C at *
    unfold Oper.wp execOp
    simp only [ho, hp, Sem.run_bind]
    rw [hrun]
    simp only [Result.andThen_ok, Sem.run_pure]
    exact hK _ _ (h cap _ (by omega) (by omega) ⟨C, _, heap_alloc_new w.drew (.cells C 5 (C.size, C.size + 1)), hcl⟩ (((Ext.refl w).drew).alloc _))
theorem wp_load_aggQ {P : Program} {w : World} {o : Oper} {a : Act} {K : Act → World → Prop} {Q : Exit → Act → World → Prop} (ty : TypeId) (x : Operand) (ho : o.op = .load ty x)
    (ad : Addr) (hx : a.eval x = .pointer (some ad)) (cs : List Value) (d : TypeDesc) (hu : P.underlying ty = some d) (hd : isAggD d = true) (hi : (P.info? ty).map (·.size) = some cs.length) (hc : Cells w ad cs)
    (h : K (a.put o.dst (.agg cs.toArray)) w) : o.wp P a w K Q := by
  unfold Oper.wp execOp
  simp only [ho, hx, Instr.loadAt, Instr.sureAddr, Sem.run_bind, Sem.run_pure, Result.andThen_ok, run_load_agg w ty ad cs d hu hd hi hc]
  exact h
/-- A byte of a string, at an index of any kind. -/
theorem wpList_idxK {P : Program} {w : World} {ops : Array Oper} {rest : List Oper} {o : Oper} {a : Act} {Q : Exit → Act → World → Prop} (hgd : o.guard = none) (q : IntKind) (t : TypeId) (x y : Operand) (ho : o.op = .index t x y) (hu : P.underlying t = some .string) (s : ByteArray) (k : Nat) (hx : a.eval x = .string s) (hy : a.eval y = .int q (k : Int))
    (b : UInt8) (hb : s.data.toList[k]? = some b) (h : wpList P ops Q rest (a.put o.dst (.int .u8 (b.toNat : Int))) w) : wpList P ops Q (o :: rest) a w :=
  wpList_plain hgd fun K hK => by
    have hk : k < s.size := by
      have := (List.getElem?_eq_some_iff.1 hb).1
      rwa [Array.length_toList] at this
    have he : s[k] = b := by
      have := (List.getElem?_eq_some_iff.1 hb).2
      rw [Array.getElem_toList] at this
      exact this
    have hr := run_index_string w t s q (k : Int) hu
    rw [dif_pos ⟨by omega, by exact_mod_cast hk⟩] at hr
    unfold Oper.wp execOp
    simp only [ho, hx, hy, Sem.run_bind, hr, Result.andThen_ok, Sem.run_pure]
    have e2 : (s[(k : Int).toNat]'(by simpa using hk)) = b := by simpa using he
    rw [e2]
    exact hK _ _ h
/-- A conversion, its run known. -/
theorem wpList_convV {P : Program} {w : World} {ops : Array Oper} {rest : List Oper} {o : Oper} {a : Act} {Q : Exit → Act → World → Prop} (hgd : o.guard = none) (src dst : TypeId) (x : Operand) (ho : o.op = .convert src dst x) (v u : Value) (hx : a.eval x = v) (hr : (convert src dst v).run P w = .ok u w)
    (h : wpList P ops Q rest (a.put o.dst u) w) : wpList P ops Q (o :: rest) a w :=
  wpList_plain hgd fun K hK => by
    unfold Oper.wp execOp
    simp only [ho, hx, Sem.run_bind, hr, Result.andThen_ok, Sem.run_pure]
    exact hK _ _ h
theorem conv_iu (P : Program) (n : Int) (src dst : TypeId) (hs : P.underlying src = some (.int .i64)) (hd : P.underlying dst = some (.int .u64)) (w : World) : (convert src dst (.int .i64 n)).run P w = .ok (.int .u64 ((n % 18446744073709551616).toNat : Int)) w := by
  have h : IntKind.u64.wrap n = ((n % 18446744073709551616).toNat : Int) := by
    simp [IntKind.wrap, IntKind.bits, IntKind.signed]
    omega
  simp [convert, run_underlying hs, run_underlying hd, Conv.intToInt, h]
theorem conv_iuN (P : Program) (n : Nat) (hn : n < 18446744073709551616) (src dst : TypeId) (hs : P.underlying src = some (.int .i64)) (hd : P.underlying dst = some (.int .u64)) (w : World) : (convert src dst (.int .i64 (n : Int))).run P w = .ok (.int .u64 (n : Int)) w := by
  rw [conv_iu P n src dst hs hd w]
  congr 3
  omega
theorem conv_ui (P : Program) (n : Nat) (hn : n < 9223372036854775808) (src dst : TypeId) (hs : P.underlying src = some (.int .u64)) (hd : P.underlying dst = some (.int .i64)) (w : World) : (convert src dst (.int .u64 (n : Int))).run P w = .ok (.int .i64 (n : Int)) w := by
  simp [convert, run_underlying hs, run_underlying hd, Conv.intToInt, wrap64_nat n hn]
theorem run_remU (P : Program) (t : TypeId) (a b : Nat) (hb : 0 < b) (ha : a < 18446744073709551616) (w : World) : (binOp .rem t (.int .u64 (a : Int)) (.int .u64 (b : Int))).run P w = .ok (.int .u64 ((a % b : Nat) : Int)) w := by
  have e : (a : Int).tmod (b : Int) = ((a % b : Nat) : Int) := (Int.ofNat_tmod a b).symm
  show (Op.intDiv .rem .u64 (a : Int) (b : Int)).run P w = _
  have hb0 : ¬ (b : Int) = 0 := by omega
  have hm : a % b < 18446744073709551616 := Nat.lt_of_le_of_lt (Nat.mod_le _ _) ha
  have hw : IntKind.u64.wrap ((a % b : Nat) : Int) = ((a % b : Nat) : Int) := by
    simp [IntKind.wrap, IntKind.bits, IntKind.signed]; omega
  unfold Op.intDiv
  rw [if_neg hb0]
  simp only [Sem.run_pure, e]
theorem run_rem8 (P : Program) (t : TypeId) (a : Nat) (ha : a < 256) (w : World) : (binOp .rem t (.int .u8 (a : Int)) (.int .u8 ((32 : Nat) : Int))).run P w = .ok (.int .u8 ((a % 32 : Nat) : Int)) w := by
  have e : (a : Int).tmod ((32 : Nat) : Int) = ((a % 32 : Nat) : Int) := (Int.ofNat_tmod a 32).symm
  show (Op.intDiv .rem .u8 (a : Int) ((32 : Nat) : Int)).run P w = _
  have hw : IntKind.u8.wrap ((a % 32 : Nat) : Int) = ((a % 32 : Nat) : Int) := by
    simp [IntKind.wrap, IntKind.bits, IntKind.signed]; omega
  have hb0 : ¬ ((32 : Nat) : Int) = 0 := by decide
  unfold Op.intDiv
  rw [if_neg hb0]
  simp only [Sem.run_pure, e]
end Go.Proofs.YtchnjcghbbacoaaDoor

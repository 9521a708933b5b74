/- Walks and plain laws, put together in build order. Conditions: what each of them names. -/
import Derived.Test.YtpdkmapogncgmaaWefe2bae72c
set_option linter.unusedVariables false
set_option linter.unusedSimpArgs false
set_option linter.unnecessarySimpa false
namespace Go.Proofs.Ytpdkmapogncgmaa
section
open Go.RowKit

/-- The signature that is none. -/
def zSig : List Value := sigC (bv (List.replicate 1024 0)) 0 (.slice none 0 0)
theorem zSig_zero : (Try.prog.info? 39).bind (fun i => i.zero.map (·.cells)) = some zSig.toArray := by
  have e : zSig = List.replicate 1024 (Value.int .u8 0) ++ [Value.int .u32 0, Value.slice none 0 0] := by
    unfold zSig sigC bv
    rw [List.map_replicate]
    rfl
  rw [e]; exact zOutTo05
theorem zSig_len : zSig.length = 1026 := sigC_len (by rw [bv_length, List.length_replicate]) _ _
theorem zSig_one : ∀ u ∈ zSig, u.oneCell' = true := sigC_one (bv_one _) 0 none 0 0
theorem exec_build0 {P : Program} {o : Oper} {a : Act} {v : Array Value} (w : World) (t : TypeId) (ho : o.op = .build t #[]) (hb : P.built t [] = some v) : (execOp a.eval o).run P w = .ok (.value (.agg v)) w := by
  unfold execOp
  simp only [ho]
  rw [Sem.run_bind, run_build w t _ v (by simpa using hb)]
  simp
theorem bools_set (tk : List Bool) (key : Nat) : (boolsC tk).set key (.bool true) = boolsC (tk.set key true) := by simp [boolsC, List.map_set]
theorem RingAt.take {w : World} {g tb : Nat} {F : Fp} {R : Value} {seed : List UInt8} {tall : Nat} {tk : List Bool} (h : RingAt w g tb F R seed tall tk) (key : Nat) : RingAt (w.setCell ⟨tb, key, none⟩ (.bool true)) g tb F R seed tall (tk.set key true) :=
  ⟨h.blk.keep (only_set key _) (by simp; exact Ne.symm h.ne), by rw [← bools_set]; exact h.tak.set key _, Ty.keep (fun b hb => (only_set key _).block b (h.fp b hb).1 (by have := (h.fp b hb).2.2; simpa using this)) (fun _ h => h) _ h.rows, h.ne, fun b hb => ⟨Nat.lt_of_lt_of_le (h.fp b hb).1 (only_set (g := tb) key (.bool true)).size, (h.fp b hb).2⟩, by rw [List.length_set]; exact h.len, h.low, h.seedl⟩
set_option maxRecDepth 100000 in
set_option maxHeartbeats 4000000 in
theorem Ring_Sign_nil (key : Nat) (d : Dg) (w : World) : Calls Try.prog 15 #[.pointer none, .int .u32 (key : Int), .agg (bv d).toArray] w fun e w' => e = .returned (.tuple #[.agg zSig.toArray, .int .i64 2]) ∧ Ext w w' := by
  obtain ⟨fields, hfu, hfp⟩ := fieldsTo05
  obtain ⟨ZR, hZR⟩ : ∃ ZR, ZR = zSig := ⟨_, rfl⟩
  have hzr := zSig_zero
  have hzl := zSig_len
  have hzo := zSig_one
  rw [← hZR] at hzr hzl hzo
  try rw [← hZR]
  have HZR := Lib.hid hZR
  clear hZR
  have hx0 : Ext w ((w.alloc (.cells (bv d).toArray 55)).alloc (.cells ZR.toArray 39)) := ((Ext.refl w).alloc _).alloc _
  have hbz : Blk ((w.alloc (.cells (bv d).toArray 55)).alloc (.cells ZR.toArray 39)) (w.heap.size + 1) 39 ZR := Blk.fresh (by simp) _ _
  have HBZ := Lib.hid hbz
  have HX0 := Lib.hid hx0
  have HZL := Lib.hid hzl
  have HBZ2 := HBZ
  have HX2 := HX0
  clear hx0 hbz hzl
  generalize bv d = DC at *
  go_enter Try.func15, Try.ntmps15
  go_wp2_with (first
    | ((with_reducible refine wpDst 6 rfl ?_); refine wpList_alloc _ rfl 39 rfl _ hzr ?_)
    | ((with_reducible refine wpDst 11 rfl ?_); go_must (refine wpList_build_st (.inl rfl) 39 #[] rfl fields ZR ZR _ [] hfu hzr hfp (by simp) rfl ?_))
    | ((with_reducible refine wpSto 6 11 rfl ?_); refine wpList_store_row _ rfl 39 (.tmp 6) (.tmp 11) rfl (w.heap.size + 1) rfl ZR ZR 39 rfl (by exact HBZ2.out) (szOutTo05 HZL.out) rfl hzo ?_)
    | ((with_reducible refine wpDst 17 rfl ?_); go_must (refine wpList_build_st (.inl rfl) 39 #[] rfl fields ZR ZR _ [] hfu hzr hfp (by simp) rfl ?_))
    | ((with_reducible refine wpSto 6 17 rfl ?_); refine wpList_store_row _ rfl 39 (.tmp 6) (.tmp 17) rfl (w.heap.size + 1) rfl ZR ZR 39 rfl (by exact HBZ2.out) (szOutTo05 HZL.out) rfl hzo ?_)
    | ((with_reducible refine wpDst 26 rfl ?_); go_must (refine wpList_build_st (.inl rfl) 39 #[] rfl fields ZR ZR _ [] hfu hzr hfp (by simp) rfl ?_))
    | ((with_reducible refine wpSto 6 26 rfl ?_); refine wpList_store_row _ rfl 39 (.tmp 6) (.tmp 26) rfl (w.heap.size + 1) rfl ZR ZR 39 rfl (by exact HBZ2.out) (szOutTo05 HZL.out) rfl hzo ?_)
    | fail)

  have hc9 := Blk.cells (t := 39) (setRow_at (cs' := ZR.toArray) HBZ2.out)
  (try simp only [Exit.inBlock, Exit.then])
  refine bodyPost_ret (results_agg_tmp rfl _ _ _ _ _ rfl Try.underlying39 rfl (szOutTo05 HZL.out) hc9) rfl ?_
  exact ⟨rfl, setRow_grown HX2.out _ _ (by omega)⟩
set_option maxRecDepth 100000 in
set_option maxHeartbeats 4000000 in
theorem Ring_Sign_arg {w : World} {g tb : Nat} {F : Fp} {R : Value} {seed : List UInt8} {tall : Nat} {tk : List Bool} (h : RingAt w g tb F R seed tall tk) (key : Nat) (hkey : (Lit.int .u32 (key : Int)).wf = true) (hk : ¬ key < 2 ^ tall) (d : Dg) : Calls Try.prog 15 #[.pointer (some ⟨g, 0, none⟩), .int .u32 (key : Int), .agg (bv d).toArray] w fun e w' => e = .returned (.tuple #[.agg zSig.toArray, .int .i64 1]) ∧ Ext w w' := by
  obtain ⟨fields, hfu, hfp⟩ := fieldsTo05
  obtain ⟨ZR, hZR⟩ : ∃ ZR, ZR = zSig := ⟨_, rfl⟩
  have hzr := zSig_zero
  have hzl := zSig_len
  have hzo := zSig_one
  rw [← hZR] at hzr hzl hzo
  try rw [← hZR]
  have HZR := Lib.hid hZR
  clear hZR
  have hx0 : Ext w ((w.alloc (.cells (bv d).toArray 55)).alloc (.cells ZR.toArray 39)) := ((Ext.refl w).alloc _).alloc _
  have hbz : Blk ((w.alloc (.cells (bv d).toArray 55)).alloc (.cells ZR.toArray 39)) (w.heap.size + 1) 39 ZR := Blk.fresh (by simp) _ _
  have HBZ := Lib.hid hbz
  have HX0 := Lib.hid hx0
  have HZL := Lib.hid hzl
  have hin := Ring_in (h.ext hx0) key hkey
  rw [decide_eq_false hk] at hin
  have HIN := Lib.hid hin
  clear hx0 hbz hzl hin h hk
  generalize bv d = DC at *
  go_enter Try.func15, Try.ntmps15
  go_wp2_with (first
    | ((with_reducible refine wpDst 6 rfl ?_); refine wpList_alloc _ rfl 39 rfl _ hzr ?_)
    | ((with_reducible refine wpDst 11 rfl ?_); go_must (refine wpList_build_st (.inl rfl) 39 #[] rfl fields ZR ZR _ [] hfu hzr hfp (by simp) rfl ?_))
    | ((with_reducible refine wpSto 6 11 rfl ?_); refine wpList_store_row _ rfl 39 (.tmp 6) (.tmp 11) rfl (w.heap.size + 1) rfl ZR ZR 39 rfl (by exact HBZ2.out) (szOutTo05 HZL.out) rfl hzo ?_)
    | ((with_reducible refine wpDst 17 rfl ?_); go_must (refine wpList_build_st (.inl rfl) 39 #[] rfl fields ZR ZR _ [] hfu hzr hfp (by simp) rfl ?_))
    | ((with_reducible refine wpSto 6 17 rfl ?_); refine wpList_store_row _ rfl 39 (.tmp 6) (.tmp 17) rfl (w.heap.size + 1) rfl ZR ZR 39 rfl (by exact HBZ2.out) (szOutTo05 HZL.out) rfl hzo ?_)
    | ((with_reducible refine wpDst 26 rfl ?_); go_must (refine wpList_build_st (.inl rfl) 39 #[] rfl fields ZR ZR _ [] hfu hzr hfp (by simp) rfl ?_))
    | ((with_reducible refine wpSto 6 26 rfl ?_); refine wpList_store_row _ rfl 39 (.tmp 6) (.tmp 26) rfl (w.heap.size + 1) rfl ZR ZR 39 rfl (by exact HBZ2.out) (szOutTo05 HZL.out) rfl hzo ?_)
    | (go_at_call 43; refine HIN.out.mono ?_; rintro e w1 ⟨rfl, hx1⟩
       have HBZ2 := Lib.hid (HBZ.out.keep hx1 (by simp))
       have HX2 := Lib.hid (HX0.out.trans hx1))
    | fail)

  have hc9 := Blk.cells (t := 39) (setRow_at (cs' := ZR.toArray) HBZ2.out)
  (try simp only [Exit.inBlock, Exit.then])
  refine bodyPost_ret (results_agg_tmp rfl _ _ _ _ _ rfl Try.underlying39 rfl (szOutTo05 HZL.out) hc9) rfl ?_
  exact ⟨rfl, setRow_grown HX2.out _ _ (by omega)⟩
set_option maxRecDepth 100000 in
set_option maxHeartbeats 4000000 in
theorem Ring_Sign_no {w : World} {g tb : Nat} {F : Fp} {R : Value} {seed : List UInt8} {tall : Nat} {tk : List Bool} (h : RingAt w g tb F R seed tall tk) (key : Nat) (hkey : (Lit.int .u32 (key : Int)).wf = true) (hk : key < 2 ^ tall) (ht : takenM tk key = true) (d : Dg) : Calls Try.prog 15 #[.pointer (some ⟨g, 0, none⟩), .int .u32 (key : Int), .agg (bv d).toArray] w fun e w' => e = .returned (.tuple #[.agg zSig.toArray, .int .i64 21]) ∧ Ext w w' := by
  obtain ⟨fields, hfu, hfp⟩ := fieldsTo05
  obtain ⟨ZR, hZR⟩ : ∃ ZR, ZR = zSig := ⟨_, rfl⟩
  have hzr := zSig_zero
  have hzl := zSig_len
  have hzo := zSig_one
  rw [← hZR] at hzr hzl hzo
  try rw [← hZR]
  have HZR := Lib.hid hZR
  clear hZR
  have hx0 : Ext w ((w.alloc (.cells (bv d).toArray 55)).alloc (.cells ZR.toArray 39)) := ((Ext.refl w).alloc _).alloc _
  have hbz : Blk ((w.alloc (.cells (bv d).toArray 55)).alloc (.cells ZR.toArray 39)) (w.heap.size + 1) 39 ZR := Blk.fresh (by simp) _ _
  have HBZ := Lib.hid hbz
  have HX0 := Lib.hid hx0
  have HZL := Lib.hid hzl
  have hin := Ring_in (h.ext hx0) key hkey
  rw [decide_eq_true hk] at hin
  have hp := pow_low h.low
  have HIN := Lib.hid hin
  have HH := Lib.hid (h.ext hx0)
  have HK := Lib.hid hk
  have HT := Lib.hid ht
  clear hx0 hbz hzl hin h ht
  generalize bv d = DC at *
  go_enter Try.func15, Try.ntmps15
  go_wp2_with (first
    | ((with_reducible refine wpDst 6 rfl ?_); refine wpList_alloc _ rfl 39 rfl _ hzr ?_)
    | ((with_reducible refine wpDst 11 rfl ?_); go_must (refine wpList_build_st (.inl rfl) 39 #[] rfl fields ZR ZR _ [] hfu hzr hfp (by simp) rfl ?_))
    | ((with_reducible refine wpSto 6 11 rfl ?_); refine wpList_store_row _ rfl 39 (.tmp 6) (.tmp 11) rfl (w.heap.size + 1) rfl ZR ZR 39 rfl (by exact HBZ2.out) (szOutTo05 HZL.out) rfl hzo ?_)
    | ((with_reducible refine wpDst 17 rfl ?_); go_must (refine wpList_build_st (.inl rfl) 39 #[] rfl fields ZR ZR _ [] hfu hzr hfp (by simp) rfl ?_))
    | ((with_reducible refine wpSto 6 17 rfl ?_); refine wpList_store_row _ rfl 39 (.tmp 6) (.tmp 17) rfl (w.heap.size + 1) rfl ZR ZR 39 rfl (by exact HBZ2.out) (szOutTo05 HZL.out) rfl hzo ?_)
    | ((with_reducible refine wpDst 26 rfl ?_); go_must (refine wpList_build_st (.inl rfl) 39 #[] rfl fields ZR ZR _ [] hfu hzr hfp (by simp) rfl ?_))
    | ((with_reducible refine wpSto 6 26 rfl ?_); refine wpList_store_row _ rfl 39 (.tmp 6) (.tmp 26) rfl (w.heap.size + 1) rfl ZR ZR 39 rfl (by exact HBZ2.out) (szOutTo05 HZL.out) rfl hzo ?_)
    | (go_at_call 43; refine HIN.out.mono ?_; rintro e w1 ⟨rfl, hx1⟩
       have HBZ2 := Lib.hid (HBZ.out.keep hx1 (by simp))
       have HX2 := Lib.hid (HX0.out.trans hx1)
       have HR1 := Lib.hid (HH.out.ext hx1)
       have c34 := (HR1.out.blk.cell 34).trans (ringC_taken HR1.out.seedl tall R _)
       have ck := bools_at HR1.out HK.out
       rw [HT.out] at ck
       have hk32 : key < 4294967296 := by have := HK.out; omega
       have hkl := HK.out
       generalize 2 ^ tall = n at *)
    | fail)

  have hc9 := Blk.cells (t := 39) (setRow_at (cs' := ZR.toArray) HBZ2.out)
  (try simp only [Exit.inBlock, Exit.then])
  refine bodyPost_ret (results_agg_tmp rfl _ _ _ _ _ rfl Try.underlying39 rfl (szOutTo05 HZL.out) hc9) rfl ?_
  exact ⟨rfl, setRow_grown HX2.out _ _ (by omega)⟩
set_option maxRecDepth 100000 in
set_option maxHeartbeats 8000000 in
theorem Ring_Sign {w : World} {g tb : Nat} {F : Fp} {R : Value} {seed : List UInt8} {tall : Nat} {tk : List Bool} (h : RingAt w g tb F R seed tall tk) (key : Nat) (hkey : (Lit.int .u32 (key : Int)).wf = true) (hk : key < 2 ^ tall) (ht : takenM tk key = false) (d : Dg) (hd : List.length (α := UInt8) d = 32) : Calls Try.prog 15 #[.pointer (some ⟨g, 0, none⟩), .int .u32 (key : Int), .agg (bv d).toArray] w fun e w' => ∃ v, e = .returned (.tuple #[.agg (sigC (bv (signM seed key d)) key v).toArray, .int .i64 0]) ∧ OwnD 55 w' v (wayM seed tall key) ∧ RingAt w' g tb F R seed tall (tk.set key true) ∧ w.grownBy w' (some tb) ∧ ∀ b, v.ownBlock = some b → w.heap.size ≤ b := by
  obtain ⟨fields, hfu, hfp⟩ := fieldsTo05
  obtain ⟨ZR, hZR⟩ : ∃ ZR, ZR = zSig := ⟨_, rfl⟩
  have hzr := zSig_zero
  have hzl := zSig_len
  have hzo := zSig_one
  rw [← hZR] at hzr hzl hzo
  try rw [← hZR]
  have HZR := Lib.hid hZR
  clear hZR
  have hx0 : Ext w ((w.alloc (.cells (bv d).toArray 55)).alloc (.cells ZR.toArray 39)) := ((Ext.refl w).alloc _).alloc _
  have hbz : Blk ((w.alloc (.cells (bv d).toArray 55)).alloc (.cells ZR.toArray 39)) (w.heap.size + 1) 39 ZR := Blk.fresh (by simp) _ _
  have HBZ := Lib.hid hbz
  have HX0 := Lib.hid hx0
  have HZL := Lib.hid hzl
  have hbd : Blk ((w.alloc (.cells (bv d).toArray 55)).alloc (.cells ZR.toArray 39)) w.heap.size 55 (bv d) := (Blk.new _ _ _).keep ((Ext.refl _).alloc _) (by simp)
  have h9 : Hid (tb < w.heap.size) := Lib.hid h.tak.lt
  have HGLT : Hid (g < w.heap.size) := Lib.hid h.blk.lt
  have HFLT : Hid (∀ b, F b → b < w.heap.size) := Lib.hid fun b hb => (h.fp b hb).1
  have hdl : (bv d).length = 32 := by rw [bv_length]; exact hd
  have HD := Lib.hid hbd
  have HDL := Lib.hid hdl
  have hgl : (bv (signM seed key d)).length = 1024 := by rw [bv_length]; exact signM_length _ _ _
  have hgo := bv_one (signM seed key d)
  have HGL := Lib.hid hgl
  have hin := Ring_in (h.ext hx0) key hkey
  rw [decide_eq_true hk] at hin
  have hp := pow_low h.low
  have HIN := Lib.hid hin
  have HH := Lib.hid (h.ext hx0)
  have HK := Lib.hid hk
  have HT := Lib.hid ht
  clear hx0 hbz hzl hin h ht
  have hsh := fun (W : World) (tk' : List Bool) (hW : RingAt W g tb F R seed tall tk') => Ring_show hW key hk d hd
  have HSH := Lib.hid hsh
  have HSG0 : Hid (bv (signM seed key d) = bv (signM seed key d)) := Lib.hid rfl
  obtain ⟨SG, hSG⟩ : ∃ SG, SG = bv (signM seed key d) := ⟨_, rfl⟩
  rw [← hSG] at HGL hgo HSH ⊢
  clear hsh hgl hSG HSG0 hbd hdl
  generalize bv d = DC at *
  go_enter Try.func15, Try.ntmps15
  go_wp2_with (first
    | ((with_reducible refine wpDst 6 rfl ?_); refine wpList_alloc _ rfl 39 rfl _ hzr ?_)
    | ((with_reducible refine wpDst 11 rfl ?_); go_must (refine wpList_build_st (.inl rfl) 39 #[] rfl fields ZR ZR _ [] hfu hzr hfp (by simp) rfl ?_))
    | ((with_reducible refine wpSto 6 11 rfl ?_); refine wpList_store_row _ rfl 39 (.tmp 6) (.tmp 11) rfl (w.heap.size + 1) rfl ZR ZR 39 rfl (by exact HBZ2.out) (szOutTo05 HZL.out) rfl hzo ?_)
    | ((with_reducible refine wpDst 17 rfl ?_); go_must (refine wpList_build_st (.inl rfl) 39 #[] rfl fields ZR ZR _ [] hfu hzr hfp (by simp) rfl ?_))
    | ((with_reducible refine wpSto 6 17 rfl ?_); refine wpList_store_row _ rfl 39 (.tmp 6) (.tmp 17) rfl (w.heap.size + 1) rfl ZR ZR 39 rfl (by exact HBZ2.out) (szOutTo05 HZL.out) rfl hzo ?_)
    | ((with_reducible refine wpDst 26 rfl ?_); go_must (refine wpList_build_st (.inl rfl) 39 #[] rfl fields ZR ZR _ [] hfu hzr hfp (by simp) rfl ?_))
    | ((with_reducible refine wpSto 6 26 rfl ?_); refine wpList_store_row _ rfl 39 (.tmp 6) (.tmp 26) rfl (w.heap.size + 1) rfl ZR ZR 39 rfl (by exact HBZ2.out) (szOutTo05 HZL.out) rfl hzo ?_)
    | (go_at_call 43; refine HIN.out.mono ?_; rintro e w1 ⟨rfl, hx1⟩
       have HBZ2 := Lib.hid (HBZ.out.keep hx1 (by simp))
       have HX2 := Lib.hid (HX0.out.trans hx1)
       have HR1 := Lib.hid (HH.out.ext hx1)
       have c34 := (HR1.out.blk.cell 34).trans (ringC_taken HR1.out.seedl tall R _)
       have ck := bools_at HR1.out HK.out
       rw [HT.out] at ck
       have hk32 : key < 4294967296 := by have := HK.out; omega
       have hkl := HK.out
       have f9 := HR1.out.tak.free key
       have HD1 := Lib.hid (HD.out.keep hx1 (by simp))
       have hd1 := (HD1.out.keep (only_set (g := tb) key (.bool true)) (by have := h9.out; simp; omega)).cells
       have HRT := Lib.hid (HR1.out.take key))
    | ((with_reducible refine wpDst 35 rfl ?_); refine wpList_load_agg _ rfl 55 (.tmp 5) rfl _ rfl DC _ Try.underlying55 rfl (digest_size HDL.out) (by exact hd1) ?_)
    | (go_at_call 44; refine (HSH.out _ _ HRT.out).mono ?_; rintro e w3 ⟨v, rfl, hov, hx3, hvn⟩
       obtain ⟨A3, c3, hv3⟩ := hov.2.form
       have hmone : ∀ u ∈ sigC SG key v, u.oneCell' = true := by rw [hv3]; exact sigC_one hgo _ _ _ _
       clear hv3
       have hml := sigC_len HGL.out key v
       have HBZ3 := Lib.hid ((HBZ2.out.keep (only_set (g := tb) key (.bool true)) (by have := h9.out; simp; omega)).keep hx3 (by simp)))
    | ((with_reducible refine wpSto 6 36 rfl ?_); go_must (refine wpList_store_row _ rfl 39 (.tmp 6) (.tmp 36) rfl (w.heap.size + 1) rfl ZR (sigC SG key v) 39 rfl (by exact HBZ3.out) (szOutTo05 hml) (by rw [hml, HZL.out]) hmone ?_))
    | fail)
  have hc9 := Blk.cells (t := 39) (setRow_at (cs' := (sigC SG key v).toArray) HBZ3.out)
  (try simp only [Exit.inBlock, Exit.then])
  refine bodyPost_ret (results_agg_tmp rfl _ _ _ _ _ rfl Try.underlying39 rfl (szOutTo05 hml) hc9) rfl ?_
  have hvn2 : ∀ b, v.ownBlock = some b → w.heap.size + 2 ≤ b := fun b hb => by
    have h1 := hvn b hb
    have h2 := hx1.size
    simp at h1 h2
    omega
  have hov2 : OwnD 55 (w3.setRow (w.heap.size + 1) (sigC SG key v).toArray) v (wayM seed tall key) := by
    refine ⟨hov.1, hov.2.keep (row := some (w.heap.size + 1)) (setRow_only _) ?_⟩
    cases hvb : v.ownBlock with
    | none => exact .inl rfl
    | some b => exact .inr (by have := hvn2 b hvb; simp; omega)
  have hg1 : w.grownBy w3 (some tb) := World.grownBy.trans (World.grownBy.trans (HX2.out.any (some tb)) (only_set key (.bool true))) (hx3.any _)
  refine ⟨v, rfl, hov2, (HRT.out.ext hx3).keep (row := some (w.heap.size + 1)) (setRow_only _) (by have := HGLT.out; simp; omega) (by have := h9.out; simp; omega) (fun b hb => by have := HFLT.out b hb; simp; omega), setRow_grown hg1 _ _ (by omega), fun b hb => by have := hvn2 b hb; omega⟩
set_option maxRecDepth 100000 in
set_option maxHeartbeats 4000000 in
theorem Ring_Again_nil (key : Nat) (d : Dg) (w : World) : Calls Try.prog 16 #[.pointer none, .int .u32 (key : Int), .agg (bv d).toArray] w fun e w' => e = .returned (.tuple #[.agg zSig.toArray, .int .i64 2]) ∧ Ext w w' := by
  obtain ⟨fields, hfu, hfp⟩ := fieldsTo05
  obtain ⟨ZR, hZR⟩ : ∃ ZR, ZR = zSig := ⟨_, rfl⟩
  have hzr := zSig_zero
  have hzl := zSig_len
  have hzo := zSig_one
  rw [← hZR] at hzr hzl hzo
  try rw [← hZR]
  have HZR := Lib.hid hZR
  clear hZR
  have hx0 : Ext w ((w.alloc (.cells (bv d).toArray 55)).alloc (.cells ZR.toArray 39)) := ((Ext.refl w).alloc _).alloc _
  have hbz : Blk ((w.alloc (.cells (bv d).toArray 55)).alloc (.cells ZR.toArray 39)) (w.heap.size + 1) 39 ZR := Blk.fresh (by simp) _ _
  have HBZ := Lib.hid hbz
  have HX0 := Lib.hid hx0
  have HZL := Lib.hid hzl
  have HBZ2 := HBZ
  have HX2 := HX0
  clear hx0 hbz hzl
  generalize bv d = DC at *
  go_enter Try.func16, Try.ntmps16
  go_wp2_with (first
    | ((with_reducible refine wpDst 6 rfl ?_); refine wpList_alloc _ rfl 39 rfl _ hzr ?_)
    | ((with_reducible refine wpDst 11 rfl ?_); go_must (refine wpList_build_st (.inl rfl) 39 #[] rfl fields ZR ZR _ [] hfu hzr hfp (by simp) rfl ?_))
    | ((with_reducible refine wpSto 6 11 rfl ?_); refine wpList_store_row _ rfl 39 (.tmp 6) (.tmp 11) rfl (w.heap.size + 1) rfl ZR ZR 39 rfl (by exact HBZ2.out) (szOutTo05 HZL.out) rfl hzo ?_)
    | ((with_reducible refine wpDst 17 rfl ?_); go_must (refine wpList_build_st (.inl rfl) 39 #[] rfl fields ZR ZR _ [] hfu hzr hfp (by simp) rfl ?_))
    | ((with_reducible refine wpSto 6 17 rfl ?_); refine wpList_store_row _ rfl 39 (.tmp 6) (.tmp 17) rfl (w.heap.size + 1) rfl ZR ZR 39 rfl (by exact HBZ2.out) (szOutTo05 HZL.out) rfl hzo ?_)
    | ((with_reducible refine wpDst 27 rfl ?_); go_must (refine wpList_build_st (.inl rfl) 39 #[] rfl fields ZR ZR _ [] hfu hzr hfp (by simp) rfl ?_))
    | ((with_reducible refine wpSto 6 27 rfl ?_); refine wpList_store_row _ rfl 39 (.tmp 6) (.tmp 27) rfl (w.heap.size + 1) rfl ZR ZR 39 rfl (by exact HBZ2.out) (szOutTo05 HZL.out) rfl hzo ?_)
    | fail)

  have hc9 := Blk.cells (t := 39) (setRow_at (cs' := ZR.toArray) HBZ2.out)
  (try simp only [Exit.inBlock, Exit.then])
  refine bodyPost_ret (results_agg_tmp rfl _ _ _ _ _ rfl Try.underlying39 rfl (szOutTo05 HZL.out) hc9) rfl ?_
  exact ⟨rfl, setRow_grown HX2.out _ _ (by omega)⟩
set_option maxRecDepth 100000 in
set_option maxHeartbeats 4000000 in
theorem Ring_Again_arg {w : World} {g tb : Nat} {F : Fp} {R : Value} {seed : List UInt8} {tall : Nat} {tk : List Bool} (h : RingAt w g tb F R seed tall tk) (key : Nat) (hkey : (Lit.int .u32 (key : Int)).wf = true) (hk : ¬ key < 2 ^ tall) (d : Dg) : Calls Try.prog 16 #[.pointer (some ⟨g, 0, none⟩), .int .u32 (key : Int), .agg (bv d).toArray] w fun e w' => e = .returned (.tuple #[.agg zSig.toArray, .int .i64 1]) ∧ Ext w w' := by
  obtain ⟨fields, hfu, hfp⟩ := fieldsTo05
  obtain ⟨ZR, hZR⟩ : ∃ ZR, ZR = zSig := ⟨_, rfl⟩
  have hzr := zSig_zero
  have hzl := zSig_len
  have hzo := zSig_one
  rw [← hZR] at hzr hzl hzo
  try rw [← hZR]
  have HZR := Lib.hid hZR
  clear hZR
  have hx0 : Ext w ((w.alloc (.cells (bv d).toArray 55)).alloc (.cells ZR.toArray 39)) := ((Ext.refl w).alloc _).alloc _
  have hbz : Blk ((w.alloc (.cells (bv d).toArray 55)).alloc (.cells ZR.toArray 39)) (w.heap.size + 1) 39 ZR := Blk.fresh (by simp) _ _
  have HBZ := Lib.hid hbz
  have HX0 := Lib.hid hx0
  have HZL := Lib.hid hzl
  have hin := Ring_in (h.ext hx0) key hkey
  rw [decide_eq_false hk] at hin
  have HIN := Lib.hid hin
  clear hx0 hbz hzl hin h hk
  generalize bv d = DC at *
  go_enter Try.func16, Try.ntmps16
  go_wp2_with (first
    | ((with_reducible refine wpDst 6 rfl ?_); refine wpList_alloc _ rfl 39 rfl _ hzr ?_)
    | ((with_reducible refine wpDst 11 rfl ?_); go_must (refine wpList_build_st (.inl rfl) 39 #[] rfl fields ZR ZR _ [] hfu hzr hfp (by simp) rfl ?_))
    | ((with_reducible refine wpSto 6 11 rfl ?_); refine wpList_store_row _ rfl 39 (.tmp 6) (.tmp 11) rfl (w.heap.size + 1) rfl ZR ZR 39 rfl (by exact HBZ2.out) (szOutTo05 HZL.out) rfl hzo ?_)
    | ((with_reducible refine wpDst 17 rfl ?_); go_must (refine wpList_build_st (.inl rfl) 39 #[] rfl fields ZR ZR _ [] hfu hzr hfp (by simp) rfl ?_))
    | ((with_reducible refine wpSto 6 17 rfl ?_); refine wpList_store_row _ rfl 39 (.tmp 6) (.tmp 17) rfl (w.heap.size + 1) rfl ZR ZR 39 rfl (by exact HBZ2.out) (szOutTo05 HZL.out) rfl hzo ?_)
    | ((with_reducible refine wpDst 27 rfl ?_); go_must (refine wpList_build_st (.inl rfl) 39 #[] rfl fields ZR ZR _ [] hfu hzr hfp (by simp) rfl ?_))
    | ((with_reducible refine wpSto 6 27 rfl ?_); refine wpList_store_row _ rfl 39 (.tmp 6) (.tmp 27) rfl (w.heap.size + 1) rfl ZR ZR 39 rfl (by exact HBZ2.out) (szOutTo05 HZL.out) rfl hzo ?_)
    | (go_at_call 43; refine HIN.out.mono ?_; rintro e w1 ⟨rfl, hx1⟩
       have HBZ2 := Lib.hid (HBZ.out.keep hx1 (by simp))
       have HX2 := Lib.hid (HX0.out.trans hx1))
    | fail)

  have hc9 := Blk.cells (t := 39) (setRow_at (cs' := ZR.toArray) HBZ2.out)
  (try simp only [Exit.inBlock, Exit.then])
  refine bodyPost_ret (results_agg_tmp rfl _ _ _ _ _ rfl Try.underlying39 rfl (szOutTo05 HZL.out) hc9) rfl ?_
  exact ⟨rfl, setRow_grown HX2.out _ _ (by omega)⟩
set_option maxRecDepth 100000 in
set_option maxHeartbeats 4000000 in
theorem Ring_Again_no {w : World} {g tb : Nat} {F : Fp} {R : Value} {seed : List UInt8} {tall : Nat} {tk : List Bool} (h : RingAt w g tb F R seed tall tk) (key : Nat) (hkey : (Lit.int .u32 (key : Int)).wf = true) (hk : key < 2 ^ tall) (ht : takenM tk key = false) (d : Dg) : Calls Try.prog 16 #[.pointer (some ⟨g, 0, none⟩), .int .u32 (key : Int), .agg (bv d).toArray] w fun e w' => e = .returned (.tuple #[.agg zSig.toArray, .int .i64 6]) ∧ Ext w w' := by
  obtain ⟨fields, hfu, hfp⟩ := fieldsTo05
  obtain ⟨ZR, hZR⟩ : ∃ ZR, ZR = zSig := ⟨_, rfl⟩
  have hzr := zSig_zero
  have hzl := zSig_len
  have hzo := zSig_one
  rw [← hZR] at hzr hzl hzo
  try rw [← hZR]
  have HZR := Lib.hid hZR
  clear hZR
  have hx0 : Ext w ((w.alloc (.cells (bv d).toArray 55)).alloc (.cells ZR.toArray 39)) := ((Ext.refl w).alloc _).alloc _
  have hbz : Blk ((w.alloc (.cells (bv d).toArray 55)).alloc (.cells ZR.toArray 39)) (w.heap.size + 1) 39 ZR := Blk.fresh (by simp) _ _
  have HBZ := Lib.hid hbz
  have HX0 := Lib.hid hx0
  have HZL := Lib.hid hzl
  have hin := Ring_in (h.ext hx0) key hkey
  rw [decide_eq_true hk] at hin
  have hp := pow_low h.low
  have HIN := Lib.hid hin
  have HH := Lib.hid (h.ext hx0)
  have HK := Lib.hid hk
  have HT := Lib.hid ht
  clear hx0 hbz hzl hin h ht
  generalize bv d = DC at *
  go_enter Try.func16, Try.ntmps16
  go_wp2_with (first
    | ((with_reducible refine wpDst 6 rfl ?_); refine wpList_alloc _ rfl 39 rfl _ hzr ?_)
    | ((with_reducible refine wpDst 11 rfl ?_); go_must (refine wpList_build_st (.inl rfl) 39 #[] rfl fields ZR ZR _ [] hfu hzr hfp (by simp) rfl ?_))
    | ((with_reducible refine wpSto 6 11 rfl ?_); refine wpList_store_row _ rfl 39 (.tmp 6) (.tmp 11) rfl (w.heap.size + 1) rfl ZR ZR 39 rfl (by exact HBZ2.out) (szOutTo05 HZL.out) rfl hzo ?_)
    | ((with_reducible refine wpDst 17 rfl ?_); go_must (refine wpList_build_st (.inl rfl) 39 #[] rfl fields ZR ZR _ [] hfu hzr hfp (by simp) rfl ?_))
    | ((with_reducible refine wpSto 6 17 rfl ?_); refine wpList_store_row _ rfl 39 (.tmp 6) (.tmp 17) rfl (w.heap.size + 1) rfl ZR ZR 39 rfl (by exact HBZ2.out) (szOutTo05 HZL.out) rfl hzo ?_)
    | ((with_reducible refine wpDst 27 rfl ?_); go_must (refine wpList_build_st (.inl rfl) 39 #[] rfl fields ZR ZR _ [] hfu hzr hfp (by simp) rfl ?_))
    | ((with_reducible refine wpSto 6 27 rfl ?_); refine wpList_store_row _ rfl 39 (.tmp 6) (.tmp 27) rfl (w.heap.size + 1) rfl ZR ZR 39 rfl (by exact HBZ2.out) (szOutTo05 HZL.out) rfl hzo ?_)
    | (go_at_call 43; refine HIN.out.mono ?_; rintro e w1 ⟨rfl, hx1⟩
       have HBZ2 := Lib.hid (HBZ.out.keep hx1 (by simp))
       have HX2 := Lib.hid (HX0.out.trans hx1)
       have HR1 := Lib.hid (HH.out.ext hx1)
       have c34 := (HR1.out.blk.cell 34).trans (ringC_taken HR1.out.seedl tall R _)
       have ck := bools_at HR1.out HK.out
       rw [HT.out] at ck
       have hk32 : key < 4294967296 := by have := HK.out; omega
       have hkl := HK.out
       generalize 2 ^ tall = n at *)
    | fail)

  have hc9 := Blk.cells (t := 39) (setRow_at (cs' := ZR.toArray) HBZ2.out)
  (try simp only [Exit.inBlock, Exit.then])
  refine bodyPost_ret (results_agg_tmp rfl _ _ _ _ _ rfl Try.underlying39 rfl (szOutTo05 HZL.out) hc9) rfl ?_
  exact ⟨rfl, setRow_grown HX2.out _ _ (by omega)⟩
set_option maxRecDepth 100000 in
set_option maxHeartbeats 8000000 in
theorem Ring_Again {w : World} {g tb : Nat} {F : Fp} {R : Value} {seed : List UInt8} {tall : Nat} {tk : List Bool} (h : RingAt w g tb F R seed tall tk) (key : Nat) (hkey : (Lit.int .u32 (key : Int)).wf = true) (hk : key < 2 ^ tall) (ht : takenM tk key = true) (d : Dg) (hd : List.length (α := UInt8) d = 32) : Calls Try.prog 16 #[.pointer (some ⟨g, 0, none⟩), .int .u32 (key : Int), .agg (bv d).toArray] w fun e w' => ∃ v, e = .returned (.tuple #[.agg (sigC (bv (signM seed key d)) key v).toArray, .int .i64 0]) ∧ OwnD 55 w' v (wayM seed tall key) ∧ Ext w w' ∧ ∀ b, v.ownBlock = some b → w.heap.size ≤ b := by
  obtain ⟨fields, hfu, hfp⟩ := fieldsTo05
  obtain ⟨ZR, hZR⟩ : ∃ ZR, ZR = zSig := ⟨_, rfl⟩
  have hzr := zSig_zero
  have hzl := zSig_len
  have hzo := zSig_one
  rw [← hZR] at hzr hzl hzo
  try rw [← hZR]
  have HZR := Lib.hid hZR
  clear hZR
  have hx0 : Ext w ((w.alloc (.cells (bv d).toArray 55)).alloc (.cells ZR.toArray 39)) := ((Ext.refl w).alloc _).alloc _
  have hbz : Blk ((w.alloc (.cells (bv d).toArray 55)).alloc (.cells ZR.toArray 39)) (w.heap.size + 1) 39 ZR := Blk.fresh (by simp) _ _
  have HBZ := Lib.hid hbz
  have HX0 := Lib.hid hx0
  have HZL := Lib.hid hzl
  have hbd : Blk ((w.alloc (.cells (bv d).toArray 55)).alloc (.cells ZR.toArray 39)) w.heap.size 55 (bv d) := (Blk.new _ _ _).keep ((Ext.refl _).alloc _) (by simp)
  have h9 : Hid (tb < w.heap.size) := Lib.hid h.tak.lt
  have HGLT : Hid (g < w.heap.size) := Lib.hid h.blk.lt
  have HFLT : Hid (∀ b, F b → b < w.heap.size) := Lib.hid fun b hb => (h.fp b hb).1
  have hdl : (bv d).length = 32 := by rw [bv_length]; exact hd
  have HD := Lib.hid hbd
  have HDL := Lib.hid hdl
  have hgl : (bv (signM seed key d)).length = 1024 := by rw [bv_length]; exact signM_length _ _ _
  have hgo := bv_one (signM seed key d)
  have HGL := Lib.hid hgl
  have hin := Ring_in (h.ext hx0) key hkey
  rw [decide_eq_true hk] at hin
  have hp := pow_low h.low
  have HIN := Lib.hid hin
  have HH := Lib.hid (h.ext hx0)
  have HK := Lib.hid hk
  have HT := Lib.hid ht
  clear hx0 hbz hzl hin h ht
  have hsh := fun (W : World) (tk' : List Bool) (hW : RingAt W g tb F R seed tall tk') => Ring_show hW key hk d hd
  have HSH := Lib.hid hsh
  have HSG0 : Hid (bv (signM seed key d) = bv (signM seed key d)) := Lib.hid rfl
  obtain ⟨SG, hSG⟩ : ∃ SG, SG = bv (signM seed key d) := ⟨_, rfl⟩
  rw [← hSG] at HGL hgo HSH ⊢
  clear hsh hgl hSG HSG0 hbd hdl
  generalize bv d = DC at *
  go_enter Try.func16, Try.ntmps16
  go_wp2_with (first
    | ((with_reducible refine wpDst 6 rfl ?_); refine wpList_alloc _ rfl 39 rfl _ hzr ?_)
    | ((with_reducible refine wpDst 11 rfl ?_); go_must (refine wpList_build_st (.inl rfl) 39 #[] rfl fields ZR ZR _ [] hfu hzr hfp (by simp) rfl ?_))
    | ((with_reducible refine wpSto 6 11 rfl ?_); refine wpList_store_row _ rfl 39 (.tmp 6) (.tmp 11) rfl (w.heap.size + 1) rfl ZR ZR 39 rfl (by exact HBZ2.out) (szOutTo05 HZL.out) rfl hzo ?_)
    | ((with_reducible refine wpDst 17 rfl ?_); go_must (refine wpList_build_st (.inl rfl) 39 #[] rfl fields ZR ZR _ [] hfu hzr hfp (by simp) rfl ?_))
    | ((with_reducible refine wpSto 6 17 rfl ?_); refine wpList_store_row _ rfl 39 (.tmp 6) (.tmp 17) rfl (w.heap.size + 1) rfl ZR ZR 39 rfl (by exact HBZ2.out) (szOutTo05 HZL.out) rfl hzo ?_)
    | ((with_reducible refine wpDst 27 rfl ?_); go_must (refine wpList_build_st (.inl rfl) 39 #[] rfl fields ZR ZR _ [] hfu hzr hfp (by simp) rfl ?_))
    | ((with_reducible refine wpSto 6 27 rfl ?_); refine wpList_store_row _ rfl 39 (.tmp 6) (.tmp 27) rfl (w.heap.size + 1) rfl ZR ZR 39 rfl (by exact HBZ2.out) (szOutTo05 HZL.out) rfl hzo ?_)
    | (go_at_call 43; refine HIN.out.mono ?_; rintro e w1 ⟨rfl, hx1⟩
       have HBZ2 := Lib.hid (HBZ.out.keep hx1 (by simp))
       have HX2 := Lib.hid (HX0.out.trans hx1)
       have HR1 := Lib.hid (HH.out.ext hx1)
       have c34 := (HR1.out.blk.cell 34).trans (ringC_taken HR1.out.seedl tall R _)
       have ck := bools_at HR1.out HK.out
       rw [HT.out] at ck
       have hk32 : key < 4294967296 := by have := HK.out; omega
       have hkl := HK.out
       have hd1 := (HD.out.keep hx1 (by simp)).cells
       have HRT := HR1)
    | ((with_reducible refine wpDst 30 rfl ?_); refine wpList_load_agg _ rfl 55 (.tmp 5) rfl _ rfl DC _ Try.underlying55 rfl (digest_size HDL.out) (by exact hd1) ?_)
    | (go_at_call 44; refine (HSH.out _ _ HRT.out).mono ?_; rintro e w3 ⟨v, rfl, hov, hx3, hvn⟩
       obtain ⟨A3, c3, hv3⟩ := hov.2.form
       have hmone : ∀ u ∈ sigC SG key v, u.oneCell' = true := by rw [hv3]; exact sigC_one hgo _ _ _ _
       clear hv3
       have hml := sigC_len HGL.out key v
       have HBZ3 := Lib.hid (HBZ2.out.keep hx3 (by simp)))
    | ((with_reducible refine wpSto 6 31 rfl ?_); go_must (refine wpList_store_row _ rfl 39 (.tmp 6) (.tmp 31) rfl (w.heap.size + 1) rfl ZR (sigC SG key v) 39 rfl (by exact HBZ3.out) (szOutTo05 hml) (by rw [hml, HZL.out]) hmone ?_))
    | fail)
  have hc9 := Blk.cells (t := 39) (setRow_at (cs' := (sigC SG key v).toArray) HBZ3.out)
  (try simp only [Exit.inBlock, Exit.then])
  refine bodyPost_ret (results_agg_tmp rfl _ _ _ _ _ rfl Try.underlying39 rfl (szOutTo05 hml) hc9) rfl ?_
  have hvn2 : ∀ b, v.ownBlock = some b → w.heap.size + 2 ≤ b := fun b hb => by
    have h1 := hvn b hb
    have h2 := hx1.size
    simp at h1 h2
    omega
  have hov2 : OwnD 55 (w3.setRow (w.heap.size + 1) (sigC SG key v).toArray) v (wayM seed tall key) := by
    refine ⟨hov.1, hov.2.keep (row := some (w.heap.size + 1)) (setRow_only _) ?_⟩
    cases hvb : v.ownBlock with
    | none => exact .inl rfl
    | some b => exact .inr (by have := hvn2 b hvb; simp; omega)
  exact ⟨v, rfl, hov2, setRow_grown (HX2.out.trans hx3) _ _ (by omega), fun b hb => by have := hvn2 b hb; omega⟩
end
section
open Go.RowKit

set_option maxRecDepth 100000 in
set_option maxHeartbeats 4000000 in
theorem Ring_Spend_nil (key : Nat) (w : World) : Calls Try.prog 21 #[.pointer none, .int .u32 (key : Int)] w fun e w' => e = .returned (.int .i64 2) ∧ Ext w w' := by
  go_enter Try.func21, Try.ntmps21
  go_wp2
  go_ret
  exact ⟨rfl, Ext.refl _⟩
set_option maxRecDepth 100000 in
set_option maxHeartbeats 4000000 in
theorem Ring_Tall_nil (w : World) : Calls Try.prog 24 #[.pointer none] w fun e w' => e = .returned (.int .i64 0) ∧ Ext w w' := by
  go_enter Try.func24, Try.ntmps24
  go_wp2
  go_ret
  exact ⟨rfl, Ext.refl _⟩
set_option maxRecDepth 100000 in
set_option maxHeartbeats 4000000 in
theorem Ring_Taken_nil (key : Nat) (w : World) : Calls Try.prog 20 #[.pointer none, .int .u32 (key : Int)] w fun e w' => e = .returned (.bool false) ∧ Ext w w' := by
  go_enter Try.func20, Try.ntmps20
  go_wp2
  go_ret
  exact ⟨rfl, Ext.refl _⟩
set_option maxRecDepth 100000 in
set_option maxHeartbeats 4000000 in
theorem Ring_Root_nil (w : World) : Calls Try.prog 19 #[.pointer none] w fun e w' => e = .returned (.agg (bv (List.replicate 32 0)).toArray) ∧ Ext w w' := by
  have hzd := digest_zero
  have hdl : (bv (List.replicate 32 0)).length = 32 := by simp
  have hdo := bv_one (List.replicate 32 0)
  have hbd : (Try.prog.built 55 []) = some (bv (List.replicate 32 0)).toArray := by kernel_rfl
  obtain ⟨D, hD⟩ : ∃ D, D = bv (List.replicate 32 0) := ⟨_, rfl⟩
  rw [← hD] at hzd hdl hdo hbd ⊢
  have HDL := Lib.hid hdl
  have HBD := Lib.hid hbd
  have hbz : Blk (w.alloc (.cells D.toArray 55)) w.heap.size 55 D := Blk.new _ _ _
  have HBZ := Lib.hid hbz
  clear hD hdl hbd hbz
  go_enter Try.func19, Try.ntmps19
  go_wp2_with (first
    | ((with_reducible refine wpDst 2 rfl ?_); refine wpList_alloc _ rfl 55 rfl _ hzd ?_)
    | ((with_reducible refine wpDst 5 rfl ?_); go_must (refine wpList_build (.inl rfl) 55 #[] rfl (.agg D.toArray) (exec_build0 _ _ rfl HBD.out) ?_))
    | ((with_reducible refine wpSto 2 5 rfl ?_); refine wpList_store_row _ rfl 55 (.tmp 2) (.tmp 5) rfl w.heap.size rfl D D 55 rfl (by exact HBZ.out) (digest_size HDL.out) rfl hdo ?_)
    | fail)
  have hc9 := Blk.cells (t := 55) (setRow_at (cs' := D.toArray) HBZ.out)
  (try simp only [Exit.inBlock, Exit.then])
  refine bodyPost_ret (results_agg rfl _ _ _ _ _ rfl Try.underlying55 rfl (digest_size HDL.out) hc9) rfl ?_
  exact ⟨rfl, setRow_grown ((Ext.refl w).alloc _) _ _ (Nat.le_refl _)⟩
section
variable {w : World} {g tb : Nat} {F : Fp} {R : Value} {seed : List UInt8} {tall : Nat} {tk : List Bool}
set_option maxRecDepth 100000 in
set_option maxHeartbeats 4000000 in
theorem Ring_Spend_arg (h : RingAt w g tb F R seed tall tk) (key : Nat) (hkey : (Lit.int .u32 (key : Int)).wf = true) (hk : ¬ key < 2 ^ tall) :
    Calls Try.prog 21 #[.pointer (some ⟨g, 0, none⟩), .int .u32 (key : Int)] w fun e w' => e = .returned (.int .i64 1) ∧ Ext w w' := by
  have hin := Ring_in h key hkey
  rw [decide_eq_false hk] at hin
  have HIN := Lib.hid hin
  clear hin h hk
  go_enter Try.func21, Try.ntmps21
  go_wp2_with (first
    | (go_at_call 43; refine HIN.out.mono ?_; rintro e w1 ⟨rfl, hx1⟩)
    | fail)
  go_ret
  exact ⟨rfl, hx1⟩
set_option maxRecDepth 100000 in
set_option maxHeartbeats 4000000 in
theorem Ring_Spend (h : RingAt w g tb F R seed tall tk) (key : Nat) (hkey : (Lit.int .u32 (key : Int)).wf = true) (hk : key < 2 ^ tall) :
    Calls Try.prog 21 #[.pointer (some ⟨g, 0, none⟩), .int .u32 (key : Int)] w fun e w' => e = .returned (.int .i64 0) ∧ RingAt w' g tb F R seed tall (tk.set key true) ∧ w.grownBy w' (some tb) := by
  have hin := Ring_in h key hkey
  rw [decide_eq_true hk] at hin
  have hp := pow_low h.low
  have HIN := Lib.hid hin
  have HH := Lib.hid h
  have HK := Lib.hid hk
  clear hin h
  go_enter Try.func21, Try.ntmps21
  go_wp2_with (first
    | (go_at_call 43; refine HIN.out.mono ?_; rintro e w1 ⟨rfl, hx1⟩
       have HR1 := Lib.hid (HH.out.ext hx1)
       have c34 := (HR1.out.blk.cell 34).trans (ringC_taken HR1.out.seedl tall R _)
       have ck := bools_at HR1.out HK.out
       have hk32 : key < 4294967296 := by have := HK.out; omega
       have f9 := HR1.out.tak.free key
       have HRT := Lib.hid (HR1.out.take key))
    | fail)
  go_ret
  exact ⟨rfl, HRT.out, World.grownBy.trans (hx1.any _) (only_set key _)⟩
end
end
section
open Go.RowKit

theorem pow_wrap (n : Nat) (h : n < 60) : wrap64 ((2 : Int) ^ n) = ((2 ^ n : Nat) : Int) := by
  have h1 : 2 ^ n < 2 ^ 60 := Nat.pow_lt_pow_right (by decide) h
  have e : (2 : Int) ^ n = ((2 ^ n : Nat) : Int) := by rw [Int.natCast_pow]; rfl
  rw [e]
  generalize 2 ^ n = N at *
  have h2 : (N : Int) < 2 ^ 63 := by omega
  unfold wrap64
  omega
set_option maxRecDepth 100000 in
set_option maxHeartbeats 4000000 in
theorem Ring_New_bad (seed : List UInt8) (tall : Int) (ht : (Lit.int .i64 tall).wf = true) (hbad : tall < 0 ∨ 8 < tall) (w : World) : Calls Try.prog 14 #[.agg (bv seed).toArray, .int .i64 tall] w fun e w' => e = .returned (.tuple #[.pointer none, .int .i64 1]) ∧ Ext w w' := by
  have hx0 : Ext w (w.alloc (.cells (bv seed).toArray 31)) := (Ext.refl w).alloc _
  have HX0 := Lib.hid hx0
  clear hx0
  generalize bv seed = SC at *
  by_cases h : tall < 0
  · go_enter Try.func14, Try.ntmps14
    go_wp2
    go_ret2
    exact ⟨rfl, HX0.out⟩
  · obtain ⟨n, rfl⟩ : ∃ n : Nat, tall = n := ⟨tall.toNat, by omega⟩
    have h8 : 8 < n := by omega
    have h63 : n < 9223372036854775808 := by have h := ht; simp [Lit.wf, IntKind.bits, IntKind.signed, IntKind.min, IntKind.max] at h; omega
    clear hbad ht h
    by_cases h20 : n ≤ 20
    · have hw : wrap64 ((2 : Int) ^ n) = ((2 ^ n : Nat) : Int) := pow_wrap n (by omega)
      have hge : 2 ^ 9 ≤ 2 ^ n := Nat.pow_le_pow_right (by decide) (by omega)
      generalize 2 ^ n = N at hw hge
      go_enter Try.func14, Try.ntmps14
      go_wp2
      go_ret2
      exact ⟨rfl, HX0.out⟩
    · have hn20 : 20 < n := by omega
      have hw : wrap64 1048576 = 1048576 := by unfold wrap64; omega
      go_enter Try.func14, Try.ntmps14
      go_wp2
      all_goals first
        | (go_ret2; exact ⟨rfl, HX0.out⟩)
        | (have h5 : wrap64 ((2 : Int) ^ (if 20 < (n : Int) then 20 else (n : Int)).toNat) = 1048576 := by rw [if_pos (by omega)]; decide +kernel
           exfalso; omega)
end
end Go.Proofs.Ytpdkmapogncgmaa

/- Walks and plain laws, put together in build order. Conditions: what each of them names. -/
import Derived.Test.YtmicjaiiinaipaaWc93858a0e1
set_option linter.unusedVariables false
set_option linter.unusedSimpArgs false
set_option linter.unnecessarySimpa false
namespace Go.Proofs.Ytmicjaiiinaipaa
section
open Go.RowKit

/-- The signature that is none. -/
def zSig : List Value := sigC (bv (List.replicate 1024 0)) 0 (.slice none 0 0)
theorem zSig_zero : (Try.prog.info? 70).bind (fun i => i.zero.map (·.cells)) = some zSig.toArray := by
  have e : zSig = List.replicate 1024 (Value.int .u8 0) ++ [Value.int .u32 0, Value.slice none 0 0] := by
    unfold zSig sigC bv
    rw [List.map_replicate]
    rfl
  rw [e]; exact zOutTo05
theorem zSig_len : zSig.length = 1026 := sigC_len (by rw [bv_length, List.length_replicate]) _ _
theorem zSig_one : ∀ u ∈ zSig, u.oneCell' = true := sigC_one (bv_one _) 0 none 0 0
theorem exec_build0 {P : Program} {o : Oper} {a : Act} {v : Array Value} (w : World) (t : TypeId) (ho : o.op = .build t #[]) (hb : P.built t [] = some v) : (execOp a.eval o).run P w = .ok (.value (.agg v)) w := by
  unfold execOp
  simp only [ho]
  rw [Sem.run_bind, run_build w t _ v (by simpa using hb)]
  simp
theorem bools_set (tk : List Bool) (key : Nat) : (boolsC tk).set key (.bool true) = boolsC (tk.set key true) := by simp [boolsC, List.map_set]
theorem RingAt.take {w : World} {g tb : Nat} {F : Fp} {R : Value} {seed : List UInt8} {tall : Nat} {tk : List Bool} (h : RingAt w g tb F R seed tall tk) (key : Nat) : RingAt (w.setCell ⟨tb, key, none⟩ (.bool true)) g tb F R seed tall (tk.set key true) :=
  ⟨h.blk.keep (only_set key _) (by simp; exact Ne.symm h.ne), by rw [← bools_set]; exact h.tak.set key _, Ty.keep (fun b hb => (only_set key _).block b (h.fp b hb).1 (by have := (h.fp b hb).2.2; simpa using this)) (fun _ h => h) _ h.rows, h.ne, fun b hb => ⟨Nat.lt_of_lt_of_le (h.fp b hb).1 (only_set (g := tb) key (.bool true)).size, (h.fp b hb).2⟩, by rw [List.length_set]; exact h.len, h.low, h.seedl⟩
set_option maxRecDepth 100000 in
set_option maxHeartbeats 4000000 in
theorem Ring_Sign_nil (key : Nat) (d : Dg) (w : World) : Calls Try.prog 39 #[.pointer none, .int .u32 (key : Int), .agg (bv d).toArray] w fun e w' => e = .returned (.tuple #[.agg zSig.toArray, .int .i64 2]) ∧ Ext w w' := by
  obtain ⟨fields, hfu, hfp⟩ := fieldsTo05
  obtain ⟨ZR, hZR⟩ : ∃ ZR, ZR = zSig := ⟨_, rfl⟩
  have hzr := zSig_zero
  have hzl := zSig_len
  have hzo := zSig_one
  rw [← hZR] at hzr hzl hzo
  try rw [← hZR]
  have HZR := Lib.hid hZR
  clear hZR
  have hx0 : Ext w ((w.alloc (.cells (bv d).toArray 52)).alloc (.cells ZR.toArray 70)) := ((Ext.refl w).alloc _).alloc _
  have hbz : Blk ((w.alloc (.cells (bv d).toArray 52)).alloc (.cells ZR.toArray 70)) (w.heap.size + 1) 70 ZR := Blk.fresh (by simp) _ _
  have HBZ := Lib.hid hbz
  have HX0 := Lib.hid hx0
  have HZL := Lib.hid hzl
  have HBZ2 := HBZ
  have HX2 := HX0
  clear hx0 hbz hzl
  generalize bv d = DC at *
  go_enter Try.func39, Try.ntmps39
  go_wp2_with (first
    | ((with_reducible refine wpDst 6 rfl ?_); refine wpList_alloc _ rfl 70 rfl _ hzr ?_)
    | ((with_reducible refine wpDst 11 rfl ?_); go_must (refine wpList_build_st (.inl rfl) 70 #[] rfl fields ZR ZR _ [] hfu hzr hfp (by simp) rfl ?_))
    | ((with_reducible refine wpSto 6 11 rfl ?_); refine wpList_store_row _ rfl 70 (.tmp 6) (.tmp 11) rfl (w.heap.size + 1) rfl ZR ZR 70 rfl (by exact HBZ2.out) (szOutTo05 HZL.out) rfl hzo ?_)
    | ((with_reducible refine wpDst 17 rfl ?_); go_must (refine wpList_build_st (.inl rfl) 70 #[] rfl fields ZR ZR _ [] hfu hzr hfp (by simp) rfl ?_))
    | ((with_reducible refine wpSto 6 17 rfl ?_); refine wpList_store_row _ rfl 70 (.tmp 6) (.tmp 17) rfl (w.heap.size + 1) rfl ZR ZR 70 rfl (by exact HBZ2.out) (szOutTo05 HZL.out) rfl hzo ?_)
    | ((with_reducible refine wpDst 26 rfl ?_); go_must (refine wpList_build_st (.inl rfl) 70 #[] rfl fields ZR ZR _ [] hfu hzr hfp (by simp) rfl ?_))
    | ((with_reducible refine wpSto 6 26 rfl ?_); refine wpList_store_row _ rfl 70 (.tmp 6) (.tmp 26) rfl (w.heap.size + 1) rfl ZR ZR 70 rfl (by exact HBZ2.out) (szOutTo05 HZL.out) rfl hzo ?_)
    | fail)

  have hc9 := Blk.cells (t := 70) (setRow_at (cs' := ZR.toArray) HBZ2.out)
  (try simp only [Exit.inBlock, Exit.then])
  refine bodyPost_ret (results_agg_tmp rfl _ _ _ _ _ rfl Try.underlying70 rfl (szOutTo05 HZL.out) hc9) rfl ?_
  exact ⟨rfl, setRow_grown HX2.out _ _ (by omega)⟩
set_option maxRecDepth 100000 in
set_option maxHeartbeats 4000000 in
theorem Ring_Sign_arg {w : World} {g tb : Nat} {F : Fp} {R : Value} {seed : List UInt8} {tall : Nat} {tk : List Bool} (h : RingAt w g tb F R seed tall tk) (key : Nat) (hkey : (Lit.int .u32 (key : Int)).wf = true) (hk : ¬ key < 2 ^ tall) (d : Dg) : Calls Try.prog 39 #[.pointer (some ⟨g, 0, none⟩), .int .u32 (key : Int), .agg (bv d).toArray] w fun e w' => e = .returned (.tuple #[.agg zSig.toArray, .int .i64 1]) ∧ Ext w w' := by
  obtain ⟨fields, hfu, hfp⟩ := fieldsTo05
  obtain ⟨ZR, hZR⟩ : ∃ ZR, ZR = zSig := ⟨_, rfl⟩
  have hzr := zSig_zero
  have hzl := zSig_len
  have hzo := zSig_one
  rw [← hZR] at hzr hzl hzo
  try rw [← hZR]
  have HZR := Lib.hid hZR
  clear hZR
  have hx0 : Ext w ((w.alloc (.cells (bv d).toArray 52)).alloc (.cells ZR.toArray 70)) := ((Ext.refl w).alloc _).alloc _
  have hbz : Blk ((w.alloc (.cells (bv d).toArray 52)).alloc (.cells ZR.toArray 70)) (w.heap.size + 1) 70 ZR := Blk.fresh (by simp) _ _
  have HBZ := Lib.hid hbz
  have HX0 := Lib.hid hx0
  have HZL := Lib.hid hzl
  have hin := Ring_in (h.ext hx0) key hkey
  rw [decide_eq_false hk] at hin
  have HIN := Lib.hid hin
  clear hx0 hbz hzl hin h hk
  generalize bv d = DC at *
  go_enter Try.func39, Try.ntmps39
  go_wp2_with (first
    | ((with_reducible refine wpDst 6 rfl ?_); refine wpList_alloc _ rfl 70 rfl _ hzr ?_)
    | ((with_reducible refine wpDst 11 rfl ?_); go_must (refine wpList_build_st (.inl rfl) 70 #[] rfl fields ZR ZR _ [] hfu hzr hfp (by simp) rfl ?_))
    | ((with_reducible refine wpSto 6 11 rfl ?_); refine wpList_store_row _ rfl 70 (.tmp 6) (.tmp 11) rfl (w.heap.size + 1) rfl ZR ZR 70 rfl (by exact HBZ2.out) (szOutTo05 HZL.out) rfl hzo ?_)
    | ((with_reducible refine wpDst 17 rfl ?_); go_must (refine wpList_build_st (.inl rfl) 70 #[] rfl fields ZR ZR _ [] hfu hzr hfp (by simp) rfl ?_))
    | ((with_reducible refine wpSto 6 17 rfl ?_); refine wpList_store_row _ rfl 70 (.tmp 6) (.tmp 17) rfl (w.heap.size + 1) rfl ZR ZR 70 rfl (by exact HBZ2.out) (szOutTo05 HZL.out) rfl hzo ?_)
    | ((with_reducible refine wpDst 26 rfl ?_); go_must (refine wpList_build_st (.inl rfl) 70 #[] rfl fields ZR ZR _ [] hfu hzr hfp (by simp) rfl ?_))
    | ((with_reducible refine wpSto 6 26 rfl ?_); refine wpList_store_row _ rfl 70 (.tmp 6) (.tmp 26) rfl (w.heap.size + 1) rfl ZR ZR 70 rfl (by exact HBZ2.out) (szOutTo05 HZL.out) rfl hzo ?_)
    | (go_at_call 59; refine HIN.out.mono ?_; rintro e w1 ⟨rfl, hx1⟩
       have HBZ2 := Lib.hid (HBZ.out.keep hx1 (by simp))
       have HX2 := Lib.hid (HX0.out.trans hx1))
    | fail)

  have hc9 := Blk.cells (t := 70) (setRow_at (cs' := ZR.toArray) HBZ2.out)
  (try simp only [Exit.inBlock, Exit.then])
  refine bodyPost_ret (results_agg_tmp rfl _ _ _ _ _ rfl Try.underlying70 rfl (szOutTo05 HZL.out) hc9) rfl ?_
  exact ⟨rfl, setRow_grown HX2.out _ _ (by omega)⟩
set_option maxRecDepth 100000 in
set_option maxHeartbeats 4000000 in
theorem Ring_Sign_no {w : World} {g tb : Nat} {F : Fp} {R : Value} {seed : List UInt8} {tall : Nat} {tk : List Bool} (h : RingAt w g tb F R seed tall tk) (key : Nat) (hkey : (Lit.int .u32 (key : Int)).wf = true) (hk : key < 2 ^ tall) (ht : takenM tk key = true) (d : Dg) : Calls Try.prog 39 #[.pointer (some ⟨g, 0, none⟩), .int .u32 (key : Int), .agg (bv d).toArray] w fun e w' => e = .returned (.tuple #[.agg zSig.toArray, .int .i64 21]) ∧ Ext w w' := by
  obtain ⟨fields, hfu, hfp⟩ := fieldsTo05
  obtain ⟨ZR, hZR⟩ : ∃ ZR, ZR = zSig := ⟨_, rfl⟩
  have hzr := zSig_zero
  have hzl := zSig_len
  have hzo := zSig_one
  rw [← hZR] at hzr hzl hzo
  try rw [← hZR]
  have HZR := Lib.hid hZR
  clear hZR
  have hx0 : Ext w ((w.alloc (.cells (bv d).toArray 52)).alloc (.cells ZR.toArray 70)) := ((Ext.refl w).alloc _).alloc _
  have hbz : Blk ((w.alloc (.cells (bv d).toArray 52)).alloc (.cells ZR.toArray 70)) (w.heap.size + 1) 70 ZR := Blk.fresh (by simp) _ _
  have HBZ := Lib.hid hbz
  have HX0 := Lib.hid hx0
  have HZL := Lib.hid hzl
  have hin := Ring_in (h.ext hx0) key hkey
  rw [decide_eq_true hk] at hin
  have hp := pow_low h.low
  have HIN := Lib.hid hin
  have HH := Lib.hid (h.ext hx0)
  have HK := Lib.hid hk
  have HT := Lib.hid ht
  clear hx0 hbz hzl hin h ht
  generalize bv d = DC at *
  go_enter Try.func39, Try.ntmps39
  go_wp2_with (first
    | ((with_reducible refine wpDst 6 rfl ?_); refine wpList_alloc _ rfl 70 rfl _ hzr ?_)
    | ((with_reducible refine wpDst 11 rfl ?_); go_must (refine wpList_build_st (.inl rfl) 70 #[] rfl fields ZR ZR _ [] hfu hzr hfp (by simp) rfl ?_))
    | ((with_reducible refine wpSto 6 11 rfl ?_); refine wpList_store_row _ rfl 70 (.tmp 6) (.tmp 11) rfl (w.heap.size + 1) rfl ZR ZR 70 rfl (by exact HBZ2.out) (szOutTo05 HZL.out) rfl hzo ?_)
    | ((with_reducible refine wpDst 17 rfl ?_); go_must (refine wpList_build_st (.inl rfl) 70 #[] rfl fields ZR ZR _ [] hfu hzr hfp (by simp) rfl ?_))
    | ((with_reducible refine wpSto 6 17 rfl ?_); refine wpList_store_row _ rfl 70 (.tmp 6) (.tmp 17) rfl (w.heap.size + 1) rfl ZR ZR 70 rfl (by exact HBZ2.out) (szOutTo05 HZL.out) rfl hzo ?_)
    | ((with_reducible refine wpDst 26 rfl ?_); go_must (refine wpList_build_st (.inl rfl) 70 #[] rfl fields ZR ZR _ [] hfu hzr hfp (by simp) rfl ?_))
    | ((with_reducible refine wpSto 6 26 rfl ?_); refine wpList_store_row _ rfl 70 (.tmp 6) (.tmp 26) rfl (w.heap.size + 1) rfl ZR ZR 70 rfl (by exact HBZ2.out) (szOutTo05 HZL.out) rfl hzo ?_)
    | (go_at_call 59; refine HIN.out.mono ?_; rintro e w1 ⟨rfl, hx1⟩
       have HBZ2 := Lib.hid (HBZ.out.keep hx1 (by simp))
       have HX2 := Lib.hid (HX0.out.trans hx1)
       have HR1 := Lib.hid (HH.out.ext hx1)
       have c34 := (HR1.out.blk.cell 34).trans (ringC_taken HR1.out.seedl tall R _)
       have ck := bools_at HR1.out HK.out
       rw [HT.out] at ck
       have hk32 : key < 4294967296 := by have := HK.out; omega
       have hkl := HK.out
       generalize 2 ^ tall = n at *)
    | fail)

  have hc9 := Blk.cells (t := 70) (setRow_at (cs' := ZR.toArray) HBZ2.out)
  (try simp only [Exit.inBlock, Exit.then])
  refine bodyPost_ret (results_agg_tmp rfl _ _ _ _ _ rfl Try.underlying70 rfl (szOutTo05 HZL.out) hc9) rfl ?_
  exact ⟨rfl, setRow_grown HX2.out _ _ (by omega)⟩
set_option maxRecDepth 100000 in
set_option maxHeartbeats 8000000 in
theorem Ring_Sign {w : World} {g tb : Nat} {F : Fp} {R : Value} {seed : List UInt8} {tall : Nat} {tk : List Bool} (h : RingAt w g tb F R seed tall tk) (key : Nat) (hkey : (Lit.int .u32 (key : Int)).wf = true) (hk : key < 2 ^ tall) (ht : takenM tk key = false) (d : Dg) (hd : List.length (α := UInt8) d = 32) : Calls Try.prog 39 #[.pointer (some ⟨g, 0, none⟩), .int .u32 (key : Int), .agg (bv d).toArray] w fun e w' => ∃ v, e = .returned (.tuple #[.agg (sigC (bv (signM seed key d)) key v).toArray, .int .i64 0]) ∧ OwnD 52 w' v (wayM seed tall key) ∧ RingAt w' g tb F R seed tall (tk.set key true) ∧ w.grownBy w' (some tb) ∧ ∀ b, v.ownBlock = some b → w.heap.size ≤ b := by
  obtain ⟨fields, hfu, hfp⟩ := fieldsTo05
  obtain ⟨ZR, hZR⟩ : ∃ ZR, ZR = zSig := ⟨_, rfl⟩
  have hzr := zSig_zero
  have hzl := zSig_len
  have hzo := zSig_one
  rw [← hZR] at hzr hzl hzo
  try rw [← hZR]
  have HZR := Lib.hid hZR
  clear hZR
  have hx0 : Ext w ((w.alloc (.cells (bv d).toArray 52)).alloc (.cells ZR.toArray 70)) := ((Ext.refl w).alloc _).alloc _
  have hbz : Blk ((w.alloc (.cells (bv d).toArray 52)).alloc (.cells ZR.toArray 70)) (w.heap.size + 1) 70 ZR := Blk.fresh (by simp) _ _
  have HBZ := Lib.hid hbz
  have HX0 := Lib.hid hx0
  have HZL := Lib.hid hzl
  have hbd : Blk ((w.alloc (.cells (bv d).toArray 52)).alloc (.cells ZR.toArray 70)) w.heap.size 52 (bv d) := (Blk.new _ _ _).keep ((Ext.refl _).alloc _) (by simp)
  have h9 : Hid (tb < w.heap.size) := Lib.hid h.tak.lt
  have HGLT : Hid (g < w.heap.size) := Lib.hid h.blk.lt
  have HFLT : Hid (∀ b, F b → b < w.heap.size) := Lib.hid fun b hb => (h.fp b hb).1
  have hdl : (bv d).length = 32 := by rw [bv_length]; exact hd
  have HD := Lib.hid hbd
  have HDL := Lib.hid hdl
  have hgl : (bv (signM seed key d)).length = 1024 := by rw [bv_length]; exact signM_length _ _ _
  have hgo := bv_one (signM seed key d)
  have HGL := Lib.hid hgl
  have hin := Ring_in (h.ext hx0) key hkey
  rw [decide_eq_true hk] at hin
  have hp := pow_low h.low
  have HIN := Lib.hid hin
  have HH := Lib.hid (h.ext hx0)
  have HK := Lib.hid hk
  have HT := Lib.hid ht
  clear hx0 hbz hzl hin h ht
  have hsh := fun (W : World) (tk' : List Bool) (hW : RingAt W g tb F R seed tall tk') => Ring_show hW key hk d hd
  have HSH := Lib.hid hsh
  have HSG0 : Hid (bv (signM seed key d) = bv (signM seed key d)) := Lib.hid rfl
  obtain ⟨SG, hSG⟩ : ∃ SG, SG = bv (signM seed key d) := ⟨_, rfl⟩
  rw [← hSG] at HGL hgo HSH ⊢
  clear hsh hgl hSG HSG0 hbd hdl
  generalize bv d = DC at *
  go_enter Try.func39, Try.ntmps39
  go_wp2_with (first
    | ((with_reducible refine wpDst 6 rfl ?_); refine wpList_alloc _ rfl 70 rfl _ hzr ?_)
    | ((with_reducible refine wpDst 11 rfl ?_); go_must (refine wpList_build_st (.inl rfl) 70 #[] rfl fields ZR ZR _ [] hfu hzr hfp (by simp) rfl ?_))
    | ((with_reducible refine wpSto 6 11 rfl ?_); refine wpList_store_row _ rfl 70 (.tmp 6) (.tmp 11) rfl (w.heap.size + 1) rfl ZR ZR 70 rfl (by exact HBZ2.out) (szOutTo05 HZL.out) rfl hzo ?_)
    | ((with_reducible refine wpDst 17 rfl ?_); go_must (refine wpList_build_st (.inl rfl) 70 #[] rfl fields ZR ZR _ [] hfu hzr hfp (by simp) rfl ?_))
    | ((with_reducible refine wpSto 6 17 rfl ?_); refine wpList_store_row _ rfl 70 (.tmp 6) (.tmp 17) rfl (w.heap.size + 1) rfl ZR ZR 70 rfl (by exact HBZ2.out) (szOutTo05 HZL.out) rfl hzo ?_)
    | ((with_reducible refine wpDst 26 rfl ?_); go_must (refine wpList_build_st (.inl rfl) 70 #[] rfl fields ZR ZR _ [] hfu hzr hfp (by simp) rfl ?_))
    | ((with_reducible refine wpSto 6 26 rfl ?_); refine wpList_store_row _ rfl 70 (.tmp 6) (.tmp 26) rfl (w.heap.size + 1) rfl ZR ZR 70 rfl (by exact HBZ2.out) (szOutTo05 HZL.out) rfl hzo ?_)
    | (go_at_call 59; refine HIN.out.mono ?_; rintro e w1 ⟨rfl, hx1⟩
       have HBZ2 := Lib.hid (HBZ.out.keep hx1 (by simp))
       have HX2 := Lib.hid (HX0.out.trans hx1)
       have HR1 := Lib.hid (HH.out.ext hx1)
       have c34 := (HR1.out.blk.cell 34).trans (ringC_taken HR1.out.seedl tall R _)
       have ck := bools_at HR1.out HK.out
       rw [HT.out] at ck
       have hk32 : key < 4294967296 := by have := HK.out; omega
       have hkl := HK.out
       have f9 := HR1.out.tak.free key
       have HD1 := Lib.hid (HD.out.keep hx1 (by simp))
       have hd1 := (HD1.out.keep (only_set (g := tb) key (.bool true)) (by have := h9.out; simp; omega)).cells
       have HRT := Lib.hid (HR1.out.take key))
    | ((with_reducible refine wpDst 35 rfl ?_); refine wpList_load_agg _ rfl 52 (.tmp 5) rfl _ rfl DC _ Try.underlying52 rfl (digest_size HDL.out) (by exact hd1) ?_)
    | (go_at_call 60; refine (HSH.out _ _ HRT.out).mono ?_; rintro e w3 ⟨v, rfl, hov, hx3, hvn⟩
       obtain ⟨A3, c3, hv3⟩ := hov.2.form
       have hmone : ∀ u ∈ sigC SG key v, u.oneCell' = true := by rw [hv3]; exact sigC_one hgo _ _ _ _
       clear hv3
       have hml := sigC_len HGL.out key v
       have HBZ3 := Lib.hid ((HBZ2.out.keep (only_set (g := tb) key (.bool true)) (by have := h9.out; simp; omega)).keep hx3 (by simp)))
    | ((with_reducible refine wpSto 6 36 rfl ?_); go_must (refine wpList_store_row _ rfl 70 (.tmp 6) (.tmp 36) rfl (w.heap.size + 1) rfl ZR (sigC SG key v) 70 rfl (by exact HBZ3.out) (szOutTo05 hml) (by rw [hml, HZL.out]) hmone ?_))
    | fail)
  have hc9 := Blk.cells (t := 70) (setRow_at (cs' := (sigC SG key v).toArray) HBZ3.out)
  (try simp only [Exit.inBlock, Exit.then])
  refine bodyPost_ret (results_agg_tmp rfl _ _ _ _ _ rfl Try.underlying70 rfl (szOutTo05 hml) hc9) rfl ?_
  have hvn2 : ∀ b, v.ownBlock = some b → w.heap.size + 2 ≤ b := fun b hb => by
    have h1 := hvn b hb
    have h2 := hx1.size
    simp at h1 h2
    omega
  have hov2 : OwnD 52 (w3.setRow (w.heap.size + 1) (sigC SG key v).toArray) v (wayM seed tall key) := by
    refine ⟨hov.1, hov.2.keep (row := some (w.heap.size + 1)) (setRow_only _) ?_⟩
    cases hvb : v.ownBlock with
    | none => exact .inl rfl
    | some b => exact .inr (by have := hvn2 b hvb; simp; omega)
  have hg1 : w.grownBy w3 (some tb) := World.grownBy.trans (World.grownBy.trans (HX2.out.any (some tb)) (only_set key (.bool true))) (hx3.any _)
  refine ⟨v, rfl, hov2, (HRT.out.ext hx3).keep (row := some (w.heap.size + 1)) (setRow_only _) (by have := HGLT.out; simp; omega) (by have := h9.out; simp; omega) (fun b hb => by have := HFLT.out b hb; simp; omega), setRow_grown hg1 _ _ (by omega), fun b hb => by have := hvn2 b hb; omega⟩
set_option maxRecDepth 100000 in
set_option maxHeartbeats 4000000 in
theorem Ring_Again_nil (key : Nat) (d : Dg) (w : World) : Calls Try.prog 41 #[.pointer none, .int .u32 (key : Int), .agg (bv d).toArray] w fun e w' => e = .returned (.tuple #[.agg zSig.toArray, .int .i64 2]) ∧ Ext w w' := by
  obtain ⟨fields, hfu, hfp⟩ := fieldsTo05
  obtain ⟨ZR, hZR⟩ : ∃ ZR, ZR = zSig := ⟨_, rfl⟩
  have hzr := zSig_zero
  have hzl := zSig_len
  have hzo := zSig_one
  rw [← hZR] at hzr hzl hzo
  try rw [← hZR]
  have HZR := Lib.hid hZR
  clear hZR
  have hx0 : Ext w ((w.alloc (.cells (bv d).toArray 52)).alloc (.cells ZR.toArray 70)) := ((Ext.refl w).alloc _).alloc _
  have hbz : Blk ((w.alloc (.cells (bv d).toArray 52)).alloc (.cells ZR.toArray 70)) (w.heap.size + 1) 70 ZR := Blk.fresh (by simp) _ _
  have HBZ := Lib.hid hbz
  have HX0 := Lib.hid hx0
  have HZL := Lib.hid hzl
  have HBZ2 := HBZ
  have HX2 := HX0
  clear hx0 hbz hzl
  generalize bv d = DC at *
  go_enter Try.func41, Try.ntmps41
  go_wp2_with (first
    | ((with_reducible refine wpDst 6 rfl ?_); refine wpList_alloc _ rfl 70 rfl _ hzr ?_)
    | ((with_reducible refine wpDst 11 rfl ?_); go_must (refine wpList_build_st (.inl rfl) 70 #[] rfl fields ZR ZR _ [] hfu hzr hfp (by simp) rfl ?_))
    | ((with_reducible refine wpSto 6 11 rfl ?_); refine wpList_store_row _ rfl 70 (.tmp 6) (.tmp 11) rfl (w.heap.size + 1) rfl ZR ZR 70 rfl (by exact HBZ2.out) (szOutTo05 HZL.out) rfl hzo ?_)
    | ((with_reducible refine wpDst 17 rfl ?_); go_must (refine wpList_build_st (.inl rfl) 70 #[] rfl fields ZR ZR _ [] hfu hzr hfp (by simp) rfl ?_))
    | ((with_reducible refine wpSto 6 17 rfl ?_); refine wpList_store_row _ rfl 70 (.tmp 6) (.tmp 17) rfl (w.heap.size + 1) rfl ZR ZR 70 rfl (by exact HBZ2.out) (szOutTo05 HZL.out) rfl hzo ?_)
    | ((with_reducible refine wpDst 27 rfl ?_); go_must (refine wpList_build_st (.inl rfl) 70 #[] rfl fields ZR ZR _ [] hfu hzr hfp (by simp) rfl ?_))
    | ((with_reducible refine wpSto 6 27 rfl ?_); refine wpList_store_row _ rfl 70 (.tmp 6) (.tmp 27) rfl (w.heap.size + 1) rfl ZR ZR 70 rfl (by exact HBZ2.out) (szOutTo05 HZL.out) rfl hzo ?_)
    | fail)

  have hc9 := Blk.cells (t := 70) (setRow_at (cs' := ZR.toArray) HBZ2.out)
  (try simp only [Exit.inBlock, Exit.then])
  refine bodyPost_ret (results_agg_tmp rfl _ _ _ _ _ rfl Try.underlying70 rfl (szOutTo05 HZL.out) hc9) rfl ?_
  exact ⟨rfl, setRow_grown HX2.out _ _ (by omega)⟩
set_option maxRecDepth 100000 in
set_option maxHeartbeats 4000000 in
theorem Ring_Again_arg {w : World} {g tb : Nat} {F : Fp} {R : Value} {seed : List UInt8} {tall : Nat} {tk : List Bool} (h : RingAt w g tb F R seed tall tk) (key : Nat) (hkey : (Lit.int .u32 (key : Int)).wf = true) (hk : ¬ key < 2 ^ tall) (d : Dg) : Calls Try.prog 41 #[.pointer (some ⟨g, 0, none⟩), .int .u32 (key : Int), .agg (bv d).toArray] w fun e w' => e = .returned (.tuple #[.agg zSig.toArray, .int .i64 1]) ∧ Ext w w' := by
  obtain ⟨fields, hfu, hfp⟩ := fieldsTo05
  obtain ⟨ZR, hZR⟩ : ∃ ZR, ZR = zSig := ⟨_, rfl⟩
  have hzr := zSig_zero
  have hzl := zSig_len
  have hzo := zSig_one
  rw [← hZR] at hzr hzl hzo
  try rw [← hZR]
  have HZR := Lib.hid hZR
  clear hZR
  have hx0 : Ext w ((w.alloc (.cells (bv d).toArray 52)).alloc (.cells ZR.toArray 70)) := ((Ext.refl w).alloc _).alloc _
  have hbz : Blk ((w.alloc (.cells (bv d).toArray 52)).alloc (.cells ZR.toArray 70)) (w.heap.size + 1) 70 ZR := Blk.fresh (by simp) _ _
  have HBZ := Lib.hid hbz
  have HX0 := Lib.hid hx0
  have HZL := Lib.hid hzl
  have hin := Ring_in (h.ext hx0) key hkey
  rw [decide_eq_false hk] at hin
  have HIN := Lib.hid hin
  clear hx0 hbz hzl hin h hk
  generalize bv d = DC at *
  go_enter Try.func41, Try.ntmps41
  go_wp2_with (first
    | ((with_reducible refine wpDst 6 rfl ?_); refine wpList_alloc _ rfl 70 rfl _ hzr ?_)
    | ((with_reducible refine wpDst 11 rfl ?_); go_must (refine wpList_build_st (.inl rfl) 70 #[] rfl fields ZR ZR _ [] hfu hzr hfp (by simp) rfl ?_))
    | ((with_reducible refine wpSto 6 11 rfl ?_); refine wpList_store_row _ rfl 70 (.tmp 6) (.tmp 11) rfl (w.heap.size + 1) rfl ZR ZR 70 rfl (by exact HBZ2.out) (szOutTo05 HZL.out) rfl hzo ?_)
    | ((with_reducible refine wpDst 17 rfl ?_); go_must (refine wpList_build_st (.inl rfl) 70 #[] rfl fields ZR ZR _ [] hfu hzr hfp (by simp) rfl ?_))
    | ((with_reducible refine wpSto 6 17 rfl ?_); refine wpList_store_row _ rfl 70 (.tmp 6) (.tmp 17) rfl (w.heap.size + 1) rfl ZR ZR 70 rfl (by exact HBZ2.out) (szOutTo05 HZL.out) rfl hzo ?_)
    | ((with_reducible refine wpDst 27 rfl ?_); go_must (refine wpList_build_st (.inl rfl) 70 #[] rfl fields ZR ZR _ [] hfu hzr hfp (by simp) rfl ?_))
    | ((with_reducible refine wpSto 6 27 rfl ?_); refine wpList_store_row _ rfl 70 (.tmp 6) (.tmp 27) rfl (w.heap.size + 1) rfl ZR ZR 70 rfl (by exact HBZ2.out) (szOutTo05 HZL.out) rfl hzo ?_)
    | (go_at_call 59; refine HIN.out.mono ?_; rintro e w1 ⟨rfl, hx1⟩
       have HBZ2 := Lib.hid (HBZ.out.keep hx1 (by simp))
       have HX2 := Lib.hid (HX0.out.trans hx1))
    | fail)

  have hc9 := Blk.cells (t := 70) (setRow_at (cs' := ZR.toArray) HBZ2.out)
  (try simp only [Exit.inBlock, Exit.then])
  refine bodyPost_ret (results_agg_tmp rfl _ _ _ _ _ rfl Try.underlying70 rfl (szOutTo05 HZL.out) hc9) rfl ?_
  exact ⟨rfl, setRow_grown HX2.out _ _ (by omega)⟩
set_option maxRecDepth 100000 in
set_option maxHeartbeats 4000000 in
theorem Ring_Again_no {w : World} {g tb : Nat} {F : Fp} {R : Value} {seed : List UInt8} {tall : Nat} {tk : List Bool} (h : RingAt w g tb F R seed tall tk) (key : Nat) (hkey : (Lit.int .u32 (key : Int)).wf = true) (hk : key < 2 ^ tall) (ht : takenM tk key = false) (d : Dg) : Calls Try.prog 41 #[.pointer (some ⟨g, 0, none⟩), .int .u32 (key : Int), .agg (bv d).toArray] w fun e w' => e = .returned (.tuple #[.agg zSig.toArray, .int .i64 6]) ∧ Ext w w' := by
  obtain ⟨fields, hfu, hfp⟩ := fieldsTo05
  obtain ⟨ZR, hZR⟩ : ∃ ZR, ZR = zSig := ⟨_, rfl⟩
  have hzr := zSig_zero
  have hzl := zSig_len
  have hzo := zSig_one
  rw [← hZR] at hzr hzl hzo
  try rw [← hZR]
  have HZR := Lib.hid hZR
  clear hZR
  have hx0 : Ext w ((w.alloc (.cells (bv d).toArray 52)).alloc (.cells ZR.toArray 70)) := ((Ext.refl w).alloc _).alloc _
  have hbz : Blk ((w.alloc (.cells (bv d).toArray 52)).alloc (.cells ZR.toArray 70)) (w.heap.size + 1) 70 ZR := Blk.fresh (by simp) _ _
  have HBZ := Lib.hid hbz
  have HX0 := Lib.hid hx0
  have HZL := Lib.hid hzl
  have hin := Ring_in (h.ext hx0) key hkey
  rw [decide_eq_true hk] at hin
  have hp := pow_low h.low
  have HIN := Lib.hid hin
  have HH := Lib.hid (h.ext hx0)
  have HK := Lib.hid hk
  have HT := Lib.hid ht
  clear hx0 hbz hzl hin h ht
  generalize bv d = DC at *
  go_enter Try.func41, Try.ntmps41
  go_wp2_with (first
    | ((with_reducible refine wpDst 6 rfl ?_); refine wpList_alloc _ rfl 70 rfl _ hzr ?_)
    | ((with_reducible refine wpDst 11 rfl ?_); go_must (refine wpList_build_st (.inl rfl) 70 #[] rfl fields ZR ZR _ [] hfu hzr hfp (by simp) rfl ?_))
    | ((with_reducible refine wpSto 6 11 rfl ?_); refine wpList_store_row _ rfl 70 (.tmp 6) (.tmp 11) rfl (w.heap.size + 1) rfl ZR ZR 70 rfl (by exact HBZ2.out) (szOutTo05 HZL.out) rfl hzo ?_)
    | ((with_reducible refine wpDst 17 rfl ?_); go_must (refine wpList_build_st (.inl rfl) 70 #[] rfl fields ZR ZR _ [] hfu hzr hfp (by simp) rfl ?_))
    | ((with_reducible refine wpSto 6 17 rfl ?_); refine wpList_store_row _ rfl 70 (.tmp 6) (.tmp 17) rfl (w.heap.size + 1) rfl ZR ZR 70 rfl (by exact HBZ2.out) (szOutTo05 HZL.out) rfl hzo ?_)
    | ((with_reducible refine wpDst 27 rfl ?_); go_must (refine wpList_build_st (.inl rfl) 70 #[] rfl fields ZR ZR _ [] hfu hzr hfp (by simp) rfl ?_))
    | ((with_reducible refine wpSto 6 27 rfl ?_); refine wpList_store_row _ rfl 70 (.tmp 6) (.tmp 27) rfl (w.heap.size + 1) rfl ZR ZR 70 rfl (by exact HBZ2.out) (szOutTo05 HZL.out) rfl hzo ?_)
    | (go_at_call 59; refine HIN.out.mono ?_; rintro e w1 ⟨rfl, hx1⟩
       have HBZ2 := Lib.hid (HBZ.out.keep hx1 (by simp))
       have HX2 := Lib.hid (HX0.out.trans hx1)
       have HR1 := Lib.hid (HH.out.ext hx1)
       have c34 := (HR1.out.blk.cell 34).trans (ringC_taken HR1.out.seedl tall R _)
       have ck := bools_at HR1.out HK.out
       rw [HT.out] at ck
       have hk32 : key < 4294967296 := by have := HK.out; omega
       have hkl := HK.out
       generalize 2 ^ tall = n at *)
    | fail)

  have hc9 := Blk.cells (t := 70) (setRow_at (cs' := ZR.toArray) HBZ2.out)
  (try simp only [Exit.inBlock, Exit.then])
  refine bodyPost_ret (results_agg_tmp rfl _ _ _ _ _ rfl Try.underlying70 rfl (szOutTo05 HZL.out) hc9) rfl ?_
  exact ⟨rfl, setRow_grown HX2.out _ _ (by omega)⟩
set_option maxRecDepth 100000 in
set_option maxHeartbeats 8000000 in
theorem Ring_Again {w : World} {g tb : Nat} {F : Fp} {R : Value} {seed : List UInt8} {tall : Nat} {tk : List Bool} (h : RingAt w g tb F R seed tall tk) (key : Nat) (hkey : (Lit.int .u32 (key : Int)).wf = true) (hk : key < 2 ^ tall) (ht : takenM tk key = true) (d : Dg) (hd : List.length (α := UInt8) d = 32) : Calls Try.prog 41 #[.pointer (some ⟨g, 0, none⟩), .int .u32 (key : Int), .agg (bv d).toArray] w fun e w' => ∃ v, e = .returned (.tuple #[.agg (sigC (bv (signM seed key d)) key v).toArray, .int .i64 0]) ∧ OwnD 52 w' v (wayM seed tall key) ∧ Ext w w' ∧ ∀ b, v.ownBlock = some b → w.heap.size ≤ b := by
  obtain ⟨fields, hfu, hfp⟩ := fieldsTo05
  obtain ⟨ZR, hZR⟩ : ∃ ZR, ZR = zSig := ⟨_, rfl⟩
  have hzr := zSig_zero
  have hzl := zSig_len
  have hzo := zSig_one
  rw [← hZR] at hzr hzl hzo
  try rw [← hZR]
  have HZR := Lib.hid hZR
  clear hZR
  have hx0 : Ext w ((w.alloc (.cells (bv d).toArray 52)).alloc (.cells ZR.toArray 70)) := ((Ext.refl w).alloc _).alloc _
  have hbz : Blk ((w.alloc (.cells (bv d).toArray 52)).alloc (.cells ZR.toArray 70)) (w.heap.size + 1) 70 ZR := Blk.fresh (by simp) _ _
  have HBZ := Lib.hid hbz
  have HX0 := Lib.hid hx0
  have HZL := Lib.hid hzl
  have hbd : Blk ((w.alloc (.cells (bv d).toArray 52)).alloc (.cells ZR.toArray 70)) w.heap.size 52 (bv d) := (Blk.new _ _ _).keep ((Ext.refl _).alloc _) (by simp)
  have h9 : Hid (tb < w.heap.size) := Lib.hid h.tak.lt
  have HGLT : Hid (g < w.heap.size) := Lib.hid h.blk.lt
  have HFLT : Hid (∀ b, F b → b < w.heap.size) := Lib.hid fun b hb => (h.fp b hb).1
  have hdl : (bv d).length = 32 := by rw [bv_length]; exact hd
  have HD := Lib.hid hbd
  have HDL := Lib.hid hdl
  have hgl : (bv (signM seed key d)).length = 1024 := by rw [bv_length]; exact signM_length _ _ _
  have hgo := bv_one (signM seed key d)
  have HGL := Lib.hid hgl
  have hin := Ring_in (h.ext hx0) key hkey
  rw [decide_eq_true hk] at hin
  have hp := pow_low h.low
  have HIN := Lib.hid hin
  have HH := Lib.hid (h.ext hx0)
  have HK := Lib.hid hk
  have HT := Lib.hid ht
  clear hx0 hbz hzl hin h ht
  have hsh := fun (W : World) (tk' : List Bool) (hW : RingAt W g tb F R seed tall tk') => Ring_show hW key hk d hd
  have HSH := Lib.hid hsh
  have HSG0 : Hid (bv (signM seed key d) = bv (signM seed key d)) := Lib.hid rfl
  obtain ⟨SG, hSG⟩ : ∃ SG, SG = bv (signM seed key d) := ⟨_, rfl⟩
  rw [← hSG] at HGL hgo HSH ⊢
  clear hsh hgl hSG HSG0 hbd hdl
  generalize bv d = DC at *
  go_enter Try.func41, Try.ntmps41
  go_wp2_with (first
    | ((with_reducible refine wpDst 6 rfl ?_); refine wpList_alloc _ rfl 70 rfl _ hzr ?_)
    | ((with_reducible refine wpDst 11 rfl ?_); go_must (refine wpList_build_st (.inl rfl) 70 #[] rfl fields ZR ZR _ [] hfu hzr hfp (by simp) rfl ?_))
    | ((with_reducible refine wpSto 6 11 rfl ?_); refine wpList_store_row _ rfl 70 (.tmp 6) (.tmp 11) rfl (w.heap.size + 1) rfl ZR ZR 70 rfl (by exact HBZ2.out) (szOutTo05 HZL.out) rfl hzo ?_)
    | ((with_reducible refine wpDst 17 rfl ?_); go_must (refine wpList_build_st (.inl rfl) 70 #[] rfl fields ZR ZR _ [] hfu hzr hfp (by simp) rfl ?_))
    | ((with_reducible refine wpSto 6 17 rfl ?_); refine wpList_store_row _ rfl 70 (.tmp 6) (.tmp 17) rfl (w.heap.size + 1) rfl ZR ZR 70 rfl (by exact HBZ2.out) (szOutTo05 HZL.out) rfl hzo ?_)
    | ((with_reducible refine wpDst 27 rfl ?_); go_must (refine wpList_build_st (.inl rfl) 70 #[] rfl fields ZR ZR _ [] hfu hzr hfp (by simp) rfl ?_))
    | ((with_reducible refine wpSto 6 27 rfl ?_); refine wpList_store_row _ rfl 70 (.tmp 6) (.tmp 27) rfl (w.heap.size + 1) rfl ZR ZR 70 rfl (by exact HBZ2.out) (szOutTo05 HZL.out) rfl hzo ?_)
    | (go_at_call 59; refine HIN.out.mono ?_; rintro e w1 ⟨rfl, hx1⟩
       have HBZ2 := Lib.hid (HBZ.out.keep hx1 (by simp))
       have HX2 := Lib.hid (HX0.out.trans hx1)
       have HR1 := Lib.hid (HH.out.ext hx1)
       have c34 := (HR1.out.blk.cell 34).trans (ringC_taken HR1.out.seedl tall R _)
       have ck := bools_at HR1.out HK.out
       rw [HT.out] at ck
       have hk32 : key < 4294967296 := by have := HK.out; omega
       have hkl := HK.out
       have hd1 := (HD.out.keep hx1 (by simp)).cells
       have HRT := HR1)
    | ((with_reducible refine wpDst 30 rfl ?_); refine wpList_load_agg _ rfl 52 (.tmp 5) rfl _ rfl DC _ Try.underlying52 rfl (digest_size HDL.out) (by exact hd1) ?_)
    | (go_at_call 60; refine (HSH.out _ _ HRT.out).mono ?_; rintro e w3 ⟨v, rfl, hov, hx3, hvn⟩
       obtain ⟨A3, c3, hv3⟩ := hov.2.form
       have hmone : ∀ u ∈ sigC SG key v, u.oneCell' = true := by rw [hv3]; exact sigC_one hgo _ _ _ _
       clear hv3
       have hml := sigC_len HGL.out key v
       have HBZ3 := Lib.hid (HBZ2.out.keep hx3 (by simp)))
    | ((with_reducible refine wpSto 6 31 rfl ?_); go_must (refine wpList_store_row _ rfl 70 (.tmp 6) (.tmp 31) rfl (w.heap.size + 1) rfl ZR (sigC SG key v) 70 rfl (by exact HBZ3.out) (szOutTo05 hml) (by rw [hml, HZL.out]) hmone ?_))
    | fail)
  have hc9 := Blk.cells (t := 70) (setRow_at (cs' := (sigC SG key v).toArray) HBZ3.out)
  (try simp only [Exit.inBlock, Exit.then])
  refine bodyPost_ret (results_agg_tmp rfl _ _ _ _ _ rfl Try.underlying70 rfl (szOutTo05 hml) hc9) rfl ?_
  have hvn2 : ∀ b, v.ownBlock = some b → w.heap.size + 2 ≤ b := fun b hb => by
    have h1 := hvn b hb
    have h2 := hx1.size
    simp at h1 h2
    omega
  have hov2 : OwnD 52 (w3.setRow (w.heap.size + 1) (sigC SG key v).toArray) v (wayM seed tall key) := by
    refine ⟨hov.1, hov.2.keep (row := some (w.heap.size + 1)) (setRow_only _) ?_⟩
    cases hvb : v.ownBlock with
    | none => exact .inl rfl
    | some b => exact .inr (by have := hvn2 b hvb; simp; omega)
  exact ⟨v, rfl, hov2, setRow_grown (HX2.out.trans hx3) _ _ (by omega), fun b hb => by have := hvn2 b hb; omega⟩
end
section
open Go.RowKit

section
variable {P : Program} {md : Region.Mode} {ops : Array Oper} {Q : Exit → Act → World → Prop} {R : World → World → Prop} {late : Nat}
theorem bothL (i k : Nat) {oi ok : Oper} {fuel : Nat} {listed : Array Bool} {a : Act} {w : World} (hi : (ops.toList.drop i).head? = some oi) (hk : (ops.toList.drop k).head? = some ok)
    (hr : Region.ready md ops listed = [i, k]) (hw : Region.wanted oi (yielded ops a.tmps) = true) (hw2 : Region.wanted ok (yielded ops a.tmps) = true)
    (h1 : ∀ K : Act → World → Prop, (∀ a' w', (i ≠ late → R w w') → wpAnyL P md ops Q late R fuel (listed.setIfInBounds i true) a' w' → K a' w') → oi.wp P a w K Q)
    (h2 : ∀ K : Act → World → Prop, (∀ a' w', (k ≠ late → R w w') → wpAnyL P md ops Q late R fuel (listed.setIfInBounds k true) a' w' → K a' w') → ok.wp P a w K Q) : wpAnyL P md ops Q late R (fuel + 1) listed a w := by
  refine ⟨fun h0 => (by rw [hr] at h0; cases h0), fun j hj => ?_⟩
  rw [hr] at hj
  rcases List.mem_cons.1 hj with rfl | hj
  · refine wpOp_step (op_at hi) (fun K' hK => ?_)
    rw [if_pos hw]
    exact h1 K' (fun a' w' h1 h2 => hK _ _ ⟨h1, h2⟩)
  · obtain rfl : j = k := by simpa using hj
    refine wpOp_step (op_at hk) (fun K' hK => ?_)
    rw [if_pos hw2]
    exact h2 K' (fun a' w' h1 h2 => hK _ _ ⟨h1, h2⟩)
theorem relistL {fuel : Nat} {L L' : Array Bool} {a : Act} {w : World} (h : L = L') (hw : wpAnyL P md ops Q late R fuel L' a w) : wpAnyL P md ops Q late R fuel L a w := h ▸ hw
end
theorem shared1D {Q : Prop} {A : World → Prop} (J : World → Prop) (h1 : (∀ w, J w → A w) → Q) (h2 : ∀ w, J w → A w) : Q := h1 h2
/-- A signature whose way lies in a block of its own, new since then. -/
def SigG (L tb : Nat) (w : World) (M : List Value) (S : List UInt8) (key : Nat) (ds : List Dg) : Prop := ∃ v, M = sigC (bv S) key v ∧ OwnD 52 w v ds ∧ ∀ b, v.ownBlock = some b → L + 2 ≤ b ∧ b ≠ tb
theorem SigG.len {L tb : Nat} {w : World} {M : List Value} {S : List UInt8} {key : Nat} {ds : List Dg} (h : SigG L tb w M S key ds) (hS : S.length = 1024) : M.length = 1026 := by
  obtain ⟨v, rfl, _⟩ := h
  exact sigC_len (by rw [bv_length]; exact hS) _ _
theorem SigG.one {L tb : Nat} {w : World} {M : List Value} {S : List UInt8} {key : Nat} {ds : List Dg} (h : SigG L tb w M S key ds) : ∀ u ∈ M, u.oneCell' = true := by
  obtain ⟨v, rfl, ho, _⟩ := h
  obtain ⟨A, c, hv⟩ := ho.2.form
  rw [hv]; exact sigC_one (bv_one _) _ _ _ _
theorem SigG.row {L tb : Nat} {w w' : World} {M : List Value} {S : List UInt8} {key : Nat} {ds : List Dg} (h : SigG L tb w M S key ds) {r : Nat} (hg : w.grownBy w' (some r)) (hr : r < L + 2 ∨ r = tb) : SigG L tb w' M S key ds := by
  obtain ⟨v, hM, ho, hb⟩ := h
  refine ⟨v, hM, ⟨ho.1, ho.2.keep hg ?_⟩, hb⟩
  cases hvb : v.ownBlock with
  | none => exact .inl rfl
  | some b => exact .inr (by have := hb b hvb; simp only [Option.some.injEq, ne_eq]; omega)
theorem SigG.ext {L tb : Nat} {w w' : World} {M : List Value} {S : List UInt8} {key : Nat} {ds : List Dg} (h : SigG L tb w M S key ds) (hg : Ext w w') : SigG L tb w' M S key ds := by
  obtain ⟨v, hM, ho, hb⟩ := h
  exact ⟨v, hM, ho.ext hg, hb⟩
theorem DKey (r : Nat) (hr : r < 2147483648) (w : World) : Calls Try.prog 40 #[.int .u64 (r : Int)] w fun e w' => e = .returned (.int .u32 (r : Int)) ∧ Ext w w' := by
  have HX : Hid (Ext w w) := Lib.hid (Ext.refl w)
  have hwk : IntKind.u32.wrap (r : Int) = (r : Int) := by simp [IntKind.wrap, IntKind.bits, IntKind.signed]; omega
  have hle : (r : Int) ≤ 2147483648 := by omega
  go_enter Try.func40, Try.ntmps40
  go_wp2
  go_ret
  exact ⟨rfl, HX.out⟩
set_option maxRecDepth 100000 in
set_option maxHeartbeats 8000000 in
theorem DSign {w : World} {g tb : Nat} {FR : Fp} {R : Value} {seed : List UInt8} {tall : Nat} {tk : List Bool} (h : RingAt w g tb FR R seed tall tk) (s0 : St) (hw : StWf s0) (u : Value) (F : Fp) (hc : Conds w F u s0.cs) (hF : ∀ b, F b → b < w.heap.size ∧ b ≠ tb) (hlen : List.length (α := Cd) s0.cs ≤ 1000) (hk : s0.round < 2 ^ tall) (ht : takenM tk s0.round = false) :
    Calls Try.prog 17 #[.pointer (some ⟨g, 0, none⟩), stv s0 u] w fun e w' => ∃ M, e = .returned (.tuple #[.agg M.toArray, .int .i64 0]) ∧ SigG w.heap.size tb w' M (signM seed s0.round (sumD s0)) s0.round (wayM seed tall s0.round) ∧ RingAt w' g tb FR R seed tall (tk.set s0.round true) ∧ w.grownBy w' (some tb) := by
  have hoks := conds_ok hc
  obtain ⟨A, c, xs, rfl, hlc, hcm, -⟩ := conds_open hc
  obtain ⟨SC, hSC⟩ : ∃ SC, SC = stc s0 (.slice A (List.length (α := Cd) s0.cs) c) := ⟨_, rfl⟩
  have hst : stv s0 (.slice A (List.length (α := Cd) s0.cs) c) = .agg SC.toArray := by rw [hSC]; rfl
  have hscl : SC.length = 7 := by rw [hSC]; rfl
  have hs1 : SC[1]? = some (.int .u64 (s0.round : Int)) := by rw [hSC]; rfl
  have hg := h.blk.lt
  have htb := h.tak.lt
  have hsum0 := fun W (hx : w.grownBy W (some tb)) => DSum s0 hw _ F W (Ty.keep (t := .sl CondT) (fun b hb => hx.block b (hF b hb).1 (by have := (hF b hb).2; simpa using this)) (fun _ h => h) hc) (fun b hb => Nat.lt_of_lt_of_le (hF b hb).1 hx.size) hlen
  rw [hst] at hsum0 ⊢
  have hkey := fun W => DKey s0.round (by have := pow_low h.low; omega) W
  obtain ⟨ZR, hZR⟩ : ∃ ZR, ZR = zSig := ⟨_, rfl⟩
  have hzr := zSig_zero
  have hzl := zSig_len
  have hzo := zSig_one
  rw [← hZR] at hzr hzl hzo
  have hkwf : (Lit.int .u32 (s0.round : Int)).wf = true := Go.WalkArith.wf_u32 (by have := pow_low h.low; omega)
  have hx0 : Ext w ((w.alloc (.cells SC.toArray 40)).alloc (.cells ZR.toArray 70)).drew := (((Ext.refl w).alloc _).alloc _).drew
  have hsum := fun W (hx : ((w.alloc (.cells SC.toArray 40)).alloc (.cells ZR.toArray 70)).drew.grownBy W (some tb)) => hsum0 W ((hx0.any _).trans hx)
  have hb0 : Blk ((w.alloc (.cells SC.toArray 40)).alloc (.cells ZR.toArray 70)).drew w.heap.size 40 SC := (Blk.new w 40 SC).keep ((Ext.refl _).alloc (.cells ZR.toArray 70)).drew (by simp)
  have hrb0 : Blk ((w.alloc (.cells SC.toArray 40)).alloc (.cells ZR.toArray 70)).drew (w.heap.size + 1) 70 ZR := Blk.new_at (by simp) _ _
  have hr0 := h.ext hx0
  have hsg := fun W (hr : RingAt W g tb FR R seed tall tk) => Ring_Sign hr s0.round hkwf hk ht (sumD s0) (sha_length _)
  have HSUM := Lib.hid hsum
  have HKEY := Lib.hid hkey
  have HSG := Lib.hid hsg
  have HB := Lib.hid hb0
  have HRB := Lib.hid hrb0
  have HX0 := Lib.hid hx0
  have HNE : Hid (tb < w.heap.size ∧ w.heap.size + 1 < ((w.alloc (.cells SC.toArray 40)).alloc (.cells ZR.toArray 70)).drew.heap.size ∧ g < w.heap.size) := Lib.hid ⟨htb, hrb0.lt, hg⟩
  have HFP : Hid (∀ b, FR b → b < w.heap.size) := Lib.hid fun b hb => (h.fp b hb).1
  have HR0 := Lib.hid hr0
  have HSCL := Lib.hid hscl
  have HS1 := Lib.hid hs1
  have HZL := Lib.hid hzl
  have HZO := Lib.hid hzo
  have HZR := Lib.hid hZR
  clear hsum0 hsum hkey hsg hb0 hrb0 hx0 hscl hs1 hzl hst hSC hc hF hoks hlen hw hg htb hkwf hZR hr0 ht hk h
  go_enter Try.func17, Try.ntmps17
  go_wp2_with (first
    | ((with_reducible refine wpDst 4 rfl ?_); refine wpList_alloc _ rfl 70 rfl _ hzr ?_)
    | fail)
  refine startL 9 (GrB tb) (by kernel_rfl) ?_
  (try simp only [Act.put, List.setIfInBounds_toArray, List.set_cons_succ, List.set_cons_zero, World.size_alloc])
  have hxx : ((w.alloc (.cells SC.toArray 40)).alloc (.cells ZR.toArray 70)).drew.grownBy ((w.alloc (.cells SC.toArray 40)).alloc (.cells ZR.toArray 70)).drew (some tb) := World.grownBy.refl _ _
  generalize ((w.alloc (.cells SC.toArray 40)).alloc (.cells ZR.toArray 70)).drew = wb at *
  have hrr := HR0.out
  refine takeN (GrB.rf tb) 0 rfl (by kernel_rfl) (by kernel_rfl) (by kernel_rfl) rfl (fun _ _ _ _ h => h) rfl (fun K hK => ?_)
  go_big_quiet_op
  first | refine hK _ ?_ | refine ⟨_, fun _ _ => rfl, hK _ ?_⟩
  clear hK K
  refine takeN (GrB.rf tb) 1 rfl (by kernel_rfl) (by kernel_rfl) (by kernel_rfl) rfl (fun _ _ _ _ h => h) rfl (fun K hK => ?_)
  go_big_quiet_op
  first | refine hK _ ?_ | refine ⟨_, fun _ _ => rfl, hK _ ?_⟩
  clear hK K
  refine takeL (GrB.rf tb) (GrB.tr tb) 2 [9] rfl (by kernel_rfl) (by kernel_rfl) (by kernel_rfl) (by kernel_rfl) rfl (fun _ _ _ _ h => h) rfl (fun K hK => ?_)
  refine quiet_cell 23 (.tmp 7) rfl ⟨w.heap.size, 1, none⟩ rfl (.int .u64 (s0.round : Int)) _ Try.underlying23 rfl (fun W' h => ((HB.out.keep (hxx.trans h.of) (by have := HNE.out; simp only [Option.some.injEq, ne_eq]; omega)).cell 1).trans HS1.out) ?_
  refine hK _ ?_
  simp only [Act.put, List.setIfInBounds_toArray, List.set_cons_succ, List.set_cons_zero]
  clear hK K
  refine takeL (GrB.rf tb) (GrB.tr tb) 4 [9] rfl (by kernel_rfl) (by kernel_rfl) (by kernel_rfl) (by kernel_rfl) rfl (fun _ _ _ _ h => h) rfl (fun K hK => ?_)
  refine quiet_agg 40 (.tmp 3) rfl _ rfl SC _ Try.underlying40 rfl (szStD HSCL.out) (fun W' h => (HB.out.keep (hxx.trans h.of) (by have := HNE.out; simp only [Option.some.injEq, ne_eq]; omega)).cells) ?_
  refine hK _ ?_
  simp only [Act.put, List.setIfInBounds_toArray, List.set_cons_succ, List.set_cons_zero]
  clear hK K
  refine stepL 3 rfl (by kernel_rfl) rfl (fun K hK => ?_)
  go_simp
  refine (HKEY.out _).mono ?_
  rintro e w' ⟨rfl, hx'⟩
  have hk : GrB tb _ w' := hx'.any _
  replace hxx := hxx.trans hk.of
  replace hrr := hrr.ext hx'
  clear hx'
  refine hK _ _ (fun _ => hk) ?_
  clear hK K
  refine stepL 5 rfl (by kernel_rfl) rfl (fun K hK => ?_)
  go_simp
  refine (HSUM.out _ hxx).mono ?_
  rintro e w' ⟨rfl, hx'⟩
  have hk : GrB tb _ w' := hx'.any _
  replace hxx := hxx.trans hk.of
  replace hrr := hrr.ext hx'
  clear hx'
  refine hK _ _ (fun _ => hk) ?_
  clear hK K
  refine stepL 6 rfl (by kernel_rfl) rfl (fun K hK => ?_)
  go_simp
  refine (HSG.out _ hrr).mono ?_
  rintro e w' ⟨v1, rfl, ho1, hr1, hx', hn1⟩
  have hk : GrB tb _ w' := hx'
  have hsz := hxx.size
  replace hxx := hxx.trans hk.of
  have hs1 : SigG w.heap.size tb w' (sigC (bv (signM seed s0.round (sumD s0))) s0.round v1) (signM seed s0.round (sumD s0)) s0.round (wayM seed tall s0.round) := ⟨v1, rfl, ho1, fun b hb => by have := hn1 b hb; have := HNE.out; omega⟩
  obtain ⟨M1, hM1⟩ : ∃ M1, M1 = sigC (bv (signM seed s0.round (sumD s0))) s0.round v1 := ⟨_, rfl⟩
  rw [← hM1] at hs1 ⊢
  have HM1L := Lib.hid (hs1.len (signM_length _ _ _))
  have hm1o := hs1.one
  clear hM1 ho1 hn1 hx' hsz
  refine hK _ _ (fun _ => hk) ?_
  clear hK K
  refine takeN (GrB.rf tb) 7 rfl (by kernel_rfl) (by kernel_rfl) (by kernel_rfl) rfl (fun _ _ _ _ h => h) rfl (fun K hK => ?_)
  go_big_quiet_op
  first | refine hK _ ?_ | refine ⟨_, fun _ _ => rfl, hK _ ?_⟩
  clear hK K
  refine takeN (GrB.rf tb) 8 rfl (by kernel_rfl) (by kernel_rfl) (by kernel_rfl) rfl (fun _ _ _ _ h => h) rfl (fun K hK => ?_)
  go_big_quiet_op
  first | refine hK _ ?_ | refine ⟨_, fun _ _ => rfl, hK _ ?_⟩
  clear hK K
  refine stepL 9 rfl (by kernel_rfl) rfl (fun K hK => ?_)
  have hrb := HRB.out.keep hxx (by have := HNE.out; simp only [Option.some.injEq, ne_eq]; omega )
  refine wp_store_row 70 (.tmp 4) (.tmp 13) rfl (w.heap.size + 1) rfl ZR M1 70 rfl hrb (szOutTo05 HM1L.out) (by rw [HM1L.out, HZL.out]) hm1o ?_
  refine hK _ _ (fun h => absurd rfl h) ?_
  clear hK K
  (try simp only [Act.put, List.setIfInBounds_toArray, List.set_cons_succ, List.set_cons_zero])
  refine takeN (GrB.rf tb) 10 rfl (by kernel_rfl) (by kernel_rfl) (by kernel_rfl) rfl (fun _ _ _ _ h => h) rfl (fun K hK => ?_)
  go_big_quiet_op
  first | refine hK _ ?_ | refine ⟨_, fun _ _ => rfl, hK _ ?_⟩
  clear hK K
  refine doneL (by kernel_rfl) ?_ _
  (try simp only [Exit.then])
  have hx9 : wb.grownBy w' (some tb) := hxx
  have hc9 := Blk.cells (t := 70) (setRow_at (cs' := M1.toArray) hrb)
  have hrow : w'.grownBy (w'.setRow (w.heap.size + 1) M1.toArray) (some (w.heap.size + 1)) := setRow_only _
  go_wp2_with fail
  (try simp only [Exit.inBlock, Exit.then])
  refine bodyPost_ret (results_agg_tmp rfl _ _ _ _ _ rfl Try.underlying70 rfl (szOutTo05 HM1L.out) hc9) rfl ?_
  exact ⟨M1, rfl, hs1.row hrow (.inl (by omega)), hr1.keep hrow (by have := HNE.out; simp only [Option.some.injEq, ne_eq]; omega) (by have := HNE.out; simp only [Option.some.injEq, ne_eq]; omega) (fun b hb => by have := HFP.out b hb; simp only [Option.some.injEq, ne_eq]; omega), setRow_grown ((HX0.out.any _).trans hx9) _ _ (by omega)⟩
set_option maxRecDepth 100000 in
set_option maxHeartbeats 8000000 in
theorem DAgain {w : World} {g tb : Nat} {FR : Fp} {R : Value} {seed : List UInt8} {tall : Nat} {tk : List Bool} (h : RingAt w g tb FR R seed tall tk) (s0 : St) (hw : StWf s0) (u : Value) (F : Fp) (hc : Conds w F u s0.cs) (hF : ∀ b, F b → b < w.heap.size ∧ b ≠ tb) (hlen : List.length (α := Cd) s0.cs ≤ 1000) (hk : s0.round < 2 ^ tall) (ht : takenM tk s0.round = true) :
    Calls Try.prog 18 #[.pointer (some ⟨g, 0, none⟩), stv s0 u] w fun e w' => ∃ M, e = .returned (.tuple #[.agg M.toArray, .int .i64 0]) ∧ SigG w.heap.size tb w' M (signM seed s0.round (sumD s0)) s0.round (wayM seed tall s0.round) ∧ Ext w w' := by
  have hoks := conds_ok hc
  obtain ⟨A, c, xs, rfl, hlc, hcm, -⟩ := conds_open hc
  obtain ⟨SC, hSC⟩ : ∃ SC, SC = stc s0 (.slice A (List.length (α := Cd) s0.cs) c) := ⟨_, rfl⟩
  have hst : stv s0 (.slice A (List.length (α := Cd) s0.cs) c) = .agg SC.toArray := by rw [hSC]; rfl
  have hscl : SC.length = 7 := by rw [hSC]; rfl
  have hs1 : SC[1]? = some (.int .u64 (s0.round : Int)) := by rw [hSC]; rfl
  have hg := h.blk.lt
  have htb := h.tak.lt
  have hsum0 := fun W (hx : w.grownBy W (some tb)) => DSum s0 hw _ F W (Ty.keep (t := .sl CondT) (fun b hb => hx.block b (hF b hb).1 (by have := (hF b hb).2; simpa using this)) (fun _ h => h) hc) (fun b hb => Nat.lt_of_lt_of_le (hF b hb).1 hx.size) hlen
  rw [hst] at hsum0 ⊢
  have hkey := fun W => DKey s0.round (by have := pow_low h.low; omega) W
  obtain ⟨ZR, hZR⟩ : ∃ ZR, ZR = zSig := ⟨_, rfl⟩
  have hzr := zSig_zero
  have hzl := zSig_len
  have hzo := zSig_one
  rw [← hZR] at hzr hzl hzo
  have hkwf : (Lit.int .u32 (s0.round : Int)).wf = true := Go.WalkArith.wf_u32 (by have := pow_low h.low; omega)
  have hx0 : Ext w ((w.alloc (.cells SC.toArray 40)).alloc (.cells ZR.toArray 70)).drew := (((Ext.refl w).alloc _).alloc _).drew
  have hsum := fun W (hx : Ext ((w.alloc (.cells SC.toArray 40)).alloc (.cells ZR.toArray 70)).drew W) => hsum0 W ((hx0.trans hx).any _)
  have hb0 : Blk ((w.alloc (.cells SC.toArray 40)).alloc (.cells ZR.toArray 70)).drew w.heap.size 40 SC := (Blk.new w 40 SC).keep ((Ext.refl _).alloc (.cells ZR.toArray 70)).drew (by simp)
  have hrb0 : Blk ((w.alloc (.cells SC.toArray 40)).alloc (.cells ZR.toArray 70)).drew (w.heap.size + 1) 70 ZR := Blk.new_at (by simp) _ _
  have hr0 := h.ext hx0
  have hsg := fun W (hr : RingAt W g tb FR R seed tall tk) => Ring_Again hr s0.round hkwf hk ht (sumD s0) (sha_length _)
  have HSUM := Lib.hid hsum
  have HKEY := Lib.hid hkey
  have HSG := Lib.hid hsg
  have HB := Lib.hid hb0
  have HRB := Lib.hid hrb0
  have HX0 := Lib.hid hx0
  have HNE : Hid (tb < w.heap.size ∧ w.heap.size + 1 < ((w.alloc (.cells SC.toArray 40)).alloc (.cells ZR.toArray 70)).drew.heap.size ∧ g < w.heap.size) := Lib.hid ⟨htb, hrb0.lt, hg⟩
  have HFP : Hid (∀ b, FR b → b < w.heap.size) := Lib.hid fun b hb => (h.fp b hb).1
  have HR0 := Lib.hid hr0
  have HSCL := Lib.hid hscl
  have HS1 := Lib.hid hs1
  have HZL := Lib.hid hzl
  have HZO := Lib.hid hzo
  have HZR := Lib.hid hZR
  clear hsum0 hsum hkey hsg hb0 hrb0 hx0 hscl hs1 hzl hst hSC hc hF hoks hlen hw hg htb hkwf hZR hr0 ht hk h
  go_enter Try.func18, Try.ntmps18
  go_wp2_with (first
    | ((with_reducible refine wpDst 4 rfl ?_); refine wpList_alloc _ rfl 70 rfl _ hzr ?_)
    | fail)
  refine startL 9 Ext (by kernel_rfl) ?_
  (try simp only [Act.put, List.setIfInBounds_toArray, List.set_cons_succ, List.set_cons_zero, World.size_alloc])
  have hxx : Ext ((w.alloc (.cells SC.toArray 40)).alloc (.cells ZR.toArray 70)).drew ((w.alloc (.cells SC.toArray 40)).alloc (.cells ZR.toArray 70)).drew := Ext.refl _
  generalize ((w.alloc (.cells SC.toArray 40)).alloc (.cells ZR.toArray 70)).drew = wb at *
  have hrr := HR0.out
  refine takeN (fun a => Ext.refl a) 0 rfl (by kernel_rfl) (by kernel_rfl) (by kernel_rfl) rfl (fun _ _ _ _ h => h) rfl (fun K hK => ?_)
  go_big_quiet_op
  first | refine hK _ ?_ | refine ⟨_, fun _ _ => rfl, hK _ ?_⟩
  clear hK K
  refine takeN (fun a => Ext.refl a) 1 rfl (by kernel_rfl) (by kernel_rfl) (by kernel_rfl) rfl (fun _ _ _ _ h => h) rfl (fun K hK => ?_)
  go_big_quiet_op
  first | refine hK _ ?_ | refine ⟨_, fun _ _ => rfl, hK _ ?_⟩
  clear hK K
  refine takeL (fun a => Ext.refl a) (fun a b c h1 h2 => Ext.trans h1 h2) 2 [9] rfl (by kernel_rfl) (by kernel_rfl) (by kernel_rfl) (by kernel_rfl) rfl (fun _ _ _ _ h => h) rfl (fun K hK => ?_)
  refine quiet_cell 23 (.tmp 7) rfl ⟨w.heap.size, 1, none⟩ rfl (.int .u64 (s0.round : Int)) _ Try.underlying23 rfl (fun W' h => ((HB.out.keep (hxx.trans h) (by simp)).cell 1).trans HS1.out) ?_
  refine hK _ ?_
  simp only [Act.put, List.setIfInBounds_toArray, List.set_cons_succ, List.set_cons_zero]
  clear hK K
  refine takeL (fun a => Ext.refl a) (fun a b c h1 h2 => Ext.trans h1 h2) 4 [9] rfl (by kernel_rfl) (by kernel_rfl) (by kernel_rfl) (by kernel_rfl) rfl (fun _ _ _ _ h => h) rfl (fun K hK => ?_)
  refine quiet_agg 40 (.tmp 3) rfl _ rfl SC _ Try.underlying40 rfl (szStD HSCL.out) (fun W' h => (HB.out.keep (hxx.trans h) (by simp)).cells) ?_
  refine hK _ ?_
  simp only [Act.put, List.setIfInBounds_toArray, List.set_cons_succ, List.set_cons_zero]
  clear hK K
  refine stepL 3 rfl (by kernel_rfl) rfl (fun K hK => ?_)
  go_simp
  refine (HKEY.out _).mono ?_
  rintro e w' ⟨rfl, hx'⟩
  have hk : Ext _ w' := hx'
  replace hxx := hxx.trans hk
  replace hrr := hrr.ext hx'
  clear hx'
  refine hK _ _ (fun _ => hk) ?_
  clear hK K
  refine stepL 5 rfl (by kernel_rfl) rfl (fun K hK => ?_)
  go_simp
  refine (HSUM.out _ hxx).mono ?_
  rintro e w' ⟨rfl, hx'⟩
  have hk : Ext _ w' := hx'
  replace hxx := hxx.trans hk
  replace hrr := hrr.ext hx'
  clear hx'
  refine hK _ _ (fun _ => hk) ?_
  clear hK K
  refine stepL 6 rfl (by kernel_rfl) rfl (fun K hK => ?_)
  go_simp
  refine (HSG.out _ hrr).mono ?_
  rintro e w' ⟨v1, rfl, ho1, hx', hn1⟩
  have hk : Ext _ w' := hx'
  have hsz := hxx.size
  replace hxx := hxx.trans hk
  have hs1 : SigG w.heap.size tb w' (sigC (bv (signM seed s0.round (sumD s0))) s0.round v1) (signM seed s0.round (sumD s0)) s0.round (wayM seed tall s0.round) := ⟨v1, rfl, ho1, fun b hb => by have := hn1 b hb; have := HNE.out; omega⟩
  obtain ⟨M1, hM1⟩ : ∃ M1, M1 = sigC (bv (signM seed s0.round (sumD s0))) s0.round v1 := ⟨_, rfl⟩
  rw [← hM1] at hs1 ⊢
  have HM1L := Lib.hid (hs1.len (signM_length _ _ _))
  have hm1o := hs1.one
  clear hM1 ho1 hn1 hx' hsz
  refine hK _ _ (fun _ => hk) ?_
  clear hK K
  refine takeN (fun a => Ext.refl a) 7 rfl (by kernel_rfl) (by kernel_rfl) (by kernel_rfl) rfl (fun _ _ _ _ h => h) rfl (fun K hK => ?_)
  go_big_quiet_op
  first | refine hK _ ?_ | refine ⟨_, fun _ _ => rfl, hK _ ?_⟩
  clear hK K
  refine takeN (fun a => Ext.refl a) 8 rfl (by kernel_rfl) (by kernel_rfl) (by kernel_rfl) rfl (fun _ _ _ _ h => h) rfl (fun K hK => ?_)
  go_big_quiet_op
  first | refine hK _ ?_ | refine ⟨_, fun _ _ => rfl, hK _ ?_⟩
  clear hK K
  refine stepL 9 rfl (by kernel_rfl) rfl (fun K hK => ?_)
  have hrb := HRB.out.keep hxx (by simp)
  refine wp_store_row 70 (.tmp 4) (.tmp 13) rfl (w.heap.size + 1) rfl ZR M1 70 rfl hrb (szOutTo05 HM1L.out) (by rw [HM1L.out, HZL.out]) hm1o ?_
  refine hK _ _ (fun h => absurd rfl h) ?_
  clear hK K
  (try simp only [Act.put, List.setIfInBounds_toArray, List.set_cons_succ, List.set_cons_zero])
  refine takeN (fun a => Ext.refl a) 10 rfl (by kernel_rfl) (by kernel_rfl) (by kernel_rfl) rfl (fun _ _ _ _ h => h) rfl (fun K hK => ?_)
  go_big_quiet_op
  first | refine hK _ ?_ | refine ⟨_, fun _ _ => rfl, hK _ ?_⟩
  clear hK K
  refine doneL (by kernel_rfl) ?_ _
  (try simp only [Exit.then])
  have hx9 : Ext wb w' := hxx
  have hc9 := Blk.cells (t := 70) (setRow_at (cs' := M1.toArray) hrb)
  have hrow : w'.grownBy (w'.setRow (w.heap.size + 1) M1.toArray) (some (w.heap.size + 1)) := setRow_only _
  go_wp2_with fail
  (try simp only [Exit.inBlock, Exit.then])
  refine bodyPost_ret (results_agg_tmp rfl _ _ _ _ _ rfl Try.underlying70 rfl (szOutTo05 HM1L.out) hc9) rfl ?_
  exact ⟨M1, rfl, hs1.row hrow (.inl (by omega)), setRow_grown (HX0.out.trans hx9) _ _ (by omega)⟩
set_option maxRecDepth 100000 in
set_option maxHeartbeats 8000000 in
theorem DSignNo {w : World} {g tb : Nat} {FR : Fp} {R : Value} {seed : List UInt8} {tall : Nat} {tk : List Bool} (h : RingAt w g tb FR R seed tall tk) (s0 : St) (hw : StWf s0) (u : Value) (F : Fp) (hc : Conds w F u s0.cs) (hF : ∀ b, F b → b < w.heap.size ∧ b ≠ tb) (hlen : List.length (α := Cd) s0.cs ≤ 1000) (hk : s0.round < 2 ^ tall) (ht : takenM tk s0.round = true) :
    Calls Try.prog 17 #[.pointer (some ⟨g, 0, none⟩), stv s0 u] w fun e w' => e = .returned (.tuple #[.agg zSig.toArray, .int .i64 21]) ∧ Ext w w' := by
  have hoks := conds_ok hc
  obtain ⟨A, c, xs, rfl, hlc, hcm, -⟩ := conds_open hc
  obtain ⟨SC, hSC⟩ : ∃ SC, SC = stc s0 (.slice A (List.length (α := Cd) s0.cs) c) := ⟨_, rfl⟩
  have hst : stv s0 (.slice A (List.length (α := Cd) s0.cs) c) = .agg SC.toArray := by rw [hSC]; rfl
  have hscl : SC.length = 7 := by rw [hSC]; rfl
  have hs1 : SC[1]? = some (.int .u64 (s0.round : Int)) := by rw [hSC]; rfl
  have hg := h.blk.lt
  have htb := h.tak.lt
  have hsum0 := fun W (hx : w.grownBy W (some tb)) => DSum s0 hw _ F W (Ty.keep (t := .sl CondT) (fun b hb => hx.block b (hF b hb).1 (by have := (hF b hb).2; simpa using this)) (fun _ h => h) hc) (fun b hb => Nat.lt_of_lt_of_le (hF b hb).1 hx.size) hlen
  rw [hst] at hsum0 ⊢
  have hkey := fun W => DKey s0.round (by have := pow_low h.low; omega) W
  obtain ⟨ZR, hZR⟩ : ∃ ZR, ZR = zSig := ⟨_, rfl⟩
  have hzr := zSig_zero
  have hzl := zSig_len
  have hzo := zSig_one
  rw [← hZR] at hzr hzl hzo
  have hkwf : (Lit.int .u32 (s0.round : Int)).wf = true := Go.WalkArith.wf_u32 (by have := pow_low h.low; omega)
  have hx0 : Ext w ((w.alloc (.cells SC.toArray 40)).alloc (.cells ZR.toArray 70)).drew := (((Ext.refl w).alloc _).alloc _).drew
  have hsum := fun W (hx : Ext ((w.alloc (.cells SC.toArray 40)).alloc (.cells ZR.toArray 70)).drew W) => hsum0 W ((hx0.trans hx).any _)
  have hb0 : Blk ((w.alloc (.cells SC.toArray 40)).alloc (.cells ZR.toArray 70)).drew w.heap.size 40 SC := (Blk.new w 40 SC).keep ((Ext.refl _).alloc (.cells ZR.toArray 70)).drew (by simp)
  have hrb0 : Blk ((w.alloc (.cells SC.toArray 40)).alloc (.cells ZR.toArray 70)).drew (w.heap.size + 1) 70 ZR := Blk.new_at (by simp) _ _
  have hr0 := h.ext hx0
  have hsg := fun W (hr : RingAt W g tb FR R seed tall tk) => Ring_Sign_no hr s0.round hkwf hk ht (sumD s0)
  simp only [← hZR] at hsg
  have HSUM := Lib.hid hsum
  have HKEY := Lib.hid hkey
  have HSG := Lib.hid hsg
  have HB := Lib.hid hb0
  have HRB := Lib.hid hrb0
  have HX0 := Lib.hid hx0
  have HNE : Hid (tb < w.heap.size ∧ w.heap.size + 1 < ((w.alloc (.cells SC.toArray 40)).alloc (.cells ZR.toArray 70)).drew.heap.size ∧ g < w.heap.size) := Lib.hid ⟨htb, hrb0.lt, hg⟩
  have HFP : Hid (∀ b, FR b → b < w.heap.size) := Lib.hid fun b hb => (h.fp b hb).1
  have HR0 := Lib.hid hr0
  have HSCL := Lib.hid hscl
  have HS1 := Lib.hid hs1
  have HZL := Lib.hid hzl
  have HZO := Lib.hid hzo
  have HZR := Lib.hid hZR
  clear hsum0 hsum hkey hsg hb0 hrb0 hx0 hscl hs1 hzl hst hSC hc hF hoks hlen hw hg htb hkwf hZR hr0 ht hk h
  go_enter Try.func17, Try.ntmps17
  go_wp2_with (first
    | ((with_reducible refine wpDst 4 rfl ?_); refine wpList_alloc _ rfl 70 rfl _ hzr ?_)
    | fail)
  refine startL 9 Ext (by kernel_rfl) ?_
  (try simp only [Act.put, List.setIfInBounds_toArray, List.set_cons_succ, List.set_cons_zero, World.size_alloc])
  have hxx : Ext ((w.alloc (.cells SC.toArray 40)).alloc (.cells ZR.toArray 70)).drew ((w.alloc (.cells SC.toArray 40)).alloc (.cells ZR.toArray 70)).drew := Ext.refl _
  generalize ((w.alloc (.cells SC.toArray 40)).alloc (.cells ZR.toArray 70)).drew = wb at *
  have hrr := HR0.out
  refine takeN (fun a => Ext.refl a) 0 rfl (by kernel_rfl) (by kernel_rfl) (by kernel_rfl) rfl (fun _ _ _ _ h => h) rfl (fun K hK => ?_)
  go_big_quiet_op
  first | refine hK _ ?_ | refine ⟨_, fun _ _ => rfl, hK _ ?_⟩
  clear hK K
  refine takeN (fun a => Ext.refl a) 1 rfl (by kernel_rfl) (by kernel_rfl) (by kernel_rfl) rfl (fun _ _ _ _ h => h) rfl (fun K hK => ?_)
  go_big_quiet_op
  first | refine hK _ ?_ | refine ⟨_, fun _ _ => rfl, hK _ ?_⟩
  clear hK K
  refine takeL (fun a => Ext.refl a) (fun a b c h1 h2 => Ext.trans h1 h2) 2 [9] rfl (by kernel_rfl) (by kernel_rfl) (by kernel_rfl) (by kernel_rfl) rfl (fun _ _ _ _ h => h) rfl (fun K hK => ?_)
  refine quiet_cell 23 (.tmp 7) rfl ⟨w.heap.size, 1, none⟩ rfl (.int .u64 (s0.round : Int)) _ Try.underlying23 rfl (fun W' h => ((HB.out.keep (hxx.trans h) (by simp)).cell 1).trans HS1.out) ?_
  refine hK _ ?_
  simp only [Act.put, List.setIfInBounds_toArray, List.set_cons_succ, List.set_cons_zero]
  clear hK K
  refine takeL (fun a => Ext.refl a) (fun a b c h1 h2 => Ext.trans h1 h2) 4 [9] rfl (by kernel_rfl) (by kernel_rfl) (by kernel_rfl) (by kernel_rfl) rfl (fun _ _ _ _ h => h) rfl (fun K hK => ?_)
  refine quiet_agg 40 (.tmp 3) rfl _ rfl SC _ Try.underlying40 rfl (szStD HSCL.out) (fun W' h => (HB.out.keep (hxx.trans h) (by simp)).cells) ?_
  refine hK _ ?_
  simp only [Act.put, List.setIfInBounds_toArray, List.set_cons_succ, List.set_cons_zero]
  clear hK K
  refine stepL 3 rfl (by kernel_rfl) rfl (fun K hK => ?_)
  go_simp
  refine (HKEY.out _).mono ?_
  rintro e w' ⟨rfl, hx'⟩
  have hk : Ext _ w' := hx'
  replace hxx := hxx.trans hk
  replace hrr := hrr.ext hx'
  clear hx'
  refine hK _ _ (fun _ => hk) ?_
  clear hK K
  refine stepL 5 rfl (by kernel_rfl) rfl (fun K hK => ?_)
  go_simp
  refine (HSUM.out _ hxx).mono ?_
  rintro e w' ⟨rfl, hx'⟩
  have hk : Ext _ w' := hx'
  replace hxx := hxx.trans hk
  replace hrr := hrr.ext hx'
  clear hx'
  refine hK _ _ (fun _ => hk) ?_
  clear hK K
  refine stepL 6 rfl (by kernel_rfl) rfl (fun K hK => ?_)
  go_simp
  refine (HSG.out _ hrr).mono ?_
  rintro e w' ⟨rfl, hx'⟩
  have hk : Ext _ w' := hx'
  replace hxx := hxx.trans hk
  clear hx'
  refine hK _ _ (fun _ => hk) ?_
  clear hK K
  refine takeN (fun a => Ext.refl a) 7 rfl (by kernel_rfl) (by kernel_rfl) (by kernel_rfl) rfl (fun _ _ _ _ h => h) rfl (fun K hK => ?_)
  go_big_quiet_op
  first | refine hK _ ?_ | refine ⟨_, fun _ _ => rfl, hK _ ?_⟩
  clear hK K
  refine takeN (fun a => Ext.refl a) 8 rfl (by kernel_rfl) (by kernel_rfl) (by kernel_rfl) rfl (fun _ _ _ _ h => h) rfl (fun K hK => ?_)
  go_big_quiet_op
  first | refine hK _ ?_ | refine ⟨_, fun _ _ => rfl, hK _ ?_⟩
  clear hK K
  refine stepL 9 rfl (by kernel_rfl) rfl (fun K hK => ?_)
  have hrb := HRB.out.keep hxx (by simp)
  refine wp_store_row 70 (.tmp 4) (.tmp 13) rfl (w.heap.size + 1) rfl ZR ZR 70 rfl hrb (szOutTo05 HZL.out) rfl HZO.out ?_
  refine hK _ _ (fun h => absurd rfl h) ?_
  clear hK K
  (try simp only [Act.put, List.setIfInBounds_toArray, List.set_cons_succ, List.set_cons_zero])
  refine takeN (fun a => Ext.refl a) 10 rfl (by kernel_rfl) (by kernel_rfl) (by kernel_rfl) rfl (fun _ _ _ _ h => h) rfl (fun K hK => ?_)
  go_big_quiet_op
  first | refine hK _ ?_ | refine ⟨_, fun _ _ => rfl, hK _ ?_⟩
  clear hK K
  refine doneL (by kernel_rfl) ?_ _
  (try simp only [Exit.then])
  have hx9 : Ext wb w' := hxx
  have hc9 := Blk.cells (t := 70) (setRow_at (cs' := ZR.toArray) hrb)
  have hrow : w'.grownBy (w'.setRow (w.heap.size + 1) ZR.toArray) (some (w.heap.size + 1)) := setRow_only _
  go_wp2_with fail
  (try simp only [Exit.inBlock, Exit.then])
  refine bodyPost_ret (results_agg_tmp rfl _ _ _ _ _ rfl Try.underlying70 rfl (szOutTo05 HZL.out) hc9) rfl ?_
  exact ⟨by rw [HZR.out]; rfl, setRow_grown (HX0.out.trans hx9) _ _ (by omega)⟩
end
end Go.Proofs.Ytmicjaiiinaipaa

/- Walks and plain laws, put together in build order. Conditions: what each of them names. -/
import Derived.Test.YtfoomnibfibfnaaW1ab2660321
set_option linter.unusedVariables false
set_option linter.unusedSimpArgs false
set_option linter.unnecessarySimpa false
namespace Go.Proofs.Ytfoomnibfibfnaa
section
open Go.RowKit

theorem b32_zero : (Try.prog.info? 22).bind (fun i => i.zero.map (·.cells)) = some (bv (List.replicate 32 0)).toArray := by kernel_rfl
theorem b32_size {n : Nat} (h : n = 32) : (Try.prog.info? 22).map (·.size) = some n := by subst h; kernel_rfl
theorem quiet_load_agg {P : Program} {C : World → Prop} {o : Oper} {a : Act} {K : Act → Prop} (ty : TypeId) (x : Operand) (ho : o.op = .load ty x) (ad : Addr) (hx : a.eval x = .pointer (some ad)) (cs : List Value) (d : TypeDesc) (hu : P.underlying ty = some d) (hd : isAggD d = true) (hi : (P.info? ty).map (·.size) = some cs.length) (hc : ∀ w, C w → Cells w ad cs) (hk : K (a.put o.dst (.agg cs.toArray))) : o.quiet P a C K :=
  ⟨_, fun w hw => by 
    unfold Oper.quietAt execOp
    simp only [ho, hx, Instr.loadAt, Instr.sureAddr, Sem.run_bind, Sem.run_pure, Result.andThen_ok, run_load_agg w ty ad cs d hu hd hi (hc w hw)]
    exact ⟨rfl, rfl⟩, hk⟩
theorem first_step : ∀ k, k < 8 → (firstK.take k ++ List.replicate (8 - k) 0).set k (firstK.getD k 0) = firstK.take (k + 1) ++ List.replicate (8 - (k + 1)) 0 ∧ (firstK.take k ++ List.replicate (8 - k) 0).length = 8 := by decide
theorem fill_eq (p : List UInt8) : p ++ [128] ++ List.replicate (63 - (p.length + 8) % 64) 0 = p ++ fill p.length := by simp [fill]

set_option maxRecDepth 100000 in
set_option maxHeartbeats 8000000 in
theorem Ref_Of (Fs R : ByteArray) (vp : Value) (p : List UInt8) (w : World) (F : Fp) (hFs : HexTab Fs firstK) (hR : HexTab R stirK) (hp : (Ty.sl .u8).holds w F [vp] p) (hF : ∀ b, F b → b < w.heap.size) (hb : p.length < 1099511627776) :
    Calls Try.prog 38 #[.agg #[.string Fs, .string R], vp] w fun e w' => e = .returned (.agg (bv (sha p)).toArray) ∧ Ext w w' := by
  obtain ⟨i0, hi, hz0, hz1, hz2⟩ := info_parts u8_info
  obtain ⟨i1, hi1, hy0, hy1, hy2⟩ := info_parts u64_info
  have hp0 := hp
  obtain ⟨A, c, xs, hv, hlc, hc, hA, hcell, hall⟩ := hp
  cases hv
  unfold maxLen at hc
  have hz := b32_zero
  have hzl : (bv (List.replicate 32 0)).length = 32 := by simp
  generalize hZ : bv (List.replicate 32 0) = Z at hz hzl
  have HZL := Lib.hid hzl
  have HZ := Lib.hid hZ
  have hx0 : Ext w ((w.alloc (.cells #[.string Fs, .string R] 25)).alloc (.cells Z.toArray 22)) := ((Ext.refl w).alloc _).alloc _
  have hsrc := src_bytes (hx0.holds hF hp0)
  have HX0 := Lib.hid hx0
  clear hzl hZ hall hcell hA hx0
  go_enter Try.func38, Try.ntmps38
  go_wp2_with (first
    | (refine wpList_alloc _ rfl 22 rfl _ hz ?_)
    | (at_builtin; refine wpList_app _ rfl (.tmp 13) (.tmp 14) _ _ rfl _ _ i0 _ 1 1 Try.underlying55 Try.underlying55 hi hz0 hz1 hz2 rfl (by decide) _ _ _ rfl (Own.nil _ _ _) _ _ _ (bv p) rfl (by simp) hsrc (bv_one _) (by unfold maxLen; omega) (by omega) ?_; intro v1 w1 ho1 hm1)
    | (at_builtin; refine wpList_app _ rfl (.tmp 15) (.tmp 16) _ _ rfl _ _ i0 _ 1 1 Try.underlying55 Try.underlying55 hi hz0 hz1 hz2 rfl (by decide) _ _ _ rfl (Own.ext ho1 ((Ext.refl _).alloc _)) _ _ _ [Value.int .u8 128] rfl rfl (src_new _ _ _ _) (by simp [Value.oneCell']) (by unfold maxLen; omega) (by omega) ?_; intro v2 w2 ho2 hm2)
    | fail)
  have hm1 : Fresh ((w.alloc (.cells #[.string Fs, .string R] 25)).alloc (.cells Z.toArray 22)) w1 v1 := hm1
  have hm2 : Fresh ((w.alloc (.cells #[.string Fs, .string R] 25)).alloc (.cells Z.toArray 22)) w2 v2 := hm1.trans (Moved.pre ((Ext.refl _).alloc _) hm2)
  have ho2 : OwnB w2 v2 (p ++ [128]) := by
    rw [Nat.zero_add, List.nil_append] at ho2
    exact OwnB.app ho2
  obtain ⟨W0, hW0⟩ : ∃ W0, W0 = ((w.alloc (.cells #[.string Fs, .string R] 25)).alloc (.cells Z.toArray 22)) := ⟨_, rfl⟩
  rw [← hW0] at hm2
  have HX0 : Hid (Ext w W0) := Lib.hid (by rw [hW0]; exact HX0.out)
  have hbox0 : Blk W0 w.heap.size 25 [Value.string Fs, Value.string R] := by rw [hW0]; exact (Blk.new w 25 [Value.string Fs, Value.string R]).keep ((Ext.refl _).alloc _) (by simp)
  have hres0 : Blk W0 (w.heap.size + 1) 22 Z := by rw [hW0]; have := Blk.new (w.alloc (.cells #[.string Fs, .string R] 25)) 22 Z; simpa using this
  have hsz0 : W0.heap.size = w.heap.size + 1 + 1 := by rw [hW0]; simp
  have HBOX := Lib.hid hbox0
  have HRES := Lib.hid hres0
  have HSZ := Lib.hid hsz0
  clear hm1 ho1 hW0 hsrc hbox0 hres0 hsz0
  obtain ⟨J, hJ⟩ : ∃ J, J = 63 - (p.length + 8) % 64 := ⟨_, rfl⟩
  have hJ63 : J ≤ 63 := by omega
  have HJ := Lib.hid hJ
  clear hJ
  go_wp2
  go_loopw [5] (fun vb wr => ∃ j : Nat, j ≤ J ∧ OwnB wr vb (p ++ [128] ++ List.replicate j 0) ∧ Fresh W0 wr vb) (fun vb _ => p.length + 1 + J - slLen vb)
  case atStart => exact ⟨0, by omega, by simpa using ho2, hm2⟩
  case round =>
    clear ho2 hm2
    obtain ⟨j, hj, ho, hfr⟩ := hrel
    have hbl : (p ++ [128] ++ List.replicate j 0).length = p.length + 1 + j := by simp; omega
    have hstep : p ++ [128] ++ List.replicate (j + 1) 0 = (p ++ [128] ++ List.replicate j 0) ++ [0] := by rw [List.replicate_succ', List.append_assoc (p ++ [128])]
    have HST := Lib.hid hstep
    clear hstep
    by_cases hlt : j < J
    · generalize hB : p ++ [128] ++ List.replicate j 0 = B at *
      obtain ⟨A5, c5, rfl⟩ := ho.form
      have ht : ((B.length : Int) % 64 != 56) = true := by have := HJ.out; simp; omega
      have HBL := Lib.hid hbl
      clear hbl hB
      go_wp2_with (first
        | (at_builtin; refine wpList_app _ rfl (.tmp 22) (.tmp 23) _ _ rfl _ _ i0 _ 1 1 Try.underlying55 Try.underlying55 hi hz0 hz1 hz2 rfl (by decide) _ _ _ rfl (Own.ext ho ((Ext.refl _).alloc _)) _ _ _ [Value.int .u8 0] rfl rfl (src_new _ _ _ _) (by simp [Value.oneCell']) (by rw [HBL.out]; unfold maxLen; omega) (by rw [HBL.out]; omega) ?_; intro v3 w3 ho3 hm3; obtain ⟨A6, c6, hv6⟩ := ho3.form; subst hv6)
        | fail)
      go_roundw
      case rel =>
        have hm3 : Moved (wr.alloc _) w3 (.slice A5 B.length c5) (.slice A6 (B.length + 1) c6) := hm3
        exact ⟨j + 1, by omega, by rw [HST.out]; exact OwnB.app ho3, hfr.trans (Moved.pre ((Ext.refl _).alloc _) hm3)⟩
      case measure => have := HBL.out; simp [slLen]; omega
    · obtain rfl : j = J := by omega
      have hB2 : p ++ [128] ++ List.replicate j 0 = p ++ fill p.length := by rw [HJ.out]; exact fill_eq p
      rw [hB2] at ho hbl
      generalize hB : p ++ fill p.length = B at *
      have HB := Lib.hid hB
      obtain ⟨A5, c5, rfl⟩ := ho.form
      have ht : ((B.length : Int) % 64 != 56) = false := by have := HJ.out; simp; omega
      have HBL := Lib.hid hbl
      clear hbl hB2 hB HST
      go_wp2_with (first
        | (at_make; refine wpList_make_full _ rfl _ _ _ rfl 0 _ i0 _ 1 Try.underlying55 hi hz0 hz1 .i64 .i64 8 8 8 rfl rfl rfl rfl (by rw [hz2]; omega) (by unfold maxLen; omega) (Nat.zero_le _) ?_; intro w4 ho4 hg4)
        | fail)
      have hg4 : Ext wr w4 := hg4
      obtain ⟨N, hN⟩ : ∃ N, N = p.length * 8 := ⟨_, rfl⟩
      have hNlt : N < 18446744073709551616 := by omega
      have ho4 : Own w4 5 1 (.slice (some ⟨wr.heap.size, 0, none⟩) 8 8) 8 (bv (beFill 8 8 N)) := by
        have e : bv (beFill 8 8 N) = (madeCells (Value.int .u8 0).cells (8 * 1)).toList := by
          rw [show (Value.int .u8 0).cells = #[.int .u8 0] from rfl, toList_madeCells_one, Nat.mul_one]
          simp [beFill, bv, be_length]
        rw [e]; exact ho4
      obtain ⟨wo, rfl⟩ : ∃ wo : World, wo = wr := ⟨_, rfl⟩
      have HFR := Lib.hid hfr
      have HOB := Lib.hid ho
      have HN := Lib.hid hN
      have HNL := Lib.hid hNlt
      have HZ8 := Lib.hid (show w.heap.size + 1 + 1 ≤ wo.heap.size by have := (Fresh.ext hfr).size; have := HSZ.out; omega)
      clear hfr ho hN hNlt
      go_loopw [6, 8] (fun nn i wq => ∃ j : Nat, j ≤ 8 ∧ i = .int .i64 ((j : Int) - 1) ∧ nn = .int .u64 ((N / 256 ^ (8 - j) : Nat) : Int) ∧ Own wq 5 1 (.slice (some ⟨wo.heap.size, 0, none⟩) 8 8) 8 (bv (beFill 8 j N)) ∧ Ext wo wq) (fun _ i _ => (intOf i + 1).toNat)
      case atStart => exact ⟨8, by omega, rfl, by rw [HN.out]; simp, ho4, hg4⟩
      case round =>
        clear ho4 hg4
        obtain ⟨j, hj, rfl, rfl, hor, hxr⟩ := hrel
        by_cases hlt : 0 < j
        · have hcell0 := World.ownsRow.cellAt hor (j - 1) (by omega)
          obtain ⟨u0, hu0⟩ : ∃ u0, (bv (beFill 8 j N))[j - 1]? = some u0 := ⟨_, List.getElem?_eq_getElem (by rw [bv_length, beFill_length _ _ _ hj]; omega)⟩
          rw [hu0] at hcell0
          have hfz := World.ownsRow.frozenAt hor (j - 1)
          have hst := (World.ownsRow.stored hor (j - 1) (.int .u8 ((UInt8.ofNat (N / 256 ^ (8 - j))).toNat : Int))).1
          have hm : ((N / 256 ^ (8 - j) : Nat) : Int) % 256 = ((UInt8.ofNat (N / 256 ^ (8 - j))).toNat : Int) := by rw [UInt8.toNat_ofNat']; omega
          have hlow : N / 256 ^ (8 - j) < 18446744073709551616 := Nat.lt_of_le_of_lt (Nat.div_le_self _ _) HNL.out
          have hq := be_rest N 8 j hlt hj
          rw [← bv_set, beFill_step 8 j N hlt hj] at hst
          generalize hM : N / 256 ^ (8 - j) = M at *
          have HM := Lib.hid hm
          have HQ := Lib.hid hq
          have HST := Lib.hid hst
          have HXR := Lib.hid hxr
          clear hm hq hM hu0 hst hor hxr
          go_wp2
          go_roundw
          case rel =>
            rw [HM.out]
            exact ⟨j - 1, by omega, by rw [show ((j - 1 : Nat) : Int) = (j : Int) - 1 by omega], by rw [← HQ.out, Int.natCast_ediv]; rfl, HST.out, HXR.out.setCell (Nat.le_refl _) _⟩
          case measure => simp [intOf]; omega
        · obtain rfl : j = 0 := by omega
          have hbe : beFill 8 0 N = be 8 N := by simp [beFill]
          rw [hbe, HN.out] at hor
          have hBP : B ++ be 8 (p.length * 8) = padded p := by rw [← HB.out]; rfl
          have HBP := Lib.hid hBP
          have ho := Own.ext HOB.out hxr
          clear hbe hBP
          go_wp2_with (first
            | (at_builtin; refine wpList_app _ rfl (.tmp 42) (.tmp 43) _ _ rfl _ _ i0 _ 1 1 Try.underlying55 Try.underlying55 hi hz0 hz1 hz2 rfl (by decide) _ _ _ rfl ho _ _ _ (bv (be 8 (p.length * 8))) rfl (by simp [be_length]) (own_src hor) (bv_one _) (by rw [HBL.out]; unfold maxLen; omega) (by rw [HBL.out]; omega) ?_; intro v5 w5 ho5 hm5; obtain ⟨A7, c7, hv7⟩ := ho5.form; subst hv7; have hm5 : Moved wr w5 (.slice A5 B.length c5) (.slice A7 (B.length + 8) c7) := hm5)
            | (at_make; refine wpList_make_full _ rfl _ _ _ rfl 0 _ i1 _ 1 Try.underlying95 hi1 hy0 hy1 .i64 .i64 8 8 8 rfl rfl rfl rfl (by rw [hy2]; omega) (by unfold maxLen; omega) (Nat.zero_le _) ?_; intro w6 ho6 hg6; have hg6 : Ext w5 w6 := hg6)
            | fail)
          have hbl2 : (padded p).length = B.length + 8 := by rw [← HBP.out]; simp [be_length]
          have ho5 : OwnB w5 (.slice A7 (padded p).length c7) (padded p) := by rw [hbl2, ← HBP.out]; exact OwnB.app (by simpa [be_length] using ho5)
          have hm5 : Fresh W0 w5 (.slice A7 (padded p).length c7) := by rw [hbl2]; exact HFR.out.trans (Moved.pre hxr hm5)
          have hl64 : (padded p).length = 64 * ((padded p).length / 64) := by have := padded_length p; omega
          have hln : 0 < (padded p).length / 64 := by have := padded_length p; omega
          have hPl : (padded p).length ≤ 1099511627776 + 200 := by have := padded_length p; omega
          rw [← hbl2]
          have hox6 : OwnW w6 (.slice (some ⟨w5.heap.size, 0, none⟩) 8 8) (firstK.take 0 ++ List.replicate (8 - 0) 0) := by
            have e : dv (List.replicate 8 0) = (madeCells (Value.int .u64 0).cells (8 * 1)).toList := by
              rw [show (Value.int .u64 0).cells = #[.int .u64 0] from rfl, toList_madeCells_one, Nat.mul_one]
              simp [dv]
            show Own w6 _ 1 _ 8 (dv (List.replicate 8 0))
            rw [e]; exact ho6
          have hx5 : Ext W0 w5 := Fresh.ext hm5
          have hbox5 := HBOX.out.keep hx5 (by simp)
          have hres5 := HRES.out.keep hx5 (by simp)
          have hxw5 : Ext w w5 := HX0.out.trans hx5
          have hlt5 : w.heap.size + 1 < w5.heap.size := hres5.lt
          generalize hP : padded p = P at *
          have HP := Lib.hid hP
          have HO5 := Lib.hid ho5
          have HR5 := Lib.hid hres5
          have HB5 := Lib.hid hbox5
          have HX5 := Lib.hid hxw5
          have HL64 := Lib.hid hl64
          have HPL := Lib.hid hPl
          have HLN := Lib.hid hln
          clear hP ho5 hres5 hbox5 hxw5 hl64 hPl hln hx5 hm5 ho6 HFR HOB HBOX HRES HN HNL HBP HB HBL hbl2
          go_loopw [10] (fun i wq => ∃ k : Nat, k ≤ 8 ∧ i = .int .i64 k ∧ OwnW wq (.slice (some ⟨w5.heap.size, 0, none⟩) 8 8) (firstK.take k ++ List.replicate (8 - k) 0) ∧ Ext w5 wq) (fun i _ => 8 - (intOf i).toNat)
          case atStart => exact ⟨0, by omega, rfl, hox6, hg6⟩
          case round =>
            clear hox6 hg6
            obtain ⟨k, hk, rfl, hov, hxe⟩ := hrel
            by_cases hlt : k < 8
            · obtain ⟨hst, hln8⟩ := first_step k hlt
              obtain ⟨gv, cv, hv, _, _, _, hcv⟩ := hov.cells (by rw [hln8]; omega)
              rw [hln8] at hv
              cases hv
              obtain ⟨cm, fm⟩ := hcv k (by rw [hln8]; exact hlt)
              have cbox : wr.cell? ⟨w.heap.size, 0, none⟩ = some (Value.string Fs) := (HB5.out.keep hxe (by simp)).cell 0
              have hov2 := hov.store hln8 k (firstK.getD k 0)
              rw [hst] at hov2
              have hAt : ∀ W', Calls Try.prog 47 #[.string Fs, .int .i64 k] W' fun e w' => e = .returned (.int .u64 ((firstK.getD k 0 : Nat) : Int)) ∧ W' = w' := fun W' => by
                have h1 := Ref_at Fs k W' (by rw [hFs.size]; show 8 * k + 8 ≤ 8 * 8; omega) (by rw [hFs.size]; decide) hFs.ok
                rwa [hFs.val k hlt] at h1
              generalize firstK.getD k 0 = fk at *
              have HAT := Lib.hid hAt
              have HOV2 := Lib.hid hov2
              have HXE := Lib.hid hxe
              have k1 : (0 : Int) ≤ (k : Int) := by omega
              have k2 : (k : Int) < 8 := by omega
              clear hst hln8 hcv hov hAt hov2 hxe
              go_wp2_with fail
              refine (HAT.out _).mono ?_
              rintro e w7 ⟨rfl, rfl⟩
              go_wp2
              go_roundw
              case rel => exact ⟨k + 1, by omega, by go_num, HOV2.out, HXE.out.setCell (Nat.le_refl _) _⟩
              case measure => simp [intOf]; omega
            · obtain rfl : k = 8 := by omega
              have hov : OwnW wr (.slice (some ⟨w5.heap.size, 0, none⟩) 8 8) firstK := hov
              obtain ⟨wz, rfl⟩ : ∃ wz : World, wz = wr := ⟨_, rfl⟩
              have hbk : ∀ {w' : World}, Ext w5 w' → Cells w' ⟨w.heap.size, 0, none⟩ [Value.string Fs, Value.string R] := fun hx => (HB5.out.keep hx (by simp)).cells
              have HBK : Hid (∀ w' : World, Ext w5 w' → Cells w' ⟨w.heap.size, 0, none⟩ [Value.string Fs, Value.string R]) := Lib.hid (fun _ h => hbk h)
              have HXE := Lib.hid hxe
              have hbs : ∀ {n : Nat}, n = 2 → (Try.prog.info? 25).map (·.size) = some n := by rintro _ rfl; kernel_rfl
              have hPd := HO5.out.holds
              have hPlt := HO5.out.lt
              generalize hF5 : (fun b => (Value.slice A7 P.length c7).ownBlock = some b) = F5 at hPd
              have hF5l : ∀ b, F5 b → b < w5.heap.size := by rw [← hF5]; exact hPlt
              have HPD := Lib.hid hPd
              have HFL := Lib.hid hF5l
              obtain ⟨M, hM⟩ : ∃ M, M = P.length / 64 := ⟨_, rfl⟩
              have HM := Lib.hid hM
              clear hbk hPd hPlt hF5 hF5l hM
              go_wp2
              go_loopw [5, 9] (fun vb vh wq => ∃ k : Nat, k ≤ M ∧ slLen vb = P.length - 64 * k ∧ (Ty.sl .u8).holds w5 F5 [vb] (P.drop (64 * k)) ∧ OwnW wq vh (blocks P k) ∧ (∀ g, vh.ownBlock = some g → w5.heap.size ≤ g) ∧ Ext w5 wq) (fun vb _ _ => slLen vb)
              case atStart => exact ⟨0, by omega, by simp [slLen], HPD.out, hov, (by intro g hg; cases hg; exact Nat.le_refl _), HXE.out⟩
              case round =>
                clear hov hxe HXE
                obtain ⟨k, hk, hsl, hpd, hov, hfro, hxe⟩ := hrel
                obtain ⟨A8, c8, xs8, hv8, hlc8, hc8, hA8, hcell8, hall8⟩ := id hpd
                cases hv8
                have hdl : (P.drop (64 * k)).length = P.length - 64 * k := List.length_drop
                by_cases hlt : k < M
                · have hPk : 64 * k + 64 ≤ P.length := by have := HM.out; have := HL64.out; omega
                  have hdd := holds_take (A := A8) (c := c8) (n := 64) hpd (by rw [hdl]; omega)
                  have hdr := holds_drop (A := A8) (c := c8) (n := 64) hpd (by rw [hdl]; omega)
                  have h64 : ((P.drop (64 * k)).take 64).length = 64 := by rw [List.length_take, hdl]; omega
                  have hbo := blocks_ok P k
                  rw [List.drop_drop] at hdr
                  generalize (P.drop (64 * k)).length = n at *
                  have hgt : 64 ≤ n := by omega
                  have HXE := Lib.hid hxe
                  have HPQ := Lib.hid hdd
                  have HDR := Lib.hid hdr
                  have HDL := Lib.hid hdl
                  have H64 := Lib.hid h64
                  have HOV := Lib.hid hov
                  have HBO := Lib.hid hbo
                  clear hxe hdd hdr h64 hov hbo hpd hcell8 hall8
                  go_wp2
                  refine wp_region_draw_tail 4 (by kernel_rfl) (by kernel_rfl) (by kernel_rfl) ?_
                  simp only [List.take_succ_cons, List.take_zero, List.drop_succ_cons, List.drop_zero]
                  go_big_quiet_want
                  refine quiet_load_agg 25 (.tmp 2) rfl _ rfl [Value.string Fs, Value.string R] _ Try.underlying25 rfl (hbs rfl) (by rintro _ ⟨n, rfl⟩; exact HBK.out _ (HXE.out.drewN n)) ?_
                  simp only [Act.put, List.setIfInBounds_toArray, List.set_cons_succ, List.set_cons_zero]
                  go_big_quiet_on
                  repeat (go_big_quiet_step (fail))
                  refine wpQuiet_nil ?_
                  rintro _ ⟨nq, rfl⟩
                  have hxd : Ext w5 (wr.drewN nq) := HXE.out.drewN nq
                  have hovd : OwnW (wr.drewN nq) u9 (blocks P k) := Own.ext HOV.out ((Ext.refl wr).drewN nq)
                  have hpqd := hxd.holds HFL.out HPQ.out
                  have hFd : ∀ b, F5 b → b < (wr.drewN nq).heap.size := fun b hb => Nat.lt_of_lt_of_le (HFL.out b hb) hxd.size
                  have HXD := Lib.hid hxd
                  have HOVD := Lib.hid hovd
                  have HPQD := Lib.hid hpqd
                  have HFD := Lib.hid hFd
                  clear hxd hovd hpqd hFd HPQ HOV HXE
                  generalize wr.drewN nq = wd at *
                  go_wp2_with fail
                  refine (Ref_block Fs R _ _ (blocks P k) _ wd F5 hR HOVD.out HBO.out.1 HBO.out.2 HPQD.out HFD.out H64.out).mono ?_
                  rintro e w7 ⟨v7, rfl, ho7, hx7⟩
                  have ho7 : OwnW w7 v7 (blocks P (k + 1)) := ho7
                  have hf7 : ∀ g, v7.ownBlock = some g → w5.heap.size ≤ g := fun g hg => Nat.le_trans HXD.out.size (Fresh.new hx7 g hg)
                  have hx7 : Ext w5 w7 := HXD.out.trans (Fresh.ext hx7)
                  have HF7 := Lib.hid hf7
                  have HO7 := Lib.hid ho7
                  have HX7 := Lib.hid hx7
                  clear ho7 hx7 hf7 hfro
                  have hdr : ∀ A9 n9 c9, A9 = (if c8 = 64 then A8 else A8.map (·.add 64)) → n9 = n - 64 → c9 = c8 - 64 → (Ty.sl .u8).holds w5 F5 [.slice A9 n9 c9] (P.drop (64 * (k + 1))) := by
                    rintro _ _ _ rfl rfl rfl
                    have := HDR.out
                    rwa [show 64 * k + 64 = 64 * (k + 1) by omega] at this
                  have HDR := Lib.hid hdr
                  clear hdr
                  by_cases hc64 : c8 = 64
                  · subst hc64
                    go_wp2
                    go_roundw
                    case rel =>
                      repeat apply Exists.intro
                      refine ⟨?_, rfl⟩
                      exact ⟨k + 1, by omega, by simp [slLen]; omega, HDR.out _ _ _ (by simp) (by omega) (by omega), HO7.out, HF7.out, HX7.out⟩
                    case measure => simp [slLen]; omega
                  · go_wp2
                    go_roundw
                    case rel =>
                      repeat apply Exists.intro
                      refine ⟨?_, rfl⟩
                      exact ⟨k + 1, by omega, by simp [slLen]; omega, HDR.out _ _ _ (by rw [if_neg hc64]; first | rfl | (congr 1; funext x; exact (add_pos x (by decide)).symm) | congr 1) (by omega) (by omega), HO7.out, HF7.out, HX7.out⟩
                    case measure => simp [slLen]; omega
                · obtain rfl : k = M := by omega
                  have hPM : P.length = 64 * k := by rw [HM.out]; exact HL64.out
                  have hbo := blocks_ok P k
                  have hfin : (blocks P k).flatMap (be 4) = sha p := by rw [sha, HP.out, ← HM.out]
                  generalize blocks P k = S at hov hbo hfin
                  generalize (P.drop (64 * k)).length = n at *
                  obtain rfl : n = 0 := by omega
                  have hrs := HR5.out.keep hxe (by simp)
                  have hxw := HX5.out.trans hxe
                  have hov : OwnW wr u9 (worn S 32) := by rw [worn_32 S hbo.1]; exact hov
                  obtain ⟨gv, cv, hu9, -, -, hgv, -⟩ := hov.cells (by rw [worn_length]; omega)
                  rw [worn_length] at hu9
                  subst hu9
                  have hgv5 := hfro gv rfl
                  have hdz := Blk.new wr 22 Z
                  have hrs := hrs.keep ((Ext.refl wr).alloc (.cells Z.toArray 22)) (by simp)
                  have hxw := hxw.alloc (.cells Z.toArray 22)
                  have hov := Own.ext hov ((Ext.refl wr).alloc (.cells Z.toArray 22))
                  have hfl : (sha p).length = 32 := by rw [← hfin, flat4_length, hbo.1]
                  have hsb : ∀ i, i < 32 → (sha p).getD i 0 = UInt8.ofNat ((worn S (i + 1)).getD (i / 4) 0) := by rw [← hfin]; exact worn_byte S hbo.1
                  have hldn := laid_down (sha p)
                  rw [hfl] at hldn
                  generalize hD : sha p = D at *
                  have HD := Lib.hid hD
                  have HRS := Lib.hid hrs
                  have HXW := Lib.hid hxw
                  have HOV := Lib.hid hov
                  have HDZ := Lib.hid hdz
                  have HSB := Lib.hid hsb
                  have HSL := Lib.hid hbo.2
                  have HLD := Lib.hid hldn
                  have HFL32 := Lib.hid hfl
                  have hdz : (wr.alloc (.cells Z.toArray 22)).heap.size = wr.heap.size + 1 := by simp
                  have hbz : w.heap.size + 1 < wr.heap.size := by have := HR5.out.lt; have := hxe.size; omega
                  clear hD hrs hxw hov hdz hsb hldn hfl hbo hfin hxe hpd hcell8 hall8 hsl hdl hPM
                  go_wp2_with (first
                    | (refine wpList_alloc _ rfl 22 rfl _ hz ?_)
                    | fail)
                  generalize hDB : wr.heap.size = DB at *
                  go_loopw [12] (fun i wq => ∃ j : Nat, j ≤ 32 ∧ i = .int .i64 ((j : Int) - 1) ∧ OwnW wq (.slice (some ⟨gv, 0, none⟩) 8 cv) (worn S j) ∧ Blk wq DB 22 (bv (List.replicate j 0 ++ D.drop j)) ∧ Blk wq (w.heap.size + 1) 22 Z ∧ Ext w wq) (fun i _ => (intOf i + 1).toNat)
                  case atStart => exact ⟨32, by omega, rfl, HOV.out, by rw [List.drop_eq_nil_of_le (by rw [HFL32.out]; omega), List.append_nil, HZ.out]; exact HDZ.out, HRS.out, HXW.out⟩
                  case round =>
                    clear HOV HDZ HRS HXW
                    obtain ⟨j, hj, rfl, hov, hdz, hrs, hxw⟩ := hrel
                    by_cases hlt : 0 < j
                    · obtain ⟨i, rfl⟩ : ∃ i, j = i + 1 := ⟨j - 1, by omega⟩
                      have hq : i / 4 < 8 := by omega
                      obtain ⟨gv', cv', hv', -, -, -, hcv⟩ := hov.cells (by rw [worn_length]; omega)
                      rw [worn_length] at hv'
                      cases hv'
                      obtain ⟨ch, fh⟩ := hcv (i / 4) (by rw [worn_length]; exact hq)
                      have hl32 : (bv (List.replicate (i + 1) 0 ++ D.drop (i + 1))).length = 32 := by rw [bv_length, List.length_append, List.length_replicate, List.length_drop, HFL32.out]; omega
                      obtain ⟨u0, hu0⟩ : ∃ u0, (bv (List.replicate (i + 1) 0 ++ D.drop (i + 1)))[i]? = some u0 := ⟨_, List.getElem?_eq_getElem (by rw [hl32]; omega)⟩
                      have cd := (hdz.cell i).trans hu0
                      have fd := hdz.free i
                      have hb := HSB.out i (by omega)
                      have hld := HLD.out i (by omega)
                      have hws := worn_step S i (by omega)
                      have hds := hdz.set i (.int .u8 ((D.getD i 0).toNat : Int))
                      rw [← bv_set, hld] at hds
                      have hne : gv ≠ DB := by omega
                      have hne2 : gv ≠ w.heap.size + 1 := by omega
                      have hne3 : DB ≠ w.heap.size + 1 := by omega
                      have hm : (((worn S (i + 1)).getD (i / 4) 0 : Nat) : Int) % 256 = ((D.getD i 0).toNat : Int) := by rw [hb, UInt8.toNat_ofNat']; omega
                      generalize hX : (worn S (i + 1)).getD (i / 4) 0 = X at *
                      have c26 : ∀ u, (wr.setCell ⟨DB, i, none⟩ u).cell? ⟨gv, i / 4, none⟩ = some (Value.int .u64 (X : Int)) := fun u => (World.cell?_setCell_far _ _ _ _ (by simpa using fun h => hne h.symm)).trans ch
                      have f26 : ∀ u, (wr.setCell ⟨DB, i, none⟩ u).frozen? ⟨gv, i / 4, none⟩ = false := fun u => OwnW.fro (Own.keep hov (only_set i u) (.inr (by simpa [Value.ownBlock] using hne))) (worn_length _ _) _
                      have hX64 : X < 18446744073709551616 := by
                        have h1 := getD_lt HSL.out (i / 4)
                        have h2 : X ≤ S.getD (i / 4) 0 := by rw [← hX, worn_getD _ _ _ hq]; exact Nat.div_le_self _ _
                        omega
                      have kw : IntKind.u64.wrap ((X : Int) / 256) = ((X / 256 : Nat) : Int) := by simp only [IntKind.wrap_u64]; omega
                      have HM := Lib.hid hm
                      have HDS := Lib.hid hds
                      have HWS := Lib.hid hws
                      have HOV := Lib.hid hov
                      have HRS := Lib.hid hrs
                      have HXW := Lib.hid hxw
                      have hXl : (0 : Int) ≤ X := by omega
                      clear hm hds hws hov hdz hrs hxw hb hld hu0 hl32 hcv
                      clear hX
                      go_wp2
                      go_roundw
                      case rel =>
                        rw [HM.out]
                        have h1 : OwnW (wr.setCell ⟨DB, i, none⟩ (Value.int .u8 ((D.getD i 0).toNat : Int))) (.slice (some ⟨gv, 0, none⟩) 8 cv) (worn S (i + 1)) := Own.keep HOV.out (only_set i _) (.inr (by simpa [Value.ownBlock] using hne))
                        have h2 := h1.store (worn_length _ _) (i / 4) (X / 256)
                        rw [HWS.out] at h2
                        exact ⟨i, by omega, by go_num, h2, HDS.out.keep (only_set (i / 4) _) (by simpa using fun h => hne h.symm), (HRS.out.keep (only_set i _) (by simpa using fun h => hne3 h.symm)).keep (only_set (i / 4) _) (by simpa using fun h => hne2 h.symm), (HXW.out.setCell (by show w.heap.size ≤ DB; omega) _).setCell (by show w.heap.size ≤ gv; omega) _⟩
                      case measure => simp [intOf]
                    · obtain rfl : j = 0 := by omega
                      rw [List.replicate_zero, List.nil_append, List.drop_zero] at hdz
                      have hsl : (bv D).length = 32 := by rw [bv_length]; exact HFL32.out
                      have hso := bv_one D
                      have hzl := HZL.out
                      generalize hR' : bv D = RR at hdz hsl hso
                      have HR' := Lib.hid hR'
                      clear hR'
                      have hcd := hdz.cells
                      have hrw : wr.heap[w.heap.size + 1]? = some (.cells Z.toArray 22 (0, 0)) := hrs
                      have HSL2 := Lib.hid hsl
                      have HXW := Lib.hid hxw
                      clear hsl hxw hzl hov
                      go_wp2_with (first
                        | (refine wpList_load_agg _ rfl 22 (.tmp 11) rfl _ rfl RR _ Try.underlying22 rfl (b32_size HSL2.out) hcd ?_)
                        | (refine wpList_store_row _ rfl 22 (.tmp 4) (.tmp 90) rfl (w.heap.size + 1) rfl Z RR _ rfl hrw (b32_size HSL2.out) (by rw [HSL2.out, HZL.out]) hso ?_)
                        | fail)
                      have hc : Cells (wr.setRow (w.heap.size + 1) RR.toArray) ⟨w.heap.size + 1, 0, none⟩ RR := Blk.cells (t := 22) (setRow_at hrw)
                      (try simp only [Exit.inBlock, Exit.then])
                      refine bodyPost_ret (results_agg rfl _ _ _ _ _ rfl Try.underlying22 rfl (b32_size HSL2.out) hc) rfl ?_
                      exact ⟨by rw [HD.out, HR'.out], setRow_grown HXW.out _ _ (by omega)⟩
end
section
open Go.RowKit

/-- The standard's first words, and what each round adds, in base sixteen. -/
def tabFirst : ByteArray := { data := #[54, 97, 48, 57, 101, 54, 54, 55, 98, 98, 54, 55, 97, 101, 56, 53, 51, 99, 54, 101, 102, 51, 55, 50, 97, 53, 52, 102, 102, 53, 51, 97, 53, 49, 48, 101, 53, 50, 55, 102, 57, 98, 48, 53, 54, 56, 56, 99, 49, 102, 56, 51, 100, 57, 97, 98, 53, 98, 101, 48, 99, 100, 49, 57] }
def tabRounds : ByteArray := { data := ((([52, 50, 56, 97, 50, 102, 57, 56, 55, 49, 51, 55, 52, 52, 57, 49, 98, 53, 99, 48, 102, 98, 99, 102, 101, 57, 98, 53, 100, 98, 97, 53, 51, 57, 53, 54, 99, 50, 53, 98, 53, 57, 102, 49, 49, 49, 102, 49, 57, 50, 51, 102, 56, 50, 97, 52, 97, 98, 49, 99, 53, 101, 100, 53].append [100, 56, 48, 55, 97, 97, 57, 56, 49, 50, 56, 51, 53, 98, 48, 49, 50, 52, 51, 49, 56, 53, 98, 101, 53, 53, 48, 99, 55, 100, 99, 51, 55, 50, 98, 101, 53, 100, 55, 52, 56, 48, 100, 101, 98, 49, 102, 101, 57, 98, 100, 99, 48, 54, 97, 55, 99, 49, 57, 98, 102, 49, 55, 52]).append ([101, 52, 57, 98, 54, 57, 99, 49, 101, 102, 98, 101, 52, 55, 56, 54, 48, 102, 99, 49, 57, 100, 99, 54, 50, 52, 48, 99, 97, 49, 99, 99, 50, 100, 101, 57, 50, 99, 54, 102, 52, 97, 55, 52, 56, 52, 97, 97, 53, 99, 98, 48, 97, 57, 100, 99, 55, 54, 102, 57, 56, 56, 100, 97].append [57, 56, 51, 101, 53, 49, 53, 50, 97, 56, 51, 49, 99, 54, 54, 100, 98, 48, 48, 51, 50, 55, 99, 56, 98, 102, 53, 57, 55, 102, 99, 55, 99, 54, 101, 48, 48, 98, 102, 51, 100, 53, 97, 55, 57, 49, 52, 55, 48, 54, 99, 97, 54, 51, 53, 49, 49, 52, 50, 57, 50, 57, 54, 55])).append (([50, 55, 98, 55, 48, 97, 56, 53, 50, 101, 49, 98, 50, 49, 51, 56, 52, 100, 50, 99, 54, 100, 102, 99, 53, 51, 51, 56, 48, 100, 49, 51, 54, 53, 48, 97, 55, 51, 53, 52, 55, 54, 54, 97, 48, 97, 98, 98, 56, 49, 99, 50, 99, 57, 50, 101, 57, 50, 55, 50, 50, 99, 56, 53].append [97, 50, 98, 102, 101, 56, 97, 49, 97, 56, 49, 97, 54, 54, 52, 98, 99, 50, 52, 98, 56, 98, 55, 48, 99, 55, 54, 99, 53, 49, 97, 51, 100, 49, 57, 50, 101, 56, 49, 57, 100, 54, 57, 57, 48, 54, 50, 52, 102, 52, 48, 101, 51, 53, 56, 53, 49, 48, 54, 97, 97, 48, 55, 48]).append ([49, 57, 97, 52, 99, 49, 49, 54, 49, 101, 51, 55, 54, 99, 48, 56, 50, 55, 52, 56, 55, 55, 52, 99, 51, 52, 98, 48, 98, 99, 98, 53, 51, 57, 49, 99, 48, 99, 98, 51, 52, 101, 100, 56, 97, 97, 52, 97, 53, 98, 57, 99, 99, 97, 52, 102, 54, 56, 50, 101, 54, 102, 102, 51].append [55, 52, 56, 102, 56, 50, 101, 101, 55, 56, 97, 53, 54, 51, 54, 102, 56, 52, 99, 56, 55, 56, 49, 52, 56, 99, 99, 55, 48, 50, 48, 56, 57, 48, 98, 101, 102, 102, 102, 97, 97, 52, 53, 48, 54, 99, 101, 98, 98, 101, 102, 57, 97, 51, 102, 55, 99, 54, 55, 49, 55, 56, 102, 50]))).toArray }
theorem tab_first : HexTab tabFirst firstK := ⟨by decide +kernel, by decide +kernel, by decide +kernel⟩
theorem tab_rounds : HexTab tabRounds stirK := ⟨by decide +kernel, by decide +kernel, by decide +kernel⟩
theorem tables_zero : (Try.prog.info? 25).bind (fun i => i.zero.map (·.cells)) = some [Value.string ⟨#[]⟩, Value.string ⟨#[]⟩].toArray := by kernel_rfl

set_option maxRecDepth 100000 in
set_option maxHeartbeats 1000000 in
theorem Ref_Make (w : World) : Calls Try.prog 8 #[] w fun e w' => e = .returned (.agg #[.string tabFirst, .string tabRounds]) ∧ Ext w w' := by
  go_enter Try.func8, Try.ntmps8
  go_wp2_with (first
    | (refine wpList_alloc _ rfl 25 rfl _ tables_zero ?_)
    | (refine wpList_build (.inl rfl) 25 _ rfl (.agg [Value.string tabFirst, Value.string tabRounds].toArray) (by kernel_rfl) ?_)
    | (refine wpList_store_new _ rfl 25 (.tmp 0) (.tmp 1) rfl rfl [Value.string ⟨#[]⟩, Value.string ⟨#[]⟩] [Value.string tabFirst, Value.string tabRounds] _ rfl (by kernel_rfl) rfl (by intro u hu; simp at hu; rcases hu with rfl | rfl <;> rfl) ?_)
    | fail)
  have hc : Cells (w.alloc (.cells [Value.string tabFirst, Value.string tabRounds].toArray 25)) ⟨w.heap.size, 0, none⟩ [Value.string tabFirst, Value.string tabRounds] := by have := Cells.of_block (heap_alloc_new w (.cells [Value.string tabFirst, Value.string tabRounds].toArray 25)); simpa using this
  (try simp only [Exit.inBlock, Exit.then])
  refine bodyPost_ret (results_agg rfl _ _ _ _ _ rfl Try.underlying25 rfl (by kernel_rfl) hc) rfl ?_
  exact ⟨rfl, (Ext.refl w).alloc _⟩
end
section
open Go.RowKit

theorem four_bytes (n : Nat) (a b c d : Int) (h1 : a = ((n / 16777216 : Nat) : Int) % 256) (h2 : b = ((n / 65536 : Nat) : Int) % 256) (h3 : c = ((n / 256 : Nat) : Int) % 256) (h4 : d = (n : Int) % 256) :
    [Value.int .u8 a, Value.int .u8 b, Value.int .u8 c, Value.int .u8 d] = bv (be 4 n) := by
  subst h1 h2 h3 h4
  simp only [be, bv, List.map_cons, List.map_nil, UInt8.toNat_ofNat', Nat.reducePow, Nat.div_one]
  simp only [Int.natCast_emod]
  rfl

theorem four_list (n : Nat) : bv (be 4 n) = [Value.int .u8 ((n : Int) / 16777216 % 256), Value.int .u8 ((n : Int) / 65536 % 256), Value.int .u8 ((n : Int) / 256 % 256), Value.int .u8 ((n : Int) % 256)] := (four_bytes n _ _ _ _ (by omega) (by omega) (by omega) (by omega)).symm
set_option maxRecDepth 100000 in
set_option maxHeartbeats 1000000 in
theorem Ref_Text (d : UInt8) (v : Value) (ps : List (List UInt8)) (w : World) (F : Fp) (hp : (Ty.sl (.sl .u8)).holds w F [v] ps) (hF : ∀ b, F b → b < w.heap.size) (hb : (ps.flatMap blob).length < 1099511627776) :
    Calls Try.prog 46 #[.int .u8 d.toNat, v] w fun e w' => ∃ v', e = .returned v' ∧ OwnB w' v' (textM d ps) ∧ Fresh w w' v' := by
  obtain ⟨i0, hi, hz0, hz1, hz2⟩ := info_parts u8_info
  obtain ⟨A, c, xs, hv, hlc, hc, hA, hcell, hall⟩ := hp
  cases hv
  unfold maxLen at hc
  obtain ⟨lb, hlb⟩ : ∃ lb : UInt8, lb = UInt8.ofNat ps.length := ⟨_, rfl⟩
  have hlb1 : (ps.length : Int) % 256 = (lb.toNat : Int) := by rw [hlb, UInt8.toNat_ofNat']; omega
  have HLB := Lib.hid hlb
  clear hlb
  go_enter Try.func46, Try.ntmps46
  go_wp2
  have hst : OwnB (w.alloc (.cells #[Value.int .u8 (d.toNat : Int), Value.int .u8 (lb.toNat : Int)] 5)) (.slice (some ⟨w.heap.size, 0, none⟩) 2 2) ([d, lb] ++ (ps.take 0).flatMap blob) := own_lit (cs := bv [d, lb]) rfl rfl (by simp [maxLen])
  have hfr : Fresh w (w.alloc (.cells #[Value.int .u8 (d.toNat : Int), Value.int .u8 (lb.toNat : Int)] 5)) (.slice (some ⟨w.heap.size, 0, none⟩) 2 2) := ⟨((Ext.refl w).alloc _).any _, .inr (by intro g hg; cases hg; exact Nat.le_refl _)⟩
  clear hlb1
  go_loopw [5, 6] (fun vb i wr => ∃ k : Nat, k ≤ ps.length ∧ i = .int .i64 k ∧ OwnB wr vb ([d, lb] ++ (ps.take k).flatMap blob) ∧ Fresh w wr vb) (fun _ i _ => ps.length - (intOf i).toNat)
  case atStart => exact ⟨0, by omega, rfl, hst, hfr⟩
  case round =>
    clear hst hfr
    obtain ⟨k, hk, rfl, ho, hfr⟩ := hrel
    by_cases hlt : k < ps.length
    · have hx : Ext w wr := Fresh.ext hfr
      obtain ⟨ad, rfl, hf, hcells⟩ := hcell (by rintro rfl; simp at hlt)
      obtain ⟨y, hy, hyh⟩ := AllH.sl_at hall hlt
      have hcx := (hcells.keep (hx.same hF _ hf)) k _ hy
      have HYW := Lib.hid hyh
      have HYC := Lib.hid hy
      obtain ⟨A1, c1, xs1, hv1, hlc1, hc1, _⟩ := hyh
      cases hv1
      unfold maxLen at hc1
      have hbd := flat_len_step blob ps k hlt
      have hbl : (blob ps[k]).length = 4 + ps[k].length := by simp [blob, be_length]
      have hstep := flat_step blob ps k hlt
      rw [hbl] at hbd
      generalize hB : [d, lb] ++ (ps.take k).flatMap blob = B at *
      have hBl : B.length = 2 + ((ps.take k).flatMap blob).length := by rw [← hB]; simp; omega
      have hnew : [d, lb] ++ (ps.take (k + 1)).flatMap blob = (B ++ be 4 ps[k].length) ++ ps[k] := by rw [hstep, ← hB]; simp [blob]
      have HNEW := Lib.hid hnew
      clear hbl hstep hy hnew hB
      generalize hpk : ps[k] = p at *
      clear hpk
      have HBL := Lib.hid hBl
      have hB40 : B.length + 4 + p.length < 1099511627790 := by omega
      have q1 : (0 : Int) ≤ (p.length : Int) := by omega
      clear hBl
      go_wp2_with (first
        | (at_builtin; refine wpList_app _ rfl (.tmp 24) (.tmp 36) _ _ rfl _ _ i0 _ 1 1 Try.underlying55 Try.underlying55 hi hz0 hz1 hz2 rfl (by decide) _ _ _ rfl (Own.ext ho ((Ext.refl _).alloc _)) _ _ _ [Value.int .u8 _, Value.int .u8 _, Value.int .u8 _, Value.int .u8 _] rfl rfl (src_new _ _ _ _) (by simp [Value.oneCell']) (by unfold maxLen; omega) (by omega) ?_; intro v3 w3 ho3 hm3; have hfr3 : Fresh w w3 v3 := hfr.trans (Moved.pre ((Ext.refl _).alloc _) hm3); have hcx3 := (hcells.keep ((Fresh.ext hfr3).same hF _ hf)) k _ HYC.out; have ho3 : OwnB w3 v3 (B ++ be 4 p.length) := OwnB.app (by rw [be_length, four_list]; exact ho3); have hbl3 : (B ++ be 4 p.length).length = B.length + 4 := by simp [be_length])
        | (at_builtin; refine wpList_app _ rfl (.tmp 38) (.tmp 42) _ _ rfl _ _ i0 _ 1 1 Try.underlying55 Try.underlying55 hi hz0 hz1 hz2 rfl (by decide) _ _ _ rfl ho3 _ _ _ (bv p) rfl (by simp) (src_bytes ((Fresh.ext hfr3).holds hF HYW.out)) (bv_one _) (by rw [hbl3]; unfold maxLen; omega) (by rw [hbl3]; omega) ?_; intro v4 w4 ho4 hm4)
        | fail)
      go_roundw
      case rel =>
        exact ⟨k + 1, by omega, by go_num, by rw [HNEW.out]; exact OwnB.app ho4, hfr3.trans hm4⟩
      case measure => simp [intOf]; omega
    · obtain rfl : k = ps.length := by omega
      go_wp2
      go_ret
      refine ⟨_, rfl, ?_, hfr⟩
      have e : [d, lb] ++ (ps.take ps.length).flatMap blob = textM d ps := by rw [List.take_length, HLB.out]; rfl
      rw [← e]; exact ho
end
section
open Go.RowKit

theorem step_load_agg {P : Program} {ops : Array Oper} {w : World} {o : Oper} {a : Act} {K : Act → World → Prop} {Q : Exit → Act → World → Prop} {E : Prop} (hgd : o.guard = none) (ty : TypeId) (x : Operand) (ho : o.op = .load ty x)
    (ad : Addr) (hx : a.eval x = .pointer (some ad)) (cs : List Value) (d : TypeDesc) (hu : P.underlying ty = some d) (hd : isAggD d = true) (hi : (P.info? ty).map (·.size) = some cs.length) (hc : Cells w ad cs)
    (h : K (a.put o.dst (.agg cs.toArray)) w) : if Region.wanted o (yielded ops a.tmps) = true then Oper.wp P o a w K Q else E := by
  have hw : Region.wanted o (yielded ops a.tmps) = true := by simp [Region.wanted, hgd]
  rw [if_pos hw]
  unfold Oper.wp execOp
  simp only [ho, hx, Instr.loadAt, Instr.sureAddr, Sem.run_bind, Sem.run_pure, Result.andThen_ok, run_load_agg w ty ad cs d hu hd hi hc]
  exact h
theorem blk_there {w : World} {g : Nat} {t : TypeId} {old : List Value} (h : Blk w g t old) {n : Nat} (hn : n = old.length) : w.there g 0 n := by
  subst hn
  intro j hj
  rw [Nat.zero_add, h.cell j, h.free j]
  exact ⟨by simp [hj], rfl⟩
theorem setCells_row {w : World} {g : Nat} {t : TypeId} {old : List Value} (h : Blk w g t old) {cs : List Value} (hl : cs.length = old.length) (hi : (Try.prog.info? 22).map (·.size) = some cs.length) (h1 : ∀ u ∈ cs, u.oneCell' = true) : w.setCells g 0 cs = w.setRow g cs.toArray := by
  have a := run_storeVar_mid (P := Try.prog) w g 0 22 cs.toArray (blk_there h (by simpa using hl)) (by simpa using hi) (by simpa using h1)
  have b : (storeVar 22 ⟨g, 0, none⟩ (.agg cs.toArray)).run Try.prog w = .ok () (w.setRow g cs.toArray) := by
    obtain ⟨i, hi', hs⟩ := Option.map_eq_some_iff.1 hi
    simp only [storeVar, sizeOf, typeInfo, Sem.run_bind, run_program, Result.andThen_ok, hi', Sem.run_pure, hs, Value.cells, List.size_toArray, ne_eq, not_true, if_false, run_store_row w g t old cs h hl h1]
  rw [a] at b
  simpa using b

set_option maxRecDepth 100000 in
set_option maxHeartbeats 1000000 in
theorem Ref_For (Fs R : ByteArray) (d : UInt8) (v : Value) (ps : List (List UInt8)) (w : World) (F : Fp) (hFs : HexTab Fs firstK) (hR : HexTab R stirK) (hp : (Ty.sl (.sl .u8)).holds w F [v] ps) (hF : ∀ b, F b → b < w.heap.size) (hb : (ps.flatMap blob).length < 1099511627000) :
    Calls Try.prog 35 #[.agg #[.string Fs, .string R], .int .u8 d.toNat, v] w fun e w' => e = .returned (.agg (bv (sha (textM d ps))).toArray) ∧ Ext w w' := by
  have hz := b32_zero
  have hzl : (bv (List.replicate 32 0)).length = 32 := by simp
  generalize bv (List.replicate 32 0) = Z at hz hzl
  have hbs : ∀ {n : Nat}, n = 2 → (Try.prog.info? 25).map (·.size) = some n := by rintro _ rfl; kernel_rfl
  have hx0 : Ext w ((w.alloc (.cells #[.string Fs, .string R] 25)).alloc (.cells Z.toArray 22)) := ((Ext.refl w).alloc _).alloc _
  have hbox0 : Blk ((w.alloc (.cells #[.string Fs, .string R] 25)).alloc (.cells Z.toArray 22)) w.heap.size 25 [Value.string Fs, Value.string R] := (Blk.new w 25 [Value.string Fs, Value.string R]).keep ((Ext.refl _).alloc _) (by simp)
  have hres0 : Blk ((w.alloc (.cells #[.string Fs, .string R] 25)).alloc (.cells Z.toArray 22)) (w.heap.size + 1) 22 Z := by have := Blk.new (w.alloc (.cells #[.string Fs, .string R] 25)) 22 Z; simpa using this
  have htl : (textM d ps).length < 1099511627776 := by simp only [textM, List.length_cons]; omega
  have hsl : (bv (sha (textM d ps))).length = 32 := by rw [bv_length, sha_length]
  have HP := Lib.hid hp
  have HZL := Lib.hid hzl
  clear hp hzl
  go_enter Try.func35, Try.ntmps35
  go_wp2_with (first
    | (refine wpList_alloc _ rfl 22 rfl _ hz ?_)
    | fail)
  generalize ((w.alloc (.cells #[.string Fs, .string R] 25)).alloc (.cells Z.toArray 22)) = W0 at *
  have hT : ∀ W', Ext W0 W' → Calls Try.prog 46 #[.int .u8 d.toNat, v] W' fun e w' => ∃ v', e = .returned v' ∧ OwnB w' v' (textM d ps) ∧ Ext W' w' := fun W' hx =>
    (Ref_Text d v ps W' F ((hx0.trans hx).holds hF HP.out) (fun b hb => Nat.lt_of_lt_of_le (hF b hb) (hx0.trans hx).size) (by omega)).mono (by rintro e w' ⟨v', rfl, h1, h2⟩; exact ⟨v', rfl, h1, Fresh.ext h2⟩)
  have HT := Lib.hid hT
  have HBOX := Lib.hid hbox0
  have HRES := Lib.hid hres0
  have HX0 := Lib.hid hx0
  have HSL := Lib.hid hsl
  have hso := bv_one (sha (textM d ps))
  clear hT hbox0 hres0 hx0 hsl hz
  have hS : ∀ w' : World, W0.grownBy w' (some (w.heap.size + 1)) → w'.cell? ⟨w.heap.size, 0, none⟩ = some (Value.string Fs) ∧ w'.cell? ⟨w.heap.size, 1, none⟩ = some (Value.string R) := fun w' h => ⟨(HBOX.out.keep h (by simp)).cell 0, (HBOX.out.keep h (by simp)).cell 1⟩
  have HS := Lib.hid hS
  clear hS
  have hzl2 : (bv (sha (textM d ps))).length = Z.length := by rw [HSL.out, HZL.out]
  have hi32 : (Try.prog.info? 22).map (·.size) = some (bv (sha (textM d ps))).length := b32_size HSL.out
  go_region_held_law (fun w' => w'.cell? ⟨w.heap.size, 0, none⟩ = some (Value.string Fs) ∧ w'.cell? ⟨w.heap.size, 1, none⟩ = some (Value.string R))
    ((refine HS.out _ ?_; first | exact (Ext.drew (Ext.refl _)).any _ | exact (Ext.trans (Ext.drew (Ext.refl _)) (by assumption)).any _ | exact ((Ext.trans (Ext.drew (Ext.refl _)) (by assumption)).trans (by assumption)).any _ | (rw [setCells_row (by assumption) (by assumption) (by assumption) hso]; exact grown_then (Ext.any (by assumption) (some (w.heap.size + 1))) (setRow_only _) (.inl rfl)))) (first
    | (go_at_call 46; refine (HT.out _ (Ext.drew (Ext.refl _))).mono ?_; rintro e W1 ⟨vt, rfl, hot, hxt⟩)
    | (go_at_call 38; refine (Ref_Of Fs R _ (textM d ps) _ _ hFs hR (OwnB.holds (by assumption)) (OwnB.lt (by assumption)) htl).mono ?_; rintro e W2 ⟨rfl, hx2⟩; have hx3 := (Ext.drew (Ext.refl _)).trans (hxt.trans hx2); have hrs2 := HRES.out.keep hx3 (by simp); have hth := blk_there hrs2 (hzl2); have hin := hi32))
  rw [setCells_row (by assumption) (by assumption) (by assumption) hso]
  have hc : Cells (W2.setRow (w.heap.size + 1) (bv (sha (textM d ps))).toArray) ⟨w.heap.size + 1, 0, none⟩ (bv (sha (textM d ps))) := Blk.cells (t := 22) (setRow_at hrs2)
  go_wp2_with fail
  (try simp only [Exit.inBlock, Exit.then])
  refine bodyPost_ret (results_agg rfl _ _ _ _ _ rfl Try.underlying22 rfl hi32 hc) rfl ?_
  exact ⟨rfl, setRow_grown (HX0.out.trans hx3) _ _ (by omega)⟩
end
section
open Go.RowKit

/-- The document's tables. -/
def tabsC : List Value := [.string tabFirst, .string tabRounds]
theorem tabs_size {n : Nat} (h : n = 2) : (Try.prog.info? 25).map (·.size) = some n := by subst h; kernel_rfl
theorem RFor (d : UInt8) (x : Int) (hx : x = (d.toNat : Int)) (ps : List (List UInt8)) (hb : (ps.flatMap blob).length < 1099511627000) (v : Value) (w : World) (F : Fp) (hp : (Ty.sl (.sl .u8)).holds w F [v] ps) (hF : ∀ b, F b → b < w.heap.size) :
    Calls Try.prog 35 #[.agg tabsC.toArray, .int .u8 x, v] w fun e w' => e = .returned (.agg (bv (sha (textM d ps))).toArray) ∧ Ext w w' := by
  subst hx; exact Ref_For tabFirst tabRounds d v ps w F tab_first tab_rounds hp hF hb
theorem one_part {w : World} {a : Value} {p : List UInt8} {F : Fp} {T : TypeId} (ha : (Ty.sl .u8).holds w F [a] p) (hF : ∀ x, F x → x < w.heap.size) :
    ∃ F', (Ty.sl (.sl .u8)).holds (w.alloc (.cells #[a] T)) F' [.slice (some ⟨w.heap.size, 0, none⟩) 1 1] [p] ∧ ∀ x, F' x → x < (w.alloc (.cells #[a] T)).heap.size := by
  refine ⟨_, parts_new (w := w) (vs := [a]) (F := F) rfl rfl (by simp [maxLen]) (AllH.one (R := (Ty.sl .u8).holds _ _) ha) hF, ?_⟩
  rintro x (h | rfl)
  · have := hF x h; simp; omega
  · simp
set_option maxRecDepth 100000 in
set_option maxHeartbeats 4000000 in
theorem RCover (p : List UInt8) (hp : p.length = 16) (w : World) :
    Calls Try.prog 33 #[.agg tabsC.toArray, .agg (bv p).toArray] w fun e w' => e = .returned (.agg (bv (coverM p)).toArray) ∧ Ext w w' := by
  obtain ⟨Z, hz, hzl⟩ : ∃ Z : List Value, (Try.prog.info? 35).bind (fun i => i.zero.map (·.cells)) = some Z.toArray ∧ Z.length = 16 := ⟨_, rpiece_zero, by simp⟩
  have hfor := fun v W F hp2 hF => RFor 5 5 rfl [p] (by simp [blob, be_length, hp]) v W F hp2 hF
  have hfi := fun W => RFirst (sha (textM 5 [p])) (sha_length _) W
  have hcv : (sha (textM 5 [p])).take 16 = coverM p := rfl
  rw [hcv] at hfi
  have hts : (Try.prog.info? 25).map (·.size) = some tabsC.length := tabs_size rfl
  generalize tabsC = TB at *
  have hrl : (bv (coverM p)).length = 16 := by rw [bv_length, coverM_length]
  have hro := bv_one (coverM p)
  have hb0 : Blk (((w.alloc (.cells TB.toArray 25)).alloc (.cells (bv p).toArray 35)).alloc (.cells Z.toArray 35)).drew w.heap.size 25 TB := (((Blk.new _ _ _).keep ((Ext.refl _).alloc _) (by simp)).keep ((Ext.refl _).alloc _) (by simp)).keep (Ext.refl _).drew (by simp)
  have hb1 : Blk (((w.alloc (.cells TB.toArray 25)).alloc (.cells (bv p).toArray 35)).alloc (.cells Z.toArray 35)).drew (w.heap.size + 1) 35 (bv p) := ((Blk.fresh (by simp) _ _).keep ((Ext.refl _).alloc _) (by simp)).keep (Ext.refl _).drew (by simp)
  have hb2 : Blk (((w.alloc (.cells TB.toArray 25)).alloc (.cells (bv p).toArray 35)).alloc (.cells Z.toArray 35)).drew (w.heap.size + 1 + 1) 35 Z := (Blk.fresh (by simp) _ _).keep (Ext.refl _).drew (by simp)
  have hx0 : Ext w (((w.alloc (.cells TB.toArray 25)).alloc (.cells (bv p).toArray 35)).alloc (.cells Z.toArray 35)).drew := ((((Ext.refl w).alloc _).alloc _).alloc _).trans (Ext.refl _).drew
  have hsrc : ∀ W, Ext (((w.alloc (.cells TB.toArray 25)).alloc (.cells (bv p).toArray 35)).alloc (.cells Z.toArray 35)).drew W → (Ty.sl .u8).holds W (fun b => b = w.heap.size + 1) [.slice (some ⟨w.heap.size + 1, 0, none⟩) 16 16] p ∧ ∀ b, b = w.heap.size + 1 → b < W.heap.size := by
    intro W hX
    have hb := hb1.keep hX (by simp)
    refine ⟨⟨_, _, bv p, by rw [hp], by rw [hp]; exact Nat.le_refl _, by simp [maxLen], by simp, fun _ => ⟨_, rfl, rfl, hb.cells⟩, AllH.bytes.2 rfl⟩, ?_⟩
    rintro b rfl; exact hb.lt
  generalize bv (coverM p) = R at *
  generalize bv (sha (textM 5 [p])) = HH at *
  generalize bv p = PC at *
  have HB0 := Lib.hid hb0
  have HB2 := Lib.hid hb2
  have HX0 := Lib.hid hx0
  have HSRC := Lib.hid hsrc
  have HFOR := Lib.hid hfor
  have HFI := Lib.hid hfi
  have HRL := Lib.hid hrl
  have HZL := Lib.hid hzl
  have HTS := Lib.hid hts
  clear hb0 hb1 hb2 hx0 hsrc hfor hfi hrl hzl hts hcv
  go_enter Try.func33, Try.ntmps33
  go_wp2_with (first
    | (refine wpList_alloc _ rfl 35 rfl _ hz ?_)
    | fail)
  simp only [World.size_alloc]
  refine stab_store Ext ext_refl ext_trans [[0], [1], [1, 2], [0, 1, 2, 3], [0, 1, 2, 3, 4], [0, 1, 2, 3, 4, 5]] (fun i v wv => match i with | 0 => v = .agg TB.toArray | 1 => v = .slice (some ⟨w.heap.size + 1, 0, none⟩) 16 16 | 2 => ∃ F, (Ty.sl (.sl .u8)).holds wv F [v] [p] ∧ ∀ b, F b → b < wv.heap.size | 3 => v = .agg HH.toArray | 4 => v = .agg R.toArray | _ => True) (by kernel_rfl) (by kernel_rfl) (by kernel_rfl) (by kernel_rfl) (by simp) ?_ ?_ ?_
  · intro i v w1 w2 h hx
    match i, h with
    | 0, h => exact h
    | 1, h => exact h
    | 2, h =>
      replace h : ∃ F, (Ty.sl (.sl .u8)).holds w1 F [v] [p] ∧ ∀ b, F b → b < w1.heap.size := h
      show ∃ F, (Ty.sl (.sl .u8)).holds w2 F [v] [p] ∧ ∀ b, F b → b < w2.heap.size
      obtain ⟨F, h1, h2⟩ := h
      exact ⟨F, hx.holds h2 h1, fun b hb => Nat.lt_of_lt_of_le (h2 b hb) hx.size⟩
    | 3, h => exact h
    | 4, h => exact h
    | i + 5, h => trivial
  · intro i hi o ho
    match i, hi, ho with
    | 0, _, ho =>
      obtain rfl := Option.some.inj ho
      intro s W hX hd K hK
      rw [if_pos (wanted_plain rfl)]
      clear hd
      replace hK : ∀ (v : Value) (W' : World), Ext W W' → (v = .agg TB.toArray) → _ := hK
      simp only [mkOf, List.map_cons, List.map_nil, Act.put, List.setIfInBounds_toArray, List.set_cons_succ, List.set_cons_zero, Nat.reduceAdd, Nat.zero_add] at hK ⊢
      refine wp_load_agg 25 (.tmp 2) rfl _ rfl TB _ Try.underlying25 rfl HTS.out (HB0.out.keep hX (by simp)).cells ?_
      exact hK _ _ (Ext.refl _) rfl
    | 1, _, ho =>
      obtain rfl := Option.some.inj ho
      intro s W hX hd K hK
      rw [if_pos (wanted_plain rfl)]
      clear hd
      replace hK : ∀ (v : Value) (W' : World), Ext W W' → (v = .slice (some ⟨w.heap.size + 1, 0, none⟩) 16 16) → _ := hK
      simp only [mkOf, List.map_cons, List.map_nil, Act.put, List.setIfInBounds_toArray, List.set_cons_succ, List.set_cons_zero, Nat.reduceAdd, Nat.zero_add] at hK ⊢
      go_simp
      exact hK _ _ (Ext.refl _) rfl
    | 2, _, ho =>
      obtain rfl := Option.some.inj ho
      intro s W hX hd K hK
      rw [if_pos (wanted_plain rfl)]
      have d6 : (s 1) = .slice (some ⟨w.heap.size + 1, 0, none⟩) 16 16 := hd 1 (by decide) (by decide)
      clear hd
      replace hK : ∀ (v : Value) (W' : World), Ext W W' → (∃ F, (Ty.sl (.sl .u8)).holds W' F [v] [p] ∧ ∀ b, F b → b < W'.heap.size) → _ := hK
      simp only [mkOf, List.map_cons, List.map_nil, Act.put, List.setIfInBounds_toArray, List.set_cons_succ, List.set_cons_zero, Nat.reduceAdd, Nat.zero_add] at hK ⊢
      simp only [d6] at hK ⊢
      have hsd := HSRC.out W hX
      go_simp
      exact hK _ _ ((Ext.refl _).alloc _) (one_part hsd.1 hsd.2)
    | 3, _, ho =>
      obtain rfl := Option.some.inj ho
      intro s W hX hd K hK
      rw [if_pos (wanted_plain rfl)]
      have d5 : (s 0) = .agg TB.toArray := hd 0 (by decide) (by decide)
      have d7 : ∃ F, (Ty.sl (.sl .u8)).holds W F [(s 2)] [p] ∧ ∀ b, F b → b < W.heap.size := hd 2 (by decide) (by decide)
      clear hd
      replace hK : ∀ (v : Value) (W' : World), Ext W W' → (v = .agg HH.toArray) → _ := hK
      simp only [mkOf, List.map_cons, List.map_nil, Act.put, List.setIfInBounds_toArray, List.set_cons_succ, List.set_cons_zero, Nat.reduceAdd, Nat.zero_add] at hK ⊢
      simp only [d5] at hK ⊢
      obtain ⟨F, h1, h2⟩ := d7
      go_simp
      refine (HFOR.out _ W F h1 h2).mono ?_
      rintro e w' ⟨rfl, hx⟩
      exact hK _ _ hx rfl
    | 4, _, ho =>
      obtain rfl := Option.some.inj ho
      intro s W hX hd K hK
      rw [if_pos (wanted_plain rfl)]
      have d8 : (s 3) = .agg HH.toArray := hd 3 (by decide) (by decide)
      clear hd
      replace hK : ∀ (v : Value) (W' : World), Ext W W' → (v = .agg R.toArray) → _ := hK
      simp only [mkOf, List.map_cons, List.map_nil, Act.put, List.setIfInBounds_toArray, List.set_cons_succ, List.set_cons_zero, Nat.reduceAdd, Nat.zero_add] at hK ⊢
      simp only [d8] at hK ⊢
      go_simp
      refine (HFI.out W).mono ?_
      rintro e w' ⟨rfl, hx⟩
      exact hK _ _ hx rfl
    | i + 5, hi, _ => exact absurd hi (by simp)
  · intro o ho
    obtain rfl := Option.some.inj ho
    intro s W hX hd K hK
    rw [if_pos (wanted_plain rfl)]
    have d5 : (s 0) = .agg TB.toArray := hd 0 (by decide)
    have d6 : (s 1) = .slice (some ⟨w.heap.size + 1, 0, none⟩) 16 16 := hd 1 (by decide)
    have d7 : ∃ F, (Ty.sl (.sl .u8)).holds W F [(s 2)] [p] ∧ ∀ b, F b → b < W.heap.size := hd 2 (by decide)
    have d8 : (s 3) = .agg HH.toArray := hd 3 (by decide)
    have d9 : (s 4) = .agg R.toArray := hd 4 (by decide)
    clear hd
    simp only [mkOf, List.map_cons, List.map_nil, Act.put, List.setIfInBounds_toArray, List.set_cons_succ, List.set_cons_zero, Nat.reduceAdd, Nat.zero_add]
    refine wp_store_row 35 (.tmp 4) (.tmp 9) rfl (w.heap.size + 1 + 1) rfl Z R _ (by simpa [Act.eval] using d9) (HB2.out.keep hX (by simp)) (rpiece_size HRL.out) (by rw [HRL.out, HZL.out]) hro ?_
    refine hK _ _ ?_
    have hr := HB2.out.keep hX (by simp)
    have hx9 : Ext w (W.setRow (w.heap.size + 1 + 1) R.toArray) := setRow_grown (HX0.out.trans hX) _ _ (by omega)
    have hc9 := Blk.cells (t := 35) (setRow_at (cs' := R.toArray) hr)
    clear hK hX
    (try simp only [Exit.then])
    go_wp2_with fail
    (try simp only [Exit.inBlock, Exit.then])
    refine bodyPost_ret (results_agg rfl _ _ _ _ _ rfl Try.underlying35 rfl (rpiece_size HRL.out) hc9) rfl ?_
    exact ⟨rfl, hx9⟩
end
end Go.Proofs.Ytfoomnibfibfnaa

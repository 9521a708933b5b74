/- Walks and plain laws, put together in build order. Conditions: what each of them names. -/
import Derived.Test.YtmicjaiiinaipaaW9c11e74d47
set_option linter.unusedVariables false
set_option linter.unusedSimpArgs false
set_option linter.unnecessarySimpa false
namespace Go.Proofs.Ytmicjaiiinaipaa
section
open Go.RowKit

theorem b32_zero : (Try.prog.info? 28).bind (fun i => i.zero.map (·.cells)) = some (bv (List.replicate 32 0)).toArray := by kernel_rfl
theorem b32_size {n : Nat} (h : n = 32) : (Try.prog.info? 28).map (·.size) = some n := by subst h; kernel_rfl
theorem quiet_load_agg {P : Program} {C : World → Prop} {o : Oper} {a : Act} {K : Act → Prop} (ty : TypeId) (x : Operand) (ho : o.op = .load ty x) (ad : Addr) (hx : a.eval x = .pointer (some ad)) (cs : List Value) (d : TypeDesc) (hu : P.underlying ty = some d) (hd : isAggD d = true) (hi : (P.info? ty).map (·.size) = some cs.length) (hc : ∀ w, C w → Cells w ad cs) (hk : K (a.put o.dst (.agg cs.toArray))) : o.quiet P a C K :=
  ⟨_, fun w hw => by 
    unfold Oper.quietAt execOp
    simp only [ho, hx, Instr.loadAt, Instr.sureAddr, Sem.run_bind, Sem.run_pure, Result.andThen_ok, run_load_agg w ty ad cs d hu hd hi (hc w hw)]
    exact ⟨rfl, rfl⟩, hk⟩
theorem first_step : ∀ k, k < 8 → (firstK.take k ++ List.replicate (8 - k) 0).set k (firstK.getD k 0) = firstK.take (k + 1) ++ List.replicate (8 - (k + 1)) 0 ∧ (firstK.take k ++ List.replicate (8 - k) 0).length = 8 := by decide
theorem fill_eq (p : List UInt8) : p ++ [128] ++ List.replicate (63 - (p.length + 8) % 64) 0 = p ++ fill p.length := by simp [fill]

set_option maxRecDepth 100000 in
set_option maxHeartbeats 8000000 in
theorem Ref_Of (Fs R : ByteArray) (vp : Value) (p : List UInt8) (w : World) (F : Fp) (hFs : HexTab Fs firstK) (hR : HexTab R stirK) (hp : (Ty.sl .u8).holds w F [vp] p) (hF : ∀ b, F b → b < w.heap.size) (hb : p.length < 1099511627776) :
    Calls Try.prog 34 #[.agg #[.string Fs, .string R], vp] w fun e w' => e = .returned (.agg (bv (sha p)).toArray) ∧ Ext w w' := by
  obtain ⟨i0, hi, hz0, hz1, hz2⟩ := info_parts u8_info
  obtain ⟨i1, hi1, hy0, hy1, hy2⟩ := info_parts u64_info
  have hp0 := hp
  obtain ⟨A, c, xs, hv, hlc, hc, hA, hcell, hall⟩ := hp
  cases hv
  unfold maxLen at hc
  have hz := b32_zero
  have hzl : (bv (List.replicate 32 0)).length = 32 := by simp
  generalize hZ : bv (List.replicate 32 0) = Z at hz hzl
  have HZL := Lib.hid hzl
  have HZ := Lib.hid hZ
  have hx0 : Ext w ((w.alloc (.cells #[.string Fs, .string R] 56)).alloc (.cells Z.toArray 28)) := ((Ext.refl w).alloc _).alloc _
  have hsrc := src_bytes (hx0.holds hF hp0)
  have HX0 := Lib.hid hx0
  clear hzl hZ hall hcell hA hx0
  go_enter Try.func34, Try.ntmps34
  go_wp2_with (first
    | (refine wpList_alloc _ rfl 28 rfl _ hz ?_)
    | (at_builtin; refine wpList_app _ rfl (.tmp 13) (.tmp 14) _ _ rfl _ _ i0 _ 1 1 Try.underlying35 Try.underlying35 hi hz0 hz1 hz2 rfl (by decide) _ _ _ rfl (Own.nil _ _ _) _ _ _ (bv p) rfl (by simp) hsrc (bv_one _) (by unfold maxLen; omega) (by omega) ?_; intro v1 w1 ho1 hm1)
    | (at_builtin; refine wpList_app _ rfl (.tmp 15) (.tmp 16) _ _ rfl _ _ i0 _ 1 1 Try.underlying35 Try.underlying35 hi hz0 hz1 hz2 rfl (by decide) _ _ _ rfl (Own.ext ho1 ((Ext.refl _).alloc _)) _ _ _ [Value.int .u8 128] rfl rfl (src_new _ _ _ _) (by simp [Value.oneCell']) (by unfold maxLen; omega) (by omega) ?_; intro v2 w2 ho2 hm2)
    | fail)
  have hm1 : Fresh ((w.alloc (.cells #[.string Fs, .string R] 56)).alloc (.cells Z.toArray 28)) w1 v1 := hm1
  have hm2 : Fresh ((w.alloc (.cells #[.string Fs, .string R] 56)).alloc (.cells Z.toArray 28)) w2 v2 := hm1.trans (Moved.pre ((Ext.refl _).alloc _) hm2)
  have ho2 : OwnB w2 v2 (p ++ [128]) := by
    rw [Nat.zero_add, List.nil_append] at ho2
    exact OwnB.app ho2
  obtain ⟨W0, hW0⟩ : ∃ W0, W0 = ((w.alloc (.cells #[.string Fs, .string R] 56)).alloc (.cells Z.toArray 28)) := ⟨_, rfl⟩
  rw [← hW0] at hm2
  have HX0 : Hid (Ext w W0) := Lib.hid (by rw [hW0]; exact HX0.out)
  have hbox0 : Blk W0 w.heap.size 56 [Value.string Fs, Value.string R] := by rw [hW0]; exact (Blk.new w 56 [Value.string Fs, Value.string R]).keep ((Ext.refl _).alloc _) (by simp)
  have hres0 : Blk W0 (w.heap.size + 1) 28 Z := by rw [hW0]; have := Blk.new (w.alloc (.cells #[.string Fs, .string R] 56)) 28 Z; simpa using this
  have hsz0 : W0.heap.size = w.heap.size + 1 + 1 := by rw [hW0]; simp
  have HBOX := Lib.hid hbox0
  have HRES := Lib.hid hres0
  have HSZ := Lib.hid hsz0
  clear hm1 ho1 hW0 hsrc hbox0 hres0 hsz0
  obtain ⟨J, hJ⟩ : ∃ J, J = 63 - (p.length + 8) % 64 := ⟨_, rfl⟩
  have hJ63 : J ≤ 63 := by omega
  have HJ := Lib.hid hJ
  clear hJ
  go_wp2
  go_loopw [5] (fun vb wr => ∃ j : Nat, j ≤ J ∧ OwnB wr vb (p ++ [128] ++ List.replicate j 0) ∧ Fresh W0 wr vb) (fun vb _ => p.length + 1 + J - slLen vb)
  case atStart => exact ⟨0, by omega, by simpa using ho2, hm2⟩
  case round =>
    clear ho2 hm2
    obtain ⟨j, hj, ho, hfr⟩ := hrel
    have hbl : (p ++ [128] ++ List.replicate j 0).length = p.length + 1 + j := by simp; omega
    have hstep : p ++ [128] ++ List.replicate (j + 1) 0 = (p ++ [128] ++ List.replicate j 0) ++ [0] := by rw [List.replicate_succ', List.append_assoc (p ++ [128])]
    have HST := Lib.hid hstep
    clear hstep
    by_cases hlt : j < J
    · generalize hB : p ++ [128] ++ List.replicate j 0 = B at *
      obtain ⟨A5, c5, rfl⟩ := ho.form
      have ht : ((B.length : Int) % 64 != 56) = true := by have := HJ.out; simp; omega
      have HBL := Lib.hid hbl
      clear hbl hB
      go_wp2_with (first
        | (at_builtin; refine wpList_app _ rfl (.tmp 22) (.tmp 23) _ _ rfl _ _ i0 _ 1 1 Try.underlying35 Try.underlying35 hi hz0 hz1 hz2 rfl (by decide) _ _ _ rfl (Own.ext ho ((Ext.refl _).alloc _)) _ _ _ [Value.int .u8 0] rfl rfl (src_new _ _ _ _) (by simp [Value.oneCell']) (by rw [HBL.out]; unfold maxLen; omega) (by rw [HBL.out]; omega) ?_; intro v3 w3 ho3 hm3; obtain ⟨A6, c6, hv6⟩ := ho3.form; subst hv6)
        | fail)
      go_roundw
      case rel =>
        have hm3 : Moved (wr.alloc _) w3 (.slice A5 B.length c5) (.slice A6 (B.length + 1) c6) := hm3
        exact ⟨j + 1, by omega, by rw [HST.out]; exact OwnB.app ho3, hfr.trans (Moved.pre ((Ext.refl _).alloc _) hm3)⟩
      case measure => have := HBL.out; simp [slLen]; omega
    · obtain rfl : j = J := by omega
      have hB2 : p ++ [128] ++ List.replicate j 0 = p ++ fill p.length := by rw [HJ.out]; exact fill_eq p
      rw [hB2] at ho hbl
      generalize hB : p ++ fill p.length = B at *
      have HB := Lib.hid hB
      obtain ⟨A5, c5, rfl⟩ := ho.form
      have ht : ((B.length : Int) % 64 != 56) = false := by have := HJ.out; simp; omega
      have HBL := Lib.hid hbl
      clear hbl hB2 hB HST
      go_wp2_with (first
        | (at_make; refine wpList_make_full _ rfl _ _ _ rfl 0 _ i0 _ 1 Try.underlying35 hi hz0 hz1 .i64 .i64 8 8 8 rfl rfl rfl rfl (by rw [hz2]; omega) (by unfold maxLen; omega) (Nat.zero_le _) ?_; intro w4 ho4 hg4)
        | fail)
      have hg4 : Ext wr w4 := hg4
      obtain ⟨N, hN⟩ : ∃ N, N = p.length * 8 := ⟨_, rfl⟩
      have hNlt : N < 18446744073709551616 := by omega
      have ho4 : Own w4 5 1 (.slice (some ⟨wr.heap.size, 0, none⟩) 8 8) 8 (bv (beFill 8 8 N)) := by
        have e : bv (beFill 8 8 N) = (madeCells (Value.int .u8 0).cells (8 * 1)).toList := by
          rw [show (Value.int .u8 0).cells = #[.int .u8 0] from rfl, toList_madeCells_one, Nat.mul_one]
          simp [beFill, bv, be_length]
        rw [e]; exact ho4
      obtain ⟨wo, rfl⟩ : ∃ wo : World, wo = wr := ⟨_, rfl⟩
      have HFR := Lib.hid hfr
      have HOB := Lib.hid ho
      have HN := Lib.hid hN
      have HNL := Lib.hid hNlt
      have HZ8 := Lib.hid (show w.heap.size + 1 + 1 ≤ wo.heap.size by have := (Fresh.ext hfr).size; have := HSZ.out; omega)
      clear hfr ho hN hNlt
      go_loopw [6, 8] (fun nn i wq => ∃ j : Nat, j ≤ 8 ∧ i = .int .i64 ((j : Int) - 1) ∧ nn = .int .u64 ((N / 256 ^ (8 - j) : Nat) : Int) ∧ Own wq 5 1 (.slice (some ⟨wo.heap.size, 0, none⟩) 8 8) 8 (bv (beFill 8 j N)) ∧ Ext wo wq) (fun _ i _ => (intOf i + 1).toNat)
      case atStart => exact ⟨8, by omega, rfl, by rw [HN.out]; simp, ho4, hg4⟩
      case round =>
        clear ho4 hg4
        obtain ⟨j, hj, rfl, rfl, hor, hxr⟩ := hrel
        by_cases hlt : 0 < j
        · have hcell0 := World.ownsRow.cellAt hor (j - 1) (by omega)
          obtain ⟨u0, hu0⟩ : ∃ u0, (bv (beFill 8 j N))[j - 1]? = some u0 := ⟨_, List.getElem?_eq_getElem (by rw [bv_length, beFill_length _ _ _ hj]; omega)⟩
          rw [hu0] at hcell0
          have hfz := World.ownsRow.frozenAt hor (j - 1)
          have hst := (World.ownsRow.stored hor (j - 1) (.int .u8 ((UInt8.ofNat (N / 256 ^ (8 - j))).toNat : Int))).1
          have hm : ((N / 256 ^ (8 - j) : Nat) : Int) % 256 = ((UInt8.ofNat (N / 256 ^ (8 - j))).toNat : Int) := by rw [UInt8.toNat_ofNat']; omega
          have hlow : N / 256 ^ (8 - j) < 18446744073709551616 := Nat.lt_of_le_of_lt (Nat.div_le_self _ _) HNL.out
          have hq := be_rest N 8 j hlt hj
          rw [← bv_set, beFill_step 8 j N hlt hj] at hst
          generalize hM : N / 256 ^ (8 - j) = M at *
          have HM := Lib.hid hm
          have HQ := Lib.hid hq
          have HST := Lib.hid hst
          have HXR := Lib.hid hxr
          clear hm hq hM hu0 hst hor hxr
          go_wp2
          go_roundw
          case rel =>
            rw [HM.out]
            exact ⟨j - 1, by omega, by rw [show ((j - 1 : Nat) : Int) = (j : Int) - 1 by omega], by rw [← HQ.out, Int.natCast_ediv]; rfl, HST.out, HXR.out.setCell (Nat.le_refl _) _⟩
          case measure => simp [intOf]; omega
        · obtain rfl : j = 0 := by omega
          have hbe : beFill 8 0 N = be 8 N := by simp [beFill]
          rw [hbe, HN.out] at hor
          have hBP : B ++ be 8 (p.length * 8) = padded p := by rw [← HB.out]; rfl
          have HBP := Lib.hid hBP
          have ho := Own.ext HOB.out hxr
          clear hbe hBP
          go_wp2_with (first
            | (at_builtin; refine wpList_app _ rfl (.tmp 42) (.tmp 43) _ _ rfl _ _ i0 _ 1 1 Try.underlying35 Try.underlying35 hi hz0 hz1 hz2 rfl (by decide) _ _ _ rfl ho _ _ _ (bv (be 8 (p.length * 8))) rfl (by simp [be_length]) (own_src hor) (bv_one _) (by rw [HBL.out]; unfold maxLen; omega) (by rw [HBL.out]; omega) ?_; intro v5 w5 ho5 hm5; obtain ⟨A7, c7, hv7⟩ := ho5.form; subst hv7; have hm5 : Moved wr w5 (.slice A5 B.length c5) (.slice A7 (B.length + 8) c7) := hm5)
            | (at_make; refine wpList_make_full _ rfl _ _ _ rfl 0 _ i1 _ 1 Try.underlying121 hi1 hy0 hy1 .i64 .i64 8 8 8 rfl rfl rfl rfl (by rw [hy2]; omega) (by unfold maxLen; omega) (Nat.zero_le _) ?_; intro w6 ho6 hg6; have hg6 : Ext w5 w6 := hg6)
            | fail)
          have hbl2 : (padded p).length = B.length + 8 := by rw [← HBP.out]; simp [be_length]
          have ho5 : OwnB w5 (.slice A7 (padded p).length c7) (padded p) := by rw [hbl2, ← HBP.out]; exact OwnB.app (by simpa [be_length] using ho5)
          have hm5 : Fresh W0 w5 (.slice A7 (padded p).length c7) := by rw [hbl2]; exact HFR.out.trans (Moved.pre hxr hm5)
          have hl64 : (padded p).length = 64 * ((padded p).length / 64) := by have := padded_length p; omega
          have hln : 0 < (padded p).length / 64 := by have := padded_length p; omega
          have hPl : (padded p).length ≤ 1099511627776 + 200 := by have := padded_length p; omega
          rw [← hbl2]
          have hox6 : OwnW w6 (.slice (some ⟨w5.heap.size, 0, none⟩) 8 8) (firstK.take 0 ++ List.replicate (8 - 0) 0) := by
            have e : dv (List.replicate 8 0) = (madeCells (Value.int .u64 0).cells (8 * 1)).toList := by
              rw [show (Value.int .u64 0).cells = #[.int .u64 0] from rfl, toList_madeCells_one, Nat.mul_one]
              simp [dv]
            show Own w6 _ 1 _ 8 (dv (List.replicate 8 0))
            rw [e]; exact ho6
          have hx5 : Ext W0 w5 := Fresh.ext hm5
          have hbox5 := HBOX.out.keep hx5 (by simp)
          have hres5 := HRES.out.keep hx5 (by simp)
          have hxw5 : Ext w w5 := HX0.out.trans hx5
          have hlt5 : w.heap.size + 1 < w5.heap.size := hres5.lt
          generalize hP : padded p = P at *
          have HP := Lib.hid hP
          have HO5 := Lib.hid ho5
          have HR5 := Lib.hid hres5
          have HB5 := Lib.hid hbox5
          have HX5 := Lib.hid hxw5
          have HL64 := Lib.hid hl64
          have HPL := Lib.hid hPl
          have HLN := Lib.hid hln
          clear hP ho5 hres5 hbox5 hxw5 hl64 hPl hln hx5 hm5 ho6 HFR HOB HBOX HRES HN HNL HBP HB HBL hbl2
          go_loopw [10] (fun i wq => ∃ k : Nat, k ≤ 8 ∧ i = .int .i64 k ∧ OwnW wq (.slice (some ⟨w5.heap.size, 0, none⟩) 8 8) (firstK.take k ++ List.replicate (8 - k) 0) ∧ Ext w5 wq) (fun i _ => 8 - (intOf i).toNat)
          case atStart => exact ⟨0, by omega, rfl, hox6, hg6⟩
          case round =>
            clear hox6 hg6
            obtain ⟨k, hk, rfl, hov, hxe⟩ := hrel
            by_cases hlt : k < 8
            · obtain ⟨hst, hln8⟩ := first_step k hlt
              obtain ⟨gv, cv, hv, _, _, _, hcv⟩ := hov.cells (by rw [hln8]; omega)
              rw [hln8] at hv
              cases hv
              obtain ⟨cm, fm⟩ := hcv k (by rw [hln8]; exact hlt)
              have cbox : wr.cell? ⟨w.heap.size, 0, none⟩ = some (Value.string Fs) := (HB5.out.keep hxe (by simp)).cell 0
              have hov2 := hov.store hln8 k (firstK.getD k 0)
              rw [hst] at hov2
              have hAt : ∀ W', Calls Try.prog 53 #[.string Fs, .int .i64 k] W' fun e w' => e = .returned (.int .u64 ((firstK.getD k 0 : Nat) : Int)) ∧ W' = w' := fun W' => by
                have h1 := Ref_at Fs k W' (by rw [hFs.size]; show 8 * k + 8 ≤ 8 * 8; omega) (by rw [hFs.size]; decide) hFs.ok
                rwa [hFs.val k hlt] at h1
              generalize firstK.getD k 0 = fk at *
              have HAT := Lib.hid hAt
              have HOV2 := Lib.hid hov2
              have HXE := Lib.hid hxe
              have k1 : (0 : Int) ≤ (k : Int) := by omega
              have k2 : (k : Int) < 8 := by omega
              clear hst hln8 hcv hov hAt hov2 hxe
              go_wp2_with fail
              refine (HAT.out _).mono ?_
              rintro e w7 ⟨rfl, rfl⟩
              go_wp2
              go_roundw
              case rel => exact ⟨k + 1, by omega, by go_num, HOV2.out, HXE.out.setCell (Nat.le_refl _) _⟩
              case measure => simp [intOf]; omega
            · obtain rfl : k = 8 := by omega
              have hov : OwnW wr (.slice (some ⟨w5.heap.size, 0, none⟩) 8 8) firstK := hov
              obtain ⟨wz, rfl⟩ : ∃ wz : World, wz = wr := ⟨_, rfl⟩
              have hbk : ∀ {w' : World}, Ext w5 w' → Cells w' ⟨w.heap.size, 0, none⟩ [Value.string Fs, Value.string R] := fun hx => (HB5.out.keep hx (by simp)).cells
              have HBK : Hid (∀ w' : World, Ext w5 w' → Cells w' ⟨w.heap.size, 0, none⟩ [Value.string Fs, Value.string R]) := Lib.hid (fun _ h => hbk h)
              have HXE := Lib.hid hxe
              have hbs : ∀ {n : Nat}, n = 2 → (Try.prog.info? 56).map (·.size) = some n := by rintro _ rfl; kernel_rfl
              have hPd := HO5.out.holds
              have hPlt := HO5.out.lt
              generalize hF5 : (fun b => (Value.slice A7 P.length c7).ownBlock = some b) = F5 at hPd
              have hF5l : ∀ b, F5 b → b < w5.heap.size := by rw [← hF5]; exact hPlt
              have HPD := Lib.hid hPd
              have HFL := Lib.hid hF5l
              obtain ⟨M, hM⟩ : ∃ M, M = P.length / 64 := ⟨_, rfl⟩
              have HM := Lib.hid hM
              clear hbk hPd hPlt hF5 hF5l hM
              go_wp2
              go_loopw [5, 9] (fun vb vh wq => ∃ k : Nat, k ≤ M ∧ slLen vb = P.length - 64 * k ∧ (Ty.sl .u8).holds w5 F5 [vb] (P.drop (64 * k)) ∧ OwnW wq vh (blocks P k) ∧ (∀ g, vh.ownBlock = some g → w5.heap.size ≤ g) ∧ Ext w5 wq) (fun vb _ _ => slLen vb)
              case atStart => exact ⟨0, by omega, by simp [slLen], HPD.out, hov, (by intro g hg; cases hg; exact Nat.le_refl _), HXE.out⟩
              case round =>
                clear hov hxe HXE
                obtain ⟨k, hk, hsl, hpd, hov, hfro, hxe⟩ := hrel
                obtain ⟨A8, c8, xs8, hv8, hlc8, hc8, hA8, hcell8, hall8⟩ := id hpd
                cases hv8
                have hdl : (P.drop (64 * k)).length = P.length - 64 * k := List.length_drop
                by_cases hlt : k < M
                · have hPk : 64 * k + 64 ≤ P.length := by have := HM.out; have := HL64.out; omega
                  have hdd := holds_take (A := A8) (c := c8) (n := 64) hpd (by rw [hdl]; omega)
                  have hdr := holds_drop (A := A8) (c := c8) (n := 64) hpd (by rw [hdl]; omega)
                  have h64 : ((P.drop (64 * k)).take 64).length = 64 := by rw [List.length_take, hdl]; omega
                  have hbo := blocks_ok P k
                  rw [List.drop_drop] at hdr
                  generalize (P.drop (64 * k)).length = n at *
                  have hgt : 64 ≤ n := by omega
                  have HXE := Lib.hid hxe
                  have HPQ := Lib.hid hdd
                  have HDR := Lib.hid hdr
                  have HDL := Lib.hid hdl
                  have H64 := Lib.hid h64
                  have HOV := Lib.hid hov
                  have HBO := Lib.hid hbo
                  clear hxe hdd hdr h64 hov hbo hpd hcell8 hall8
                  go_wp2
                  refine wp_region_draw_tail 4 (by kernel_rfl) (by kernel_rfl) (by kernel_rfl) ?_
                  simp only [List.take_succ_cons, List.take_zero, List.drop_succ_cons, List.drop_zero]
                  go_big_quiet_want
                  refine quiet_load_agg 56 (.tmp 2) rfl _ rfl [Value.string Fs, Value.string R] _ Try.underlying56 rfl (hbs rfl) (by rintro _ ⟨n, rfl⟩; exact HBK.out _ (HXE.out.drewN n)) ?_
                  simp only [Act.put, List.setIfInBounds_toArray, List.set_cons_succ, List.set_cons_zero]
                  go_big_quiet_on
                  repeat (go_big_quiet_step (fail))
                  refine wpQuiet_nil ?_
                  rintro _ ⟨nq, rfl⟩
                  have hxd : Ext w5 (wr.drewN nq) := HXE.out.drewN nq
                  have hovd : OwnW (wr.drewN nq) u9 (blocks P k) := Own.ext HOV.out ((Ext.refl wr).drewN nq)
                  have hpqd := hxd.holds HFL.out HPQ.out
                  have hFd : ∀ b, F5 b → b < (wr.drewN nq).heap.size := fun b hb => Nat.lt_of_lt_of_le (HFL.out b hb) hxd.size
                  have HXD := Lib.hid hxd
                  have HOVD := Lib.hid hovd
                  have HPQD := Lib.hid hpqd
                  have HFD := Lib.hid hFd
                  clear hxd hovd hpqd hFd HPQ HOV HXE
                  generalize wr.drewN nq = wd at *
                  go_wp2_with fail
                  refine (Ref_block Fs R _ _ (blocks P k) _ wd F5 hR HOVD.out HBO.out.1 HBO.out.2 HPQD.out HFD.out H64.out).mono ?_
                  rintro e w7 ⟨v7, rfl, ho7, hx7⟩
                  have ho7 : OwnW w7 v7 (blocks P (k + 1)) := ho7
                  have hf7 : ∀ g, v7.ownBlock = some g → w5.heap.size ≤ g := fun g hg => Nat.le_trans HXD.out.size (Fresh.new hx7 g hg)
                  have hx7 : Ext w5 w7 := HXD.out.trans (Fresh.ext hx7)
                  have HF7 := Lib.hid hf7
                  have HO7 := Lib.hid ho7
                  have HX7 := Lib.hid hx7
                  clear ho7 hx7 hf7 hfro
                  have hdr : ∀ A9 n9 c9, A9 = (if c8 = 64 then A8 else A8.map (·.add 64)) → n9 = n - 64 → c9 = c8 - 64 → (Ty.sl .u8).holds w5 F5 [.slice A9 n9 c9] (P.drop (64 * (k + 1))) := by
                    rintro _ _ _ rfl rfl rfl
                    have := HDR.out
                    rwa [show 64 * k + 64 = 64 * (k + 1) by omega] at this
                  have HDR := Lib.hid hdr
                  clear hdr
                  by_cases hc64 : c8 = 64
                  · subst hc64
                    go_wp2
                    go_roundw
                    case rel =>
                      repeat apply Exists.intro
                      refine ⟨?_, rfl⟩
                      exact ⟨k + 1, by omega, by simp [slLen]; omega, HDR.out _ _ _ (by simp) (by omega) (by omega), HO7.out, HF7.out, HX7.out⟩
                    case measure => simp [slLen]; omega
                  · go_wp2
                    go_roundw
                    case rel =>
                      repeat apply Exists.intro
                      refine ⟨?_, rfl⟩
                      exact ⟨k + 1, by omega, by simp [slLen]; omega, HDR.out _ _ _ (by rw [if_neg hc64]; first | rfl | (congr 1; funext x; exact (add_pos x (by decide)).symm) | congr 1) (by omega) (by omega), HO7.out, HF7.out, HX7.out⟩
                    case measure => simp [slLen]; omega
                · obtain rfl : k = M := by omega
                  have hPM : P.length = 64 * k := by rw [HM.out]; exact HL64.out
                  have hbo := blocks_ok P k
                  have hfin : (blocks P k).flatMap (be 4) = sha p := by rw [sha, HP.out, ← HM.out]
                  generalize blocks P k = S at hov hbo hfin
                  generalize (P.drop (64 * k)).length = n at *
                  obtain rfl : n = 0 := by omega
                  have hrs := HR5.out.keep hxe (by simp)
                  have hxw := HX5.out.trans hxe
                  have hov : OwnW wr u9 (worn S 32) := by rw [worn_32 S hbo.1]; exact hov
                  obtain ⟨gv, cv, hu9, -, -, hgv, -⟩ := hov.cells (by rw [worn_length]; omega)
                  rw [worn_length] at hu9
                  subst hu9
                  have hgv5 := hfro gv rfl
                  have hdz := Blk.new wr 28 Z
                  have hrs := hrs.keep ((Ext.refl wr).alloc (.cells Z.toArray 28)) (by simp)
                  have hxw := hxw.alloc (.cells Z.toArray 28)
                  have hov := Own.ext hov ((Ext.refl wr).alloc (.cells Z.toArray 28))
                  have hfl : (sha p).length = 32 := by rw [← hfin, flat4_length, hbo.1]
                  have hsb : ∀ i, i < 32 → (sha p).getD i 0 = UInt8.ofNat ((worn S (i + 1)).getD (i / 4) 0) := by rw [← hfin]; exact worn_byte S hbo.1
                  have hldn := laid_down (sha p)
                  rw [hfl] at hldn
                  generalize hD : sha p = D at *
                  have HD := Lib.hid hD
                  have HRS := Lib.hid hrs
                  have HXW := Lib.hid hxw
                  have HOV := Lib.hid hov
                  have HDZ := Lib.hid hdz
                  have HSB := Lib.hid hsb
                  have HSL := Lib.hid hbo.2
                  have HLD := Lib.hid hldn
                  have HFL32 := Lib.hid hfl
                  have hdz : (wr.alloc (.cells Z.toArray 28)).heap.size = wr.heap.size + 1 := by simp
                  have hbz : w.heap.size + 1 < wr.heap.size := by have := HR5.out.lt; have := hxe.size; omega
                  clear hD hrs hxw hov hdz hsb hldn hfl hbo hfin hxe hpd hcell8 hall8 hsl hdl hPM
                  go_wp2_with (first
                    | (refine wpList_alloc _ rfl 28 rfl _ hz ?_)
                    | fail)
                  generalize hDB : wr.heap.size = DB at *
                  go_loopw [12] (fun i wq => ∃ j : Nat, j ≤ 32 ∧ i = .int .i64 ((j : Int) - 1) ∧ OwnW wq (.slice (some ⟨gv, 0, none⟩) 8 cv) (worn S j) ∧ Blk wq DB 28 (bv (List.replicate j 0 ++ D.drop j)) ∧ Blk wq (w.heap.size + 1) 28 Z ∧ Ext w wq) (fun i _ => (intOf i + 1).toNat)
                  case atStart => exact ⟨32, by omega, rfl, HOV.out, by rw [List.drop_eq_nil_of_le (by rw [HFL32.out]; omega), List.append_nil, HZ.out]; exact HDZ.out, HRS.out, HXW.out⟩
                  case round =>
                    clear HOV HDZ HRS HXW
                    obtain ⟨j, hj, rfl, hov, hdz, hrs, hxw⟩ := hrel
                    by_cases hlt : 0 < j
                    · obtain ⟨i, rfl⟩ : ∃ i, j = i + 1 := ⟨j - 1, by omega⟩
                      have hq : i / 4 < 8 := by omega
                      obtain ⟨gv', cv', hv', -, -, -, hcv⟩ := hov.cells (by rw [worn_length]; omega)
                      rw [worn_length] at hv'
                      cases hv'
                      obtain ⟨ch, fh⟩ := hcv (i / 4) (by rw [worn_length]; exact hq)
                      have hl32 : (bv (List.replicate (i + 1) 0 ++ D.drop (i + 1))).length = 32 := by rw [bv_length, List.length_append, List.length_replicate, List.length_drop, HFL32.out]; omega
                      obtain ⟨u0, hu0⟩ : ∃ u0, (bv (List.replicate (i + 1) 0 ++ D.drop (i + 1)))[i]? = some u0 := ⟨_, List.getElem?_eq_getElem (by rw [hl32]; omega)⟩
                      have cd := (hdz.cell i).trans hu0
                      have fd := hdz.free i
                      have hb := HSB.out i (by omega)
                      have hld := HLD.out i (by omega)
                      have hws := worn_step S i (by omega)
                      have hds := hdz.set i (.int .u8 ((D.getD i 0).toNat : Int))
                      rw [← bv_set, hld] at hds
                      have hne : gv ≠ DB := by omega
                      have hne2 : gv ≠ w.heap.size + 1 := by omega
                      have hne3 : DB ≠ w.heap.size + 1 := by omega
                      have hm : (((worn S (i + 1)).getD (i / 4) 0 : Nat) : Int) % 256 = ((D.getD i 0).toNat : Int) := by rw [hb, UInt8.toNat_ofNat']; omega
                      generalize hX : (worn S (i + 1)).getD (i / 4) 0 = X at *
                      have c26 : ∀ u, (wr.setCell ⟨DB, i, none⟩ u).cell? ⟨gv, i / 4, none⟩ = some (Value.int .u64 (X : Int)) := fun u => (World.cell?_setCell_far _ _ _ _ (by simpa using fun h => hne h.symm)).trans ch
                      have f26 : ∀ u, (wr.setCell ⟨DB, i, none⟩ u).frozen? ⟨gv, i / 4, none⟩ = false := fun u => OwnW.fro (Own.keep hov (only_set i u) (.inr (by simpa [Value.ownBlock] using hne))) (worn_length _ _) _
                      have hX64 : X < 18446744073709551616 := by
                        have h1 := getD_lt HSL.out (i / 4)
                        have h2 : X ≤ S.getD (i / 4) 0 := by rw [← hX, worn_getD _ _ _ hq]; exact Nat.div_le_self _ _
                        omega
                      have kw : IntKind.u64.wrap ((X : Int) / 256) = ((X / 256 : Nat) : Int) := by simp only [IntKind.wrap_u64]; omega
                      have HM := Lib.hid hm
                      have HDS := Lib.hid hds
                      have HWS := Lib.hid hws
                      have HOV := Lib.hid hov
                      have HRS := Lib.hid hrs
                      have HXW := Lib.hid hxw
                      have hXl : (0 : Int) ≤ X := by omega
                      clear hm hds hws hov hdz hrs hxw hb hld hu0 hl32 hcv
                      clear hX
                      go_wp2
                      go_roundw
                      case rel =>
                        rw [HM.out]
                        have h1 : OwnW (wr.setCell ⟨DB, i, none⟩ (Value.int .u8 ((D.getD i 0).toNat : Int))) (.slice (some ⟨gv, 0, none⟩) 8 cv) (worn S (i + 1)) := Own.keep HOV.out (only_set i _) (.inr (by simpa [Value.ownBlock] using hne))
                        have h2 := h1.store (worn_length _ _) (i / 4) (X / 256)
                        rw [HWS.out] at h2
                        exact ⟨i, by omega, by go_num, h2, HDS.out.keep (only_set (i / 4) _) (by simpa using fun h => hne h.symm), (HRS.out.keep (only_set i _) (by simpa using fun h => hne3 h.symm)).keep (only_set (i / 4) _) (by simpa using fun h => hne2 h.symm), (HXW.out.setCell (by show w.heap.size ≤ DB; omega) _).setCell (by show w.heap.size ≤ gv; omega) _⟩
                      case measure => simp [intOf]
                    · obtain rfl : j = 0 := by omega
                      rw [List.replicate_zero, List.nil_append, List.drop_zero] at hdz
                      have hsl : (bv D).length = 32 := by rw [bv_length]; exact HFL32.out
                      have hso := bv_one D
                      have hzl := HZL.out
                      generalize hR' : bv D = RR at hdz hsl hso
                      have HR' := Lib.hid hR'
                      clear hR'
                      have hcd := hdz.cells
                      have hrw : wr.heap[w.heap.size + 1]? = some (.cells Z.toArray 28 (0, 0)) := hrs
                      have HSL2 := Lib.hid hsl
                      have HXW := Lib.hid hxw
                      clear hsl hxw hzl hov
                      go_wp2_with (first
                        | (refine wpList_load_agg _ rfl 28 (.tmp 11) rfl _ rfl RR _ Try.underlying28 rfl (b32_size HSL2.out) hcd ?_)
                        | (refine wpList_store_row _ rfl 28 (.tmp 4) (.tmp 90) rfl (w.heap.size + 1) rfl Z RR _ rfl hrw (b32_size HSL2.out) (by rw [HSL2.out, HZL.out]) hso ?_)
                        | fail)
                      have hc : Cells (wr.setRow (w.heap.size + 1) RR.toArray) ⟨w.heap.size + 1, 0, none⟩ RR := Blk.cells (t := 28) (setRow_at hrw)
                      (try simp only [Exit.inBlock, Exit.then])
                      refine bodyPost_ret (results_agg rfl _ _ _ _ _ rfl Try.underlying28 rfl (b32_size HSL2.out) hc) rfl ?_
                      exact ⟨by rw [HD.out, HR'.out], setRow_grown HXW.out _ _ (by omega)⟩
end
section
open Go.RowKit

/-- The standard's first words, and what each round adds, in base sixteen. -/
def tabFirst : ByteArray := { data := #[54, 97, 48, 57, 101, 54, 54, 55, 98, 98, 54, 55, 97, 101, 56, 53, 51, 99, 54, 101, 102, 51, 55, 50, 97, 53, 52, 102, 102, 53, 51, 97, 53, 49, 48, 101, 53, 50, 55, 102, 57, 98, 48, 53, 54, 56, 56, 99, 49, 102, 56, 51, 100, 57, 97, 98, 53, 98, 101, 48, 99, 100, 49, 57] }
def tabRounds : ByteArray := { data := ((([52, 50, 56, 97, 50, 102, 57, 56, 55, 49, 51, 55, 52, 52, 57, 49, 98, 53, 99, 48, 102, 98, 99, 102, 101, 57, 98, 53, 100, 98, 97, 53, 51, 57, 53, 54, 99, 50, 53, 98, 53, 57, 102, 49, 49, 49, 102, 49, 57, 50, 51, 102, 56, 50, 97, 52, 97, 98, 49, 99, 53, 101, 100, 53].append [100, 56, 48, 55, 97, 97, 57, 56, 49, 50, 56, 51, 53, 98, 48, 49, 50, 52, 51, 49, 56, 53, 98, 101, 53, 53, 48, 99, 55, 100, 99, 51, 55, 50, 98, 101, 53, 100, 55, 52, 56, 48, 100, 101, 98, 49, 102, 101, 57, 98, 100, 99, 48, 54, 97, 55, 99, 49, 57, 98, 102, 49, 55, 52]).append ([101, 52, 57, 98, 54, 57, 99, 49, 101, 102, 98, 101, 52, 55, 56, 54, 48, 102, 99, 49, 57, 100, 99, 54, 50, 52, 48, 99, 97, 49, 99, 99, 50, 100, 101, 57, 50, 99, 54, 102, 52, 97, 55, 52, 56, 52, 97, 97, 53, 99, 98, 48, 97, 57, 100, 99, 55, 54, 102, 57, 56, 56, 100, 97].append [57, 56, 51, 101, 53, 49, 53, 50, 97, 56, 51, 49, 99, 54, 54, 100, 98, 48, 48, 51, 50, 55, 99, 56, 98, 102, 53, 57, 55, 102, 99, 55, 99, 54, 101, 48, 48, 98, 102, 51, 100, 53, 97, 55, 57, 49, 52, 55, 48, 54, 99, 97, 54, 51, 53, 49, 49, 52, 50, 57, 50, 57, 54, 55])).append (([50, 55, 98, 55, 48, 97, 56, 53, 50, 101, 49, 98, 50, 49, 51, 56, 52, 100, 50, 99, 54, 100, 102, 99, 53, 51, 51, 56, 48, 100, 49, 51, 54, 53, 48, 97, 55, 51, 53, 52, 55, 54, 54, 97, 48, 97, 98, 98, 56, 49, 99, 50, 99, 57, 50, 101, 57, 50, 55, 50, 50, 99, 56, 53].append [97, 50, 98, 102, 101, 56, 97, 49, 97, 56, 49, 97, 54, 54, 52, 98, 99, 50, 52, 98, 56, 98, 55, 48, 99, 55, 54, 99, 53, 49, 97, 51, 100, 49, 57, 50, 101, 56, 49, 57, 100, 54, 57, 57, 48, 54, 50, 52, 102, 52, 48, 101, 51, 53, 56, 53, 49, 48, 54, 97, 97, 48, 55, 48]).append ([49, 57, 97, 52, 99, 49, 49, 54, 49, 101, 51, 55, 54, 99, 48, 56, 50, 55, 52, 56, 55, 55, 52, 99, 51, 52, 98, 48, 98, 99, 98, 53, 51, 57, 49, 99, 48, 99, 98, 51, 52, 101, 100, 56, 97, 97, 52, 97, 53, 98, 57, 99, 99, 97, 52, 102, 54, 56, 50, 101, 54, 102, 102, 51].append [55, 52, 56, 102, 56, 50, 101, 101, 55, 56, 97, 53, 54, 51, 54, 102, 56, 52, 99, 56, 55, 56, 49, 52, 56, 99, 99, 55, 48, 50, 48, 56, 57, 48, 98, 101, 102, 102, 102, 97, 97, 52, 53, 48, 54, 99, 101, 98, 98, 101, 102, 57, 97, 51, 102, 55, 99, 54, 55, 49, 55, 56, 102, 50]))).toArray }
theorem tab_first : HexTab tabFirst firstK := ⟨by decide +kernel, by decide +kernel, by decide +kernel⟩
theorem tab_rounds : HexTab tabRounds stirK := ⟨by decide +kernel, by decide +kernel, by decide +kernel⟩
theorem tables_zero : (Try.prog.info? 56).bind (fun i => i.zero.map (·.cells)) = some [Value.string ⟨#[]⟩, Value.string ⟨#[]⟩].toArray := by kernel_rfl

set_option maxRecDepth 100000 in
set_option maxHeartbeats 1000000 in
theorem Ref_Make (w : World) : Calls Try.prog 15 #[] w fun e w' => e = .returned (.agg #[.string tabFirst, .string tabRounds]) ∧ Ext w w' := by
  go_enter Try.func15, Try.ntmps15
  go_wp2_with (first
    | (refine wpList_alloc _ rfl 56 rfl _ tables_zero ?_)
    | (refine wpList_build (.inl rfl) 56 _ rfl (.agg [Value.string tabFirst, Value.string tabRounds].toArray) (by kernel_rfl) ?_)
    | (refine wpList_store_new _ rfl 56 (.tmp 0) (.tmp 1) rfl rfl [Value.string ⟨#[]⟩, Value.string ⟨#[]⟩] [Value.string tabFirst, Value.string tabRounds] _ rfl (by kernel_rfl) rfl (by intro u hu; simp at hu; rcases hu with rfl | rfl <;> rfl) ?_)
    | fail)
  have hc : Cells (w.alloc (.cells [Value.string tabFirst, Value.string tabRounds].toArray 56)) ⟨w.heap.size, 0, none⟩ [Value.string tabFirst, Value.string tabRounds] := by have := Cells.of_block (heap_alloc_new w (.cells [Value.string tabFirst, Value.string tabRounds].toArray 56)); simpa using this
  (try simp only [Exit.inBlock, Exit.then])
  refine bodyPost_ret (results_agg rfl _ _ _ _ _ rfl Try.underlying56 rfl (by kernel_rfl) hc) rfl ?_
  exact ⟨rfl, (Ext.refl w).alloc _⟩
end
section
open Go.RowKit

section
variable {P : Program}
/-- .. appended to an empty slice: a new array. -/
theorem wpList_app1_empty {w : World} {ops : Array Oper} {rest : List Oper} {o : Oper} {a : Act} {Q : Exit → Act → World → Prop} (hgd : o.guard = none) (s x : Operand) (t t' : TypeId)
    (ho : o.op = .call { callee := .builtin .append, args := #[s, x], argTypes := #[t, t'] })
    (e e' e2 : TypeId) (i : TypeInfo) (z : Value) (size bytes : Nat) (ht : P.underlying t = some (.slice e)) (ht' : P.underlying t' = some (.slice e')) (hi : P.info? e = some i) (hz : i.zero = some z)
    (hsize : i.size = size) (hby : i.bytes = bytes) (hzs : z.cells.size = size) (hsz : 0 < size)
    (b : Addr) (cs : List Value) (hs : a.eval s = .slice (some b) 0 0) (hown : Own w e size (.slice (some b) 0 0) 0 [])
    (hx : a.eval x = .slice (some ⟨w.heap.size, 0, none⟩) 1 1) (hcs : cs.length = size) (h1 : ∀ u ∈ cs, u.oneCell' = true) (hbytes : bytes ≤ 1024)
    (h : ∀ v' w', Own w' e size v' 1 cs → Ext w w' → (∀ g, v'.ownBlock = some g → w.heap.size ≤ g) → wpList P ops Q rest (a.put o.dst v') w') : wpList P ops Q (o :: rest) a (w.alloc (.cells cs.toArray e2)) := by
  have hx0 : Ext w (w.alloc (.cells cs.toArray e2)) := (Ext.refl w).alloc _
  have hown' := hown.ext hx0
  have hc : Cells (w.alloc (.cells cs.toArray e2)) ⟨w.heap.size, 0, none⟩ cs := by have := Cells.of_block (heap_alloc_new w (.cells cs.toArray e2)); simpa using this
  have hbb : bytes * 1 ≤ 1024 := by omega
  obtain ⟨v', w', hr, h2, h3⟩ := run_app (P := P) (w.alloc (.cells cs.toArray e2)) t t' o.type e e' i z size bytes ht ht' hi hz hsize hby hzs hsz _ 0 [] hown' (some ⟨w.heap.size, 0, none⟩) 1 1 cs (by omega) (fun _ => ⟨_, rfl, hc⟩) h1 (by decide) (by omega)
  have hg := run_append_grow (P := P) (w := w.alloc (.cells cs.toArray e2)) t o.type e i z ht hi hz b 0 0 [] (by simp) (by intro j v hj; simp at hj) ⟨w.heap.size, 0, none⟩ 1 1 cs (by rw [hsize]; omega) (fun j v hj => hc j v hj) (by omega) (by omega)
    (by rw [hby, show Builtin.nextslicecap (0 + 1) 0 = 1 from by decide]; omega)
  rw [← append_types (w.alloc (.cells cs.toArray e2)) ht ht'] at hg
  rw [hr] at hg
  have hq := hg
  simp only [Result.ok.injEq] at hq
  obtain ⟨hv, hw⟩ := hq
  refine wpList_plain hgd fun K hK => ?_
  unfold Oper.wp execOp
  simp only [ho, resolve, invoke, builtin, Sem.run_bind, Sem.run_pure, Result.andThen_ok, List.map_toArray, List.map_cons, List.map_nil, hs, hx, hr]
  refine hK _ _ (h v' w' (by simpa using h2) ?_ ?_)
  · rw [hw]; exact (hx0.trans (Ext.refl _).drew).alloc _
  · intro g hgb
    rw [hv] at hgb
    simp [Value.ownBlock] at hgb
    omega
end
set_option maxRecDepth 100000 in
set_option maxHeartbeats 400000 in
theorem num0 (b : Addr) (n size : Nat) (w : World) (ho : OwnB w (.slice (some b) 0 0) []) (_hn : n < 18446744073709551616) (hs : size ≤ 8) (hs0 : 0 < size) :
    Calls Try.prog 47 #[.slice (some b) 0 0, .int .u64 n, .int .i64 size] w fun e w' => ∃ v', e = .returned v' ∧ OwnB w' v' (be size n) ∧ Ext w w' ∧ ∀ g, v'.ownBlock = some g → w.heap.size ≤ g := by
  obtain ⟨i0, hi, hz0, hz1, hz2⟩ := info_parts u8_info
  have HO := Lib.hid ho
  clear ho
  go_enter Try.func47, Try.ntmps47
  go_wp2
  go_loopw [0, 7] (fun vr i wr => ∃ j : Nat, j ≤ size ∧ i = .int .i64 ((j : Int) - 1) ∧ Ext w wr ∧ ((j = size ∧ vr = .slice (some b) 0 0) ∨ (j < size ∧ OwnB wr vr (beTop size j n) ∧ ∀ g, vr.ownBlock = some g → w.heap.size ≤ g))) (fun _ i _ => (intOf i + 1).toNat)
  case atStart => exact ⟨size, by omega, rfl, Ext.refl _, .inl ⟨rfl, rfl⟩⟩
  case round =>
    obtain ⟨j, hj, rfl, hxr, hst⟩ := hrel
    rcases hst with ⟨rfl, rfl⟩ | ⟨hjs, hor, hnr⟩
    · have hor := HO.out.ext hxr
      go_wp2_with (at_builtin; refine wpList_app1_empty rfl (.tmp 14) (.tmp 20) _ _ rfl _ _ 5 i0 _ 1 1 Try.underlying36 Try.underlying36 hi hz0 hz1 hz2 rfl (by decide) b [.int .u8 ((n : Int) / 2 ^ (8 * (j - 1)) % 256)] rfl hor rfl rfl (by simp [Value.oneCell']) (by decide) ?_; intro v' w1 ho1 hx1 hn1)
      go_roundw
      case rel =>
        refine ⟨j - 1, by omega, by rw [show ((j - 1 : Nat) : Int) = (j : Int) - 1 by omega], hxr.trans hx1, .inr ⟨by omega, ?_, fun g hg => Nat.le_trans hxr.size (hn1 g hg)⟩⟩
        rw [beTop_step j j n hs0 (Nat.le_refl j)]
        have e : beTop j j n = [] := by simp [beTop]
        rw [e]
        exact OwnB.snoc ho1 (be_byte n j)
      case measure => simp [intOf]; omega
    · have hl := beTop_length size j n
      by_cases hlt : 0 < j
      · go_wp2_with (at_builtin; refine wpList_app1 wr rfl (.tmp 14) (.tmp 20) _ _ rfl _ _ 5 i0 _ 1 1 Try.underlying36 Try.underlying36 hi hz0 hz1 hz2 rfl (by decide) _ _ _ [.int .u8 ((n : Int) / 2 ^ (8 * (j - 1)) % 256)] rfl hor rfl rfl (by simp [Value.oneCell']) (by unfold maxLen; omega) (by omega) ?_; intro v' w1 ho1 hm1)
        go_roundw
        case rel =>
          refine ⟨j - 1, by omega, by rw [show ((j - 1 : Nat) : Int) = (j : Int) - 1 by omega], grown_then hxr hm1.grown (.inr hnr), .inr ⟨by omega, ?_, fun g hg => ?_⟩⟩
          · rw [beTop_step size j n hlt hj]
            exact OwnB.snoc ho1 (be_byte n j)
          · rcases hm1.at_ with e | hn
            · exact hnr g (e.symm.trans hg)
            · exact Nat.le_trans hxr.size (hn g hg)
        case measure => simp [intOf]; omega
      · obtain rfl : j = 0 := by omega
        go_wp2
        go_ret
        exact ⟨_, rfl, by simpa [beTop, List.take_of_length_le, be_length] using hor, hxr, hnr⟩
set_option maxRecDepth 100000 in
set_option maxHeartbeats 400000 in
theorem four0 (b : Addr) (vl : Value) (n : Nat) (w : World) (F : Fp) (ho : OwnB w (.slice (some b) 0 0) []) (hl : (Ty.sl (.nat .u32)).holds w F [vl] [n]) (hF : ∀ b, F b → b < w.heap.size) :
    Calls Try.prog 26 #[.slice (some b) 0 0, vl] w fun e w' => ∃ v', e = .returned v' ∧ OwnB w' v' (be 4 n) ∧ Ext w w' ∧ ∀ g, v'.ownBlock = some g → w.heap.size ≤ g := by
  obtain ⟨A, c, xs, hv, hlc, hc, _, hcell, hall⟩ := hl
  cases hv
  unfold maxLen at hc
  obtain ⟨ad, rfl, hf, hcells⟩ := hcell (by simp)
  obtain ⟨hx, hwf⟩ := AllH.nat_at hall (show 0 < [n].length by simp)
  have hcx := hcells 0 _ hx
  have hbd := bounds_u32 hwf
  have hfl := hF _ hf
  have HO := Lib.hid ho
  clear hwf hx hall hcells hcell ho
  simp only [List.getElem_cons_zero] at hcx hbd
  replace hcx : w.cell? ad = some (.int .u32 (n : Int)) := hcx
  go_enter Try.func26, Try.ntmps26
  go_wp2
  go_loopw [0, 9] (fun vr i wr => Ext w wr ∧ ((i = .int .i64 0 ∧ vr = .slice (some b) 0 0) ∨ (i = .int .i64 1 ∧ OwnB wr vr (be 4 n) ∧ ∀ g, vr.ownBlock = some g → w.heap.size ≤ g))) (fun _ i _ => 1 - (intOf i).toNat)
  case atStart => exact ⟨Ext.refl _, .inl ⟨rfl, rfl⟩⟩
  case round =>
    obtain ⟨hxr, hst⟩ := hrel
    rcases hst with ⟨rfl, rfl⟩ | ⟨rfl, hor, hnr⟩
    · have hor := HO.out.ext hxr
      have hcr := World.grownBy.cell hxr hcx (by simp)
      go_wp2_with fail
      refine (num0 b n 4 _ hor (by omega) (by omega) (by omega)).mono ?_
      rintro e w1 ⟨v1, rfl, ho1, hx1, hn1⟩
      go_wp2
      go_roundw
      case rel => exact ⟨hxr.trans hx1, .inr ⟨rfl, ho1, fun g hg => Nat.le_trans hxr.size (hn1 g hg)⟩⟩
      case measure => simp [intOf]
    · go_wp2
      go_ret
      exact ⟨_, rfl, hor, hxr, hnr⟩
end
section
open Go.RowKit

theorem count_lt {p q : Nat → Bool} {i : Nat} (hpi : p i = true) (hqi : q i = false) (hle : ∀ j, q j = true → p j = true) : ∀ {l : List Nat}, i ∈ l → (l.filter q).length < (l.filter p).length
  | [], h => by cases h
  | a :: l, h => by
    have mono : ∀ l : List Nat, (l.filter q).length ≤ (l.filter p).length := by
      intro l
      induction l with
      | nil => simp
      | cons b l ih =>
        by_cases hb : q b = true
        · simp [List.filter_cons, hb, hle b hb, ih]
        · have hb' : q b = false := by simpa using hb
          by_cases hp : p b = true
          · simp [List.filter_cons, hb', hp]; omega
          · simp [List.filter_cons, hb', hp, ih]
    rcases List.mem_cons.1 h with rfl | h'
    · have := mono l
      simp [List.filter_cons, hpi, hqi]; omega
    · have ih := count_lt hpi hqi hle h'
      by_cases hb : q a = true
      · simp [List.filter_cons, hb, hle a hb, ih]
      · have hb' : q a = false := by simpa using hb
        by_cases hp : p a = true
        · simp [List.filter_cons, hb', hp]; omega
        · simp [List.filter_cons, hb', hp, ih]
/-- A value more. -/
def upd (s : Nat → Value) (i : Nat) (v : Value) : Nat → Value := fun k => if k = i then v else s k
theorem upd_self (s : Nat → Value) (i : Nat) (v : Value) : upd s i v i = v := if_pos rfl
theorem upd_ne (s : Nat → Value) {i k : Nat} (v : Value) (h : k ≠ i) : upd s i v k = s k := if_neg h
/-- What is asked of the region's text. -/
def stabB (md : Region.Mode) (ops : Array Oper) (rem : List Nat) (D : Nat → List Nat) : Bool :=
  rem.all fun i => decide (i < ops.size) && (D i).contains i &&
    match ops[i]? with
    | none => false
    | some o => (D i).all (fun k => rem.contains k && (k == i || o.after.any fun e => Region.binds md e && rem.contains e.on && (D e.on).contains k)) && o.after.all fun e => !(Region.binds md e) || decide (e.on < i)
structure Stab (R : World → World → Prop) (P : Program) (md : Region.Mode) (ops : Array Oper) (Q : Exit → Act → World → Prop) (w0 : World) (rem : List Nat) (L : Nat) (mk : (Nat → Value) → Act) (D : Nat → List Nat) (Post : Nat → (Nat → Value) → World → Prop) : Prop where
  text : stabB md ops rem D = true
  put : ∀ i ∈ rem, ∀ o, ops[i]? = some o → ∀ s v, (mk s).put o.dst v = mk (upd s i v)
  st : ∀ i s w w', Post i s w → R w w' → Post i s w'
  loc : ∀ i ∈ rem, ∀ s s' w, (∀ k ∈ D i, s k = s' k) → Post i s w → Post i s' w
  op : ∀ i ∈ rem, i ≠ L → ∀ o, ops[i]? = some o → ∀ s w, R w0 w → (∀ k ∈ D i, k ≠ i → Post k s w) → ∀ K : Act → World → Prop, (∀ v w', R w w' → Post i (upd s i v) w' → K ((mk s).put o.dst v) w') →
    if Region.wanted o (yielded ops (mk s).tmps) = true then o.wp P (mk s) w K Q else K ((mk s).put o.dst undef) w
  last : L ∈ rem → (∀ k ∈ rem, k ∈ D L) ∧ ∀ o, ops[L]? = some o → ∀ s w, R w0 w → (∀ k ∈ rem, k ≠ L → Post k s w) → ∀ K : Act → World → Prop, (∀ a' w', Q .normal a' w' → K a' w') →
    if Region.wanted o (yielded ops (mk s).tmps) = true then o.wp P (mk s) w K Q else K ((mk s).put o.dst undef) w
  fin : L ∉ rem → ∀ s w, R w0 w → (∀ k ∈ rem, Post k s w) → Q .normal (mk s) w
section
variable {R : World → World → Prop} {P : Program} {md : Region.Mode} {ops : Array Oper} {Q : Exit → Act → World → Prop} {w0 : World} {rem : List Nat} {L : Nat} {mk : (Nat → Value) → Act} {D : Nat → List Nat} {Post : Nat → (Nat → Value) → World → Prop}
theorem stabB_spec (h : stabB md ops rem D = true) {i : Nat} (hi : i ∈ rem) : i < ops.size ∧ i ∈ D i ∧ ∀ o, ops[i]? = some o → (∀ k ∈ D i, k ∈ rem ∧ (k = i ∨ ∃ e ∈ o.after, Region.binds md e = true ∧ e.on ∈ rem ∧ k ∈ D e.on)) ∧ ∀ e ∈ o.after, Region.binds md e = true → e.on < i := by
  have h1 := (List.all_eq_true.1 h) i hi
  simp only [Bool.and_eq_true, decide_eq_true_eq] at h1
  obtain ⟨⟨h2, h3⟩, h4⟩ := h1
  refine ⟨h2, by simpa using h3, fun o ho => ?_⟩
  rw [ho] at h4
  simp only [Bool.and_eq_true] at h4
  obtain ⟨h5, h6⟩ := h4
  refine ⟨fun k hk => ?_, fun e he hb => ?_⟩
  · have h7 := (List.all_eq_true.1 h5) k hk
    simp only [Bool.and_eq_true, Bool.or_eq_true] at h7
    obtain ⟨h8, h9⟩ := h7
    refine ⟨by simpa using h8, ?_⟩
    rcases h9 with h9 | h9
    · exact .inl (by simpa using h9)
    · obtain ⟨j, hj, h10⟩ := Array.any_eq_true.1 h9
      simp only [Bool.and_eq_true] at h10
      exact .inr ⟨_, Array.getElem_mem _, h10.1.1, by simpa using h10.1.2, by simpa using h10.2⟩
  · obtain ⟨j, hj, rfl⟩ := Array.getElem_of_mem he
    have h7 := (Array.all_eq_true.1 h6) j hj
    rw [hb] at h7
    simpa using h7
theorem stab_all {fuel : Nat} {listed : Array Bool} {a : Act} {w : World} (h : ∀ i, i < ops.size → listed.getD i true = true) (hq : Q .normal a w) : wpAny P md ops Q fuel listed a w := by
  have hr : Region.ready md ops listed = [] := by
    refine List.eq_nil_iff_forall_not_mem.2 fun j hj => ?_
    obtain ⟨h1, o, h2, _⟩ := Go.mem_ready.1 hj
    have := h j (Array.getElem?_eq_some_iff.1 h2).1
    rw [h1] at this; cases this
  cases fuel with
  | zero => exact ⟨hr, hq⟩
  | succ n => exact ⟨fun _ => hq, by rw [hr]; simp⟩
theorem set_listed {listed : Array Bool} {i j : Nat} (h : listed.getD j true = true) : (listed.setIfInBounds i true).getD j true = true := by
  by_cases e : i = j
  · subst e
    rcases Nat.lt_or_ge i listed.size with h' | h'
    · simp [h']
    · simp [h']
  · rw [getD_set_ne true e]; exact h
theorem set_listed_self {listed : Array Bool} {i : Nat} : (listed.setIfInBounds i true).getD i true = true := by
  rcases Nat.lt_or_ge i listed.size with h' | h'
  · simp [h']
  · simp [h']
theorem getD_both {listed : Array Bool} {j : Nat} (h : listed.getD j false = true) : listed.getD j true = true := by
  rcases Nat.lt_or_ge j listed.size with h' | h'
  · simp [h'] at h ⊢; exact h
  · simp [h'] at h
theorem getD_both' {listed : Array Bool} {j : Nat} (hj : j < listed.size) (h : listed.getD j true = true) : listed.getD j false = true := by
  simp [hj] at h ⊢; exact h
theorem Stab.run (htr : ∀ a b c, R a b → R b c → R a c) (h : Stab R P md ops Q w0 rem L mk D Post) : ∀ (fuel : Nat) (listed : Array Bool) (s : Nat → Value) (w : World), R w0 w → listed.size = ops.size → (∀ i, i < ops.size → listed.getD i true = false → i ∈ rem) →
    (∀ i ∈ rem, listed.getD i true = true → i ≠ L ∧ Post i s w ∧ ∀ k ∈ D i, listed.getD k true = true) → (rem.filter (fun i => !(listed.getD i true))).length ≤ fuel → wpAny P md ops Q fuel listed (mk s) w := by
  intro fuel
  induction fuel with
  | zero =>
    intro listed s w hx hsz hrem hinv hct
    have hall : ∀ i ∈ rem, listed.getD i true = true := by
      intro i hi
      have := List.eq_nil_of_length_eq_zero (Nat.le_zero.1 hct)
      have := (List.filter_eq_nil_iff.1 this) i hi
      simpa using this
    refine stab_all (fun i hi => ?_) (h.fin (fun hL => (hinv L hL (hall L hL)).1 rfl) s w hx fun k hk => (hinv k hk (hall k hk)).2.1)
    cases hb : listed.getD i true with
    | true => rfl
    | false => rw [← hb]; exact hall i (hrem i hi hb)
  | succ fuel ih =>
    intro listed s w hx hsz hrem hinv hct
    refine ⟨fun hr => ?_, fun i hi => ?_⟩
    · have hno : ∀ n i, i < n → i < ops.size → listed.getD i true = true := by
        intro n
        induction n with
        | zero => intro i hi; omega
        | succ n ihn =>
          intro i hi hio
          cases hb : listed.getD i true with
          | true => rfl
          | false =>
            exfalso
            have him := hrem i hio hb
            obtain ⟨_, _, h3⟩ := stabB_spec h.text him
            obtain ⟨o, ho⟩ : ∃ o, ops[i]? = some o := ⟨_, Array.getElem?_eq_getElem hio⟩
            have hin : i ∈ Region.ready md ops listed := Go.mem_ready.2 ⟨hb, o, ho, fun e he hbd => getD_both' (by have := (h3 o ho).2 e he hbd; omega) (ihn _ (by have := (h3 o ho).2 e he hbd; omega) (by have := (h3 o ho).2 e he hbd; omega))⟩
            rw [hr] at hin; cases hin
      have hall : ∀ i ∈ rem, listed.getD i true = true := fun i hi => hno (i + 1) i (Nat.lt_succ_self i) (stabB_spec h.text hi).1
      exact h.fin (fun hL => (hinv L hL (hall L hL)).1 rfl) s w hx fun k hk => (hinv k hk (hall k hk)).2.1
    · obtain ⟨hun, o, ho, hall⟩ := Go.mem_ready.1 hi
      have hio : i < ops.size := (Array.getElem?_eq_some_iff.1 ho).1
      have him := hrem i hio hun
      obtain ⟨_, hself, h3⟩ := stabB_spec h.text him
      have hdep : ∀ k ∈ D i, k ≠ i → k ∈ rem ∧ listed.getD k true = true := by
        intro k hk hne
        obtain ⟨hkr, hk2⟩ := (h3 o ho).1 k hk
        rcases hk2 with rfl | ⟨e, he, hb, her, hke⟩
        · exact absurd rfl hne
        · exact ⟨hkr, (hinv e.on her (getD_both (hall e he hb))).2.2 k hke⟩
      refine wpOp_step ho fun K' hK => ?_
      by_cases hL : i = L
      · subst hL
        obtain ⟨hcov, hlast⟩ := h.last him
        refine hlast o ho s w hx (fun k hk hne => (hinv k hk (hdep k (hcov k hk) hne).2).2.1) K' fun a' w' hq => hK _ _ (stab_all (fun j hj => ?_) hq)
        by_cases e : i = j
        · subst e; exact set_listed_self
        · rw [getD_set_ne true e]
          cases hb : listed.getD j true with
          | true => rfl
          | false => rw [← hb]; exact (hdep j (hcov j (hrem j hj hb)) (Ne.symm e)).2
      · refine h.op i him hL o ho s w hx (fun k hk hne => (hinv k (hdep k hk hne).1 (hdep k hk hne).2).2.1) K' fun v w' hx' hp => hK _ _ ?_
        rw [h.put i him o ho s v]
        refine ih _ _ w' (htr _ _ _ hx hx') (by simpa using hsz) (fun j hj hb => ?_) (fun j hj hb => ?_) ?_
        · refine hrem j hj ?_
          cases hb2 : listed.getD j true with
          | false => rfl
          | true => rw [set_listed hb2] at hb; cases hb
        · by_cases e : i = j
          · subst e
            refine ⟨hL, hp, fun k hk => ?_⟩
            by_cases e2 : k = i
            · subst e2; exact set_listed_self
            · exact set_listed (hdep k hk e2).2
          · rw [getD_set_ne true e] at hb
            obtain ⟨g1, g2, g3⟩ := hinv j hj hb
            refine ⟨g1, h.loc j hj s _ w' (fun k hk => ?_) (h.st j s w w' g2 hx'), fun k hk => set_listed (g3 k hk)⟩
            rw [upd_ne]
            rintro rfl
            have := g3 k hk
            rw [hun] at this; cases this
        · have := count_lt (p := fun i => !(listed.getD i true)) (q := fun j => !((listed.setIfInBounds i true).getD j true)) (i := i) (by simp only [hun, Bool.not_false]) (by simp only [set_listed_self, Bool.not_true])
            (fun j hj => by
              cases hb2 : listed.getD j true with
              | false => rfl
              | true => simp only [set_listed hb2, Bool.not_true] at hj; cases hj) him
          omega
/-- From the start of the walk: what the quiet walk has taken is listed already. -/
theorem Stab.start {id : Nat} {a : Act} {w : World} (hrf : ∀ a, R a a) (htr : ∀ a b c, R a b → R b c → R a c) (s : Nat → Value) (hm : P.follows .mixedOrders = true) (h : Stab R P .any ops Q w.drew rem L mk D Post) (hs : a = mk s) (hrem : ∀ i, i < ops.size → i ∈ rem) (hct : rem.length ≤ ops.size) : (Code.region id ops true).wp P Q a w := by
  subst hs
  refine wp_region_any hm (h.run htr ops.size _ s w.drew (hrf _) (by simp) (fun i hi _ => hrem i hi) (fun i hi hb => ?_) ?_)
  · have := (stabB_spec h.text hi).1
    simp [this] at hb
  · exact Nat.le_trans (List.length_filter_le _ _) hct
theorem ext_refl (a : World) : Ext a a := Ext.refl a
theorem ext_trans (a b c : World) (h : Ext a b) (k : Ext b c) : Ext a c := h.trans k
/-- Later: what was there ahead of 'b0' stands; what came since stands, but where there was nothing. -/
structure Grew (b0 : Nat) (w w' : World) : Prop where
  os : w'.os = w.os
  tape : w'.tape = w.tape
  output : w'.output = w.output
  size : w.heap.size ≤ w'.heap.size
  block : ∀ b, b < w.heap.size → w'.heap[b]? = w.heap[b]? ∨ (b0 ≤ b ∧ ∃ t fr, w.heap[b]? = some (.cells #[] t fr))
theorem Grew.refl (b0 : Nat) (w : World) : Grew b0 w w := ⟨rfl, rfl, rfl, Nat.le_refl _, fun _ _ => .inl rfl⟩
theorem Grew.trans {b0 : Nat} {a b c : World} (h : Grew b0 a b) (k : Grew b0 b c) : Grew b0 a c :=
  ⟨k.os.trans h.os, k.tape.trans h.tape, k.output.trans h.output, Nat.le_trans h.size k.size, fun x hx => by
    rcases h.block x hx with h1 | h1
    · rcases k.block x (Nat.lt_of_lt_of_le hx h.size) with k1 | k1
      · exact .inl (k1.trans h1)
      · rw [h1] at k1; exact .inr k1
    · exact .inr h1⟩
theorem Grew.tr (b0 : Nat) (a b c : World) (h : Grew b0 a b) (k : Grew b0 b c) : Grew b0 a c := h.trans k
theorem Grew.of_ext {b0 : Nat} {w w' : World} (h : Ext w w') : Grew b0 w w' := ⟨h.os, h.tape, h.output, h.size, fun b hb => .inl (h.block b hb (by simp))⟩
theorem Grew.of_one {b0 g : Nat} {w w' : World} (h : w.grownBy w' (some g)) (hg : b0 ≤ g) {t : TypeId} {fr : Nat × Nat} (he : w.heap[g]? = some (.cells #[] t fr)) : Grew b0 w w' :=
  ⟨h.os, h.tape, h.output, h.size, fun b hb => by
    by_cases e : b = g
    · subst e; exact .inr ⟨hg, t, fr, he⟩
    · exact .inl (h.block b hb (by simpa using e))⟩
/-- .. as seen from ahead. -/
theorem Grew.ext {b0 : Nat} {a w w' : World} (h : Ext a w) (hb : a.heap.size ≤ b0) (k : Grew b0 w w') : Ext a w' :=
  ⟨k.os.trans h.os, k.tape.trans h.tape, k.output.trans h.output, Nat.le_trans h.size k.size, fun b hb2 hn => by
    rcases k.block b (Nat.lt_of_lt_of_le hb2 h.size) with h1 | h1
    · exact h1.trans (h.block b hb2 hn)
    · exact absurd h1.1 (by omega)⟩
theorem Grew.blk {b0 g : Nat} {w w' : World} {t : TypeId} {cs : List Value} (h : Blk w g t cs) (hn : cs ≠ []) (k : Grew b0 w w') : Blk w' g t cs := by
  have hg : g < w.heap.size := h.lt
  rcases k.block g hg with h1 | ⟨_, t', fr, h1⟩
  · exact h1.trans h
  · rw [show w.heap[g]? = _ from h] at h1
    simp at h1
    exact absurd h1.1 hn
theorem wanted_plain {o : Oper} {y : Nat → Option Bool} (h : o.guard = none) : Region.wanted o y = true := by simp [Region.wanted, h]
end
/-! ### The frame with the values in their slots -/
def mkOf (a : Act) : List (Option Nat) → Nat → (Nat → Value) → Act
  | [], _, _ => a
  | d :: ds, i, s => mkOf (a.put d (s i)) ds (i + 1) s
theorem mkOf_congr (s s' : Nat → Value) : ∀ (ds : List (Option Nat)) (i : Nat) (a : Act), (∀ j d, ds[j]? = some (some d) → s (i + j) = s' (i + j)) → mkOf a ds i s = mkOf a ds i s'
  | [], _, _, _ => rfl
  | d :: ds, i, a, h => by
    have e : a.put d (s i) = a.put d (s' i) := by
      cases d with
      | none => rfl
      | some x => rw [show s i = s' i from h 0 x rfl]
    unfold mkOf
    rw [e]
    exact mkOf_congr s s' ds (i + 1) _ fun j d hj => by have := h (j + 1) d hj; rwa [show i + (j + 1) = i + 1 + j by omega] at this
theorem put_comm {a : Act} {d e : Option Nat} {u v : Value} (h : ∀ x, d = some x → e ≠ some x) : (a.put d u).put e v = (a.put e v).put d u := by
  cases d with
  | none => rfl
  | some x =>
    cases e with
    | none => rfl
    | some y =>
      have hne : x ≠ y := fun e => h x rfl (by rw [e])
      simp only [Act.put]
      congr 1
      exact Array.setIfInBounds_comm _ _ hne
theorem put_same {a : Act} {d : Option Nat} {u v : Value} : (a.put d u).put d v = a.put d v := by
  cases d with
  | none => rfl
  | some x =>
    simp only [Act.put]
    congr 1
    apply Array.ext_getElem?
    intro k
    simp only [Array.getElem?_setIfInBounds, Array.size_setIfInBounds]
    by_cases hk : x = k <;> simp [hk]
theorem mkOf_comm (s : Nat → Value) (d : Nat) (v : Value) : ∀ (ds : List (Option Nat)) (i : Nat) (a : Act), some d ∉ ds → (mkOf a ds i s).put (some d) v = mkOf (a.put (some d) v) ds i s
  | [], _, _, _ => rfl
  | e :: ds, i, a, h => by
    unfold mkOf
    rw [mkOf_comm s d v ds (i + 1) _ (fun hm => h (List.mem_cons_of_mem _ hm)), put_comm]
    rintro x rfl he
    exact h (by rw [he]; simp)
def noTwice : List (Option Nat) → Bool
  | [] => true
  | none :: ds => noTwice ds
  | some d :: ds => !(ds.contains (some d)) && noTwice ds
theorem mkOf_put (s : Nat → Value) (v : Value) : ∀ (ds : List (Option Nat)) (i j : Nat) (a : Act) (d : Option Nat), noTwice ds = true → ds[j]? = some d → (mkOf a ds i s).put d v = mkOf a ds i (upd s (i + j) v)
  | [], _, _, _, _, _, h => by simp at h
  | e :: ds, i, 0, a, d, hn, h => by
    obtain rfl : e = d := by simpa using h
    cases e with
    | none =>
      refine (mkOf_congr _ _ _ _ _ fun j d hj => ?_)
      rw [upd_ne]
      rintro hij
      obtain rfl : j = 0 := by omega
      simp at hj
    | some x =>
      simp only [noTwice, Bool.and_eq_true] at hn
      unfold mkOf
      rw [mkOf_comm s x v ds (i + 1) _ (by simpa using hn.1), put_same, show i + 0 = i from rfl, upd_self]
      exact mkOf_congr _ _ _ _ _ fun j d _ => by rw [upd_ne]; omega
  | e :: ds, i, j + 1, a, d, hn, h => by
    have hn2 : noTwice ds = true := by
      cases e with
      | none => exact hn
      | some x => simp only [noTwice, Bool.and_eq_true] at hn; exact hn.2
    unfold mkOf
    rw [mkOf_put s v ds (i + 1) j _ d hn2 (by simpa using h), show i + 1 + j = i + (j + 1) by omega, upd_ne _ _ (by omega)]
/-- The frame as it is. -/
def nowOf (a : Act) (ds : List (Option Nat)) (i : Nat) : Value := match ds[i]? with
  | some (some d) => a.tmps.getD d undef
  | _ => undef
theorem put_now (a : Act) (d : Nat) : a.put (some d) (a.tmps.getD d undef) = a := by
  have h : a.tmps.setIfInBounds d (a.tmps.getD d undef) = a.tmps := by
    apply Array.ext_getElem?
    intro k
    simp only [Array.getElem?_setIfInBounds]
    by_cases hk : d = k
    · subst hk
      by_cases hd : d < a.tmps.size <;> simp [hd]
    · simp [hk]
  simp only [Act.put, h]
theorem mkOf_now : ∀ (ds : List (Option Nat)) (i : Nat) (a : Act) (s : Nat → Value), (∀ j d, ds[j]? = some (some d) → s (i + j) = a.tmps.getD d undef) → mkOf a ds i s = a
  | [], _, _, _, _ => rfl
  | d :: ds, i, a, s, h => by
    have e : a.put d (s i) = a := by
      cases d with
      | none => rfl
      | some x => rw [show s i = _ from h 0 x rfl, put_now]
    unfold mkOf
    rw [e]
    exact mkOf_now ds (i + 1) a s fun j d hj => by have := h (j + 1) d hj; rwa [show i + (j + 1) = i + 1 + j by omega] at this
theorem mkOf_start (a : Act) (ds : List (Option Nat)) : a = mkOf a ds 0 (nowOf a ds) := (mkOf_now ds 0 a _ fun j d hj => by simp [nowOf, hj]).symm
/-- What is asked of one operation. -/
def StabOp (R : World → World → Prop) (P : Program) (ops : Array Oper) (Q : Exit → Act → World → Prop) (w0 : World) (mk : (Nat → Value) → Act) (Pi : Nat → Value → World → Prop) (D : List Nat) (i : Nat) (o : Oper) : Prop :=
  ∀ s w, R w0 w → (∀ k ∈ D, k ≠ i → Pi k (s k) w) → ∀ K : Act → World → Prop, (∀ v w', R w w' → Pi i v w' → K ((mk s).put o.dst v) w') →
    if Region.wanted o (yielded ops (mk s).tmps) = true then o.wp P (mk s) w K Q else K ((mk s).put o.dst undef) w
def StabLast (R : World → World → Prop) (P : Program) (ops : Array Oper) (Q : Exit → Act → World → Prop) (w0 : World) (mk : (Nat → Value) → Act) (Pi : Nat → Value → World → Prop) (L : Nat) (o : Oper) : Prop :=
  ∀ s w, R w0 w → (∀ k, k < L → Pi k (s k) w) → ∀ K : Act → World → Prop, (∀ a' w', Q .normal a' w' → K a' w') →
    if Region.wanted o (yielded ops (mk s).tmps) = true then o.wp P (mk s) w K Q else K ((mk s).put o.dst undef) w
section
variable {P : Program} {Q : Exit → Act → World → Prop}
theorem op_of {l : List Oper} {i : Nat} {o : Oper} (h : l.toArray[i]? = some o) : (l.drop i).head? = some o := by rw [List.head?_drop]; simpa using h
/-- THE WALK, the last operation a store: 'ops' the obligations, one for each but the last. -/
theorem stab_store {id : Nat} {l : List Oper} {a : Act} {w : World} (R : World → World → Prop) (hrf : ∀ a, R a a) (htr : ∀ a b c, R a b → R b c → R a c) (Ds : List (List Nat)) (Pi : Nat → Value → World → Prop) (hm : P.follows .mixedOrders = true)
    (ht : stabB .any l.toArray (List.range l.length) (fun i => Ds.getD i []) = true) (hn : noTwice (l.map (·.dst)) = true) (hc : (List.range l.length).all (fun k => (Ds.getD (l.length - 1) []).contains k) = true) (hl0 : l ≠ [])
    (hst : ∀ i v w w', Pi i v w → R w w' → Pi i v w')
    (hop : ∀ i, i < l.length - 1 → ∀ o, (l.drop i).head? = some o → StabOp R P l.toArray Q w.drew (mkOf a (l.map (·.dst)) 0) Pi (Ds.getD i []) i o)
    (hlast : ∀ o, (l.drop (l.length - 1)).head? = some o → StabLast R P l.toArray Q w.drew (mkOf a (l.map (·.dst)) 0) Pi (l.length - 1) o) : (Code.region id l.toArray true).wp P Q a w := by
  have hpos : 0 < l.length := List.length_pos_iff.2 hl0
  refine Stab.start (R := R) hrf htr (rem := List.range l.length) (L := l.length - 1) (mk := mkOf a (l.map (·.dst)) 0) (D := fun i => Ds.getD i []) (Post := fun i s w => Pi i (s i) w) (nowOf a (l.map (·.dst))) hm
    ⟨ht, fun i hi o ho s v => ?_, fun i s w w' => hst i (s i) w w', fun i hi s s' w hk h => ?_, fun i hi hL o ho s w hx hd K hK => ?_, fun _ => ⟨fun k hk => ?_, fun o ho s w hx hd K hK => ?_⟩, fun hL => ?_⟩ (mkOf_start a _) (fun i hi => by simpa using hi) (by simp)
  · have := mkOf_put s v (l.map (·.dst)) 0 i a o.dst hn (by rw [List.getElem?_map, show l[i]? = some o by simpa using ho]; rfl)
    rw [Nat.zero_add] at this
    exact this
  · rw [← hk i (stabB_spec ht hi).2.1]; exact h
  · refine hop i (by have := List.mem_range.1 hi; omega) o (op_of ho) s w hx hd K fun v w' h1 h2 => hK v w' h1 (by rw [upd_self]; exact h2)
  · have := (List.all_eq_true.1 hc) k hk
    simpa using this
  · exact hlast o (op_of ho) s w hx (fun k hk => hd k (List.mem_range.2 (by omega)) (by omega)) K hK
  · exact absurd (List.mem_range.2 (by omega)) hL
/-- THE WALK, no store. -/
theorem stab_plain {id : Nat} {l : List Oper} {a : Act} {w : World} (R : World → World → Prop) (hrf : ∀ a, R a a) (htr : ∀ a b c, R a b → R b c → R a c) (Ds : List (List Nat)) (Pi : Nat → Value → World → Prop) (hm : P.follows .mixedOrders = true)
    (ht : stabB .any l.toArray (List.range l.length) (fun i => Ds.getD i []) = true) (hn : noTwice (l.map (·.dst)) = true)
    (hst : ∀ i v w w', Pi i v w → R w w' → Pi i v w')
    (hop : ∀ i, i < l.length → ∀ o, (l.drop i).head? = some o → StabOp R P l.toArray Q w.drew (mkOf a (l.map (·.dst)) 0) Pi (Ds.getD i []) i o)
    (hfin : ∀ s w1, R w.drew w1 → (∀ k, k < l.length → Pi k (s k) w1) → Q .normal (mkOf a (l.map (·.dst)) 0 s) w1) : (Code.region id l.toArray true).wp P Q a w := by
  refine Stab.start (R := R) hrf htr (rem := List.range l.length) (L := l.length) (mk := mkOf a (l.map (·.dst)) 0) (D := fun i => Ds.getD i []) (Post := fun i s w => Pi i (s i) w) (nowOf a (l.map (·.dst))) hm
    ⟨ht, fun i hi o ho s v => ?_, fun i s w w' => hst i (s i) w w', fun i hi s s' w hk h => ?_, fun i hi hL o ho s w hx hd K hK => ?_, fun hL => absurd hL (by simp), fun hL s w hx hd => ?_⟩ (mkOf_start a _) (fun i hi => by simpa using hi) (by simp)
  · have := mkOf_put s v (l.map (·.dst)) 0 i a o.dst hn (by rw [List.getElem?_map, show l[i]? = some o by simpa using ho]; rfl)
    rw [Nat.zero_add] at this
    exact this
  · rw [← hk i (stabB_spec ht hi).2.1]; exact h
  · refine hop i (List.mem_range.1 hi) o (op_of ho) s w hx hd K fun v w' h1 h2 => hK v w' h1 (by rw [upd_self]; exact h2)
  · exact hfin s w hx fun k hk => hd k (List.mem_range.2 hk)
end
end
end Go.Proofs.Ytmicjaiiinaipaa

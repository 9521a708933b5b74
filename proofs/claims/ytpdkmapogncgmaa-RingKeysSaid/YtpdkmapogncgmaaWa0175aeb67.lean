/- Walks and plain laws, put together in build order. Conditions: what each of them names. -/
import Derived.Test.YtpdkmapogncgmaaW7d9ce58075
set_option linter.unusedVariables false
set_option linter.unusedSimpArgs false
set_option linter.unnecessarySimpa false
namespace Go.Proofs.Ytpdkmapogncgmaa
section
open Go.RowKit

theorem rem_two_i64 (P : Program) (t : TypeId) (m : Nat) (w : World) : (binOp .rem t (.int .i64 (m : Int)) (.int .i64 2)).run P w = .ok (.int .i64 ((m % 2 : Nat) : Int)) w := by
  have h : (m : Int).tmod 2 = ((m % 2 : Nat) : Int) := by rw [Int.tmod_eq_emod_of_nonneg (by omega)]; rfl
  have h2 : IntKind.i64.wrap ((m % 2 : Nat) : Int) = ((m % 2 : Nat) : Int) := by rw [wrap_i64]; unfold wrap64; omega
  rw [← h]; rfl
theorem quo_two_i64 (P : Program) (t : TypeId) (m : Nat) (h : m < 4294967296) (w : World) : (binOp .quo t (.int .i64 (m : Int)) (.int .i64 2)).run P w = .ok (.int .i64 ((m / 2 : Nat) : Int)) w := by
  have h1 : (m : Int).tdiv 2 = ((m / 2 : Nat) : Int) := by rw [Int.tdiv_eq_ediv_of_nonneg (by omega)]; rfl
  have h2 : IntKind.i64.wrap ((m / 2 : Nat) : Int) = ((m / 2 : Nat) : Int) := by rw [wrap_i64]; unfold wrap64; omega
  show Sem.run P (Op.intDiv .quo .i64 (m : Int) 2) w = _
  unfold Op.intDiv
  rw [if_neg (by decide)]
  show Sem.run P (pure (Value.int .i64 (IntKind.i64.wrap ((m : Int).tdiv 2)))) w = _
  rw [h1, h2, Sem.run_pure]
/-- The rows, each with its sums, in every world that has kept them. -/
theorem levs_rows {w : World} {F : Fp} {R : Value} {seed : List UInt8} {tall : Nat} (h : Levs w F R (levsM seed tall)) : ∃ ad c, R = .slice (some ad) (tall + 1) c ∧ tall + 1 ≤ c ∧ c ≤ maxLen ∧ F ad.block ∧ ∀ j, j ≤ tall → ∃ ad2 c2, 2 ^ (tall - j) ≤ c2 ∧ c2 ≤ maxLen ∧ F ad2.block ∧
    ∀ W : World, (∀ b, F b → W.heap[b]? = w.heap[b]?) → W.cell? (ad.add j) = some (.slice (some ad2) (2 ^ (tall - j)) c2) ∧ ∀ i, i < 2 ^ (tall - j) → Cells W (ad2.add (i * 32)) (bv ((levM seed tall j).getD i [])) := by
  have hll0 : (levsM seed tall).length = tall + 1 := by simp [levsM]
  have hll : List.length (α := (Ty.sl DigT).Data) (levsM seed tall) = tall + 1 := hll0
  obtain ⟨A, c, xs, hv, h1, h2, h3, h4, h5⟩ := h
  cases hv
  obtain ⟨ad, rfl, hF, hc⟩ := h4 (by intro e; rw [e] at hll; simp at hll)
  rw [hll] at h1 ⊢
  refine ⟨ad, c, rfl, h1, h2, hF, fun j hj => ?_⟩
  have hlj : j < List.length (α := (Ty.sl DigT).Data) (levsM seed tall) := by omega
  obtain ⟨v, hv, hw⟩ := AllH.sl_at h5 hlj
  have hel : (levsM seed tall)[j]'(by rw [hll0]; omega) = levM seed tall j := by simp [levsM]
  have hw' : (Ty.sl DigT).holds w F [v] (levM seed tall j) := by rw [← hel]; exact hw
  obtain ⟨A2, c2, ys, hv2, k1, k2, k3, k4, k5⟩ := hw'
  obtain rfl : v = _ := by simpa using hv2
  have hl := levM_length seed tall j hj
  have hpos : 0 < 2 ^ (tall - j) := Nat.two_pow_pos _
  obtain ⟨ad2, rfl, hF2, hc2⟩ := k4 (by
    intro e
    have e' : List.length (α := Dg) (levM seed tall j) = 0 := by rw [e]; rfl
    omega)
  replace k1 : List.length (α := Dg) (levM seed tall j) ≤ c2 := k1
  replace hv : xs[j]? = some (.slice (some ad2) (List.length (α := Dg) (levM seed tall j)) c2) := hv
  rw [hl] at k1 hv
  refine ⟨ad2, c2, k1, k2, hF2, fun W hW => ⟨?_, fun i hi => ?_⟩⟩
  · exact (hc.keep (hW _ hF)) j _ hv
  · have hi' : i < List.length (α := Dg) (levM seed tall j) := by rw [hl]; exact hi
    have := digs_at (w' := W) k5 (hc2.keep (hW _ hF2)) hi'
    rw [show (levM seed tall j).getD i [] = (levM seed tall j)[i] by simp [List.getD, hi']]
    exact this.1
theorem fill_sig {C : List Value} (h : C.length = 1024) (key : Nat) : fillL ([(0, 1024), (1024, 1), (1025, 1)].toArray[·]?) zSig [(0, C), (1, [.int .u32 (key : Int)])] = some (sigC C key (.slice none 0 0)) := by
  have hl : (bv (List.replicate 1024 (0 : UInt8))).length = 1024 := by rw [bv_length, List.length_replicate]
  have hz := zSig_len
  unfold zSig at *
  generalize bv (List.replicate 1024 (0 : UInt8)) = ZB at *
  simp [fillL, h, sigC, List.drop_append, List.take_append, hl]
set_option maxRecDepth 100000 in
set_option maxHeartbeats 8000000 in
theorem RRing_Sign (seed : List UInt8) (hs : seed.length = 32) (n : Nat) (hn : n ≤ 8) (key : Nat) (hk : key < 2 ^ n) (d : Dg) (hd : List.length (α := UInt8) d = 32) (R : Value) (F : Fp) (w : World) (hR : Levs w F R (levsM seed n)) (hF : ∀ b, F b → b < w.heap.size) :
    Calls Try.prog 26 #[.agg tabsC.toArray, .agg (bv seed).toArray, R, .int .i64 (key : Int), .agg (bv d).toArray] w fun e w' => ∃ v, e = .returned (.agg (sigC (bv (signM seed key d)) key v).toArray) ∧ OwnD 31 w' v (wayM seed n key) ∧ Ext w w' ∧ ∀ b, v.ownBlock = some b → w.heap.size ≤ b := by
  obtain ⟨i1, z1, hi1, hz1, hi2, hi3, hi4⟩ := partsFrom05
  obtain ⟨fields, hfu, hfp⟩ := fieldsFrom05
  obtain ⟨ZR, hzr, hzl, hzo, hfl⟩ : ∃ ZR : List Value, (Try.prog.info? 30).bind (fun i => i.zero.map (·.cells)) = some ZR.toArray ∧ ZR.length = 1026 ∧ (∀ u ∈ ZR, u.oneCell' = true) ∧ ∀ C : List Value, C.length = 1024 → fillL ([(0, 1024), (1024, 1), (1025, 1)].toArray[·]?) ZR [(0, C), (1, [.int .u32 (key : Int)])] = some (sigC C key (.slice none 0 0)) :=
    ⟨zSig, zSig_zeroR, zSig_len, zSig_one, fun C h => fill_sig h key⟩
  have hpl := pow_low hn
  have hk32 : key < 4294967296 := by omega
  have hsl : (bv seed).length = 32 := by rw [bv_length]; exact hs
  have hdl : (bv d).length = 32 := by rw [bv_length]; exact hd
  have hgl : (bv (signM seed key d)).length = 1024 := by rw [bv_length]; exact signM_length _ _ _
  have hgo := bv_one (signM seed key d)
  have hsg := fun W => RSign seed hs key hk32 d hd W
  have hts : (Try.prog.info? 44).map (·.size) = some tabsC.length := tabs_size rfl
  obtain ⟨ad, c, rfl, hnc, hcm, hFad, hrows⟩ := levs_rows hR
  unfold maxLen at hcm
  generalize tabsC = TB at *
  generalize bv seed = SC at *
  generalize bv d = DC at *
  generalize bv (signM seed key d) = SG at *
  have hx0 : Ext w ((((w.alloc (.cells TB.toArray 44)).alloc (.cells SC.toArray 31)).alloc (.cells DC.toArray 31)).alloc (.cells ZR.toArray 30)) := ((((Ext.refl w).alloc _).alloc _).alloc _).alloc _
  have hbt : Blk ((((w.alloc (.cells TB.toArray 44)).alloc (.cells SC.toArray 31)).alloc (.cells DC.toArray 31)).alloc (.cells ZR.toArray 30)) w.heap.size 44 TB := (((Blk.new _ _ _).keep ((Ext.refl _).alloc _) (by simp)).keep ((Ext.refl _).alloc _) (by simp)).keep ((Ext.refl _).alloc _) (by simp)
  have hbs : Blk ((((w.alloc (.cells TB.toArray 44)).alloc (.cells SC.toArray 31)).alloc (.cells DC.toArray 31)).alloc (.cells ZR.toArray 30)) (w.heap.size + 1) 31 SC := ((Blk.fresh (by simp) _ _).keep ((Ext.refl _).alloc _) (by simp)).keep ((Ext.refl _).alloc _) (by simp)
  have hbd : Blk ((((w.alloc (.cells TB.toArray 44)).alloc (.cells SC.toArray 31)).alloc (.cells DC.toArray 31)).alloc (.cells ZR.toArray 30)) (w.heap.size + 2) 31 DC := (Blk.fresh (by simp) _ _).keep ((Ext.refl _).alloc _) (by simp)
  have hbz : Blk ((((w.alloc (.cells TB.toArray 44)).alloc (.cells SC.toArray 31)).alloc (.cells DC.toArray 31)).alloc (.cells ZR.toArray 30)) (w.heap.size + 3) 30 ZR := Blk.fresh (by simp) _ _
  have hwz : ((((w.alloc (.cells TB.toArray 44)).alloc (.cells SC.toArray 31)).alloc (.cells DC.toArray 31)).alloc (.cells ZR.toArray 30)).heap.size = w.heap.size + 4 := by simp
  have hct := hbt.cells
  have hcs := hbs.cells
  have hcd := hbd.cells
  have hwk : IntKind.u32.wrap (key : Int) = (key : Int) := by simp [IntKind.wrap, IntKind.bits, IntKind.signed]; omega
  have hgs := sigC_len hgl key (.slice none 0 0)
  have hgso : ∀ u ∈ sigC SG key (.slice none 0 0), u.oneCell' = true := sigC_one hgo _ _ _ _
  obtain ⟨M, hM⟩ : ∃ M, M = sigC SG key (.slice none 0 0) := ⟨_, rfl⟩
  have hflM := hfl SG hgl
  rw [← hM] at hgs hgso hflM
  have HM := Lib.hid hM
  have HML := Lib.hid hgs
  have HFL := Lib.hid hflM
  have HTS := Lib.hid hts
  have HSG := Lib.hid hsg
  have HSL := Lib.hid hsl
  have HDL := Lib.hid hdl
  have HGL := Lib.hid hgl
  have HGO := Lib.hid hgo
  have HZL := Lib.hid hzl
  have HX0 := Lib.hid hx0
  have HBZ0 := Lib.hid hbz
  have HCT := Lib.hid hct
  have HCS := Lib.hid hcs
  have HCD := Lib.hid hcd
  have HWZ := Lib.hid hwz
  have HRW := Lib.hid hrows
  have HFW := Lib.hid hF
  have HFAD := Lib.hid hFad
  have HK := Lib.hid hk
  clear hM hgs hflM hfl hts hsg hsl hdl hgl hgo hzl hx0 hbt hbs hbd hbz hct hcs hcd hwz hrows hF hR hFad hk hpl
  go_enter Try.func26, Try.ntmps26
  go_wp2_with (first
    | ((with_reducible refine wpDst 10 rfl ?_); refine wpList_alloc _ rfl 30 rfl _ hzr ?_)
    | ((with_reducible refine wpDst 15 rfl ?_); refine wpList_load_agg _ rfl 44 (.tmp 5) rfl _ rfl TB _ Try.underlying44 rfl HTS.out (by exact HCT.out) ?_)
    | ((with_reducible refine wpDst 16 rfl ?_); refine wpList_load_agg _ rfl 31 (.tmp 6) rfl _ rfl SC _ Try.underlying31 rfl (szElTo05 HSL.out) (by exact HCS.out) ?_)
    | ((with_reducible refine wpDst 19 rfl ?_); refine wpList_load_agg _ rfl 31 (.tmp 9) rfl _ rfl DC _ Try.underlying31 rfl (szElTo05 HDL.out) (by exact HCD.out) ?_)
    | fail)
  refine (HSG.out _).mono ?_
  rintro e w1 ⟨rfl, hx1⟩
  obtain ⟨sb, hsb⟩ : ∃ sb, sb = w1.heap.size := ⟨_, rfl⟩
  have hx2 : Ext _ (w1.alloc (.cells M.toArray 30)) := hx1.alloc _
  have hbs2 : Blk (w1.alloc (.cells M.toArray 30)) sb 30 M := by rw [hsb]; exact Blk.new _ _ _
  have hbz2 := HBZ0.out.keep hx2 (by simp)
  have HSB : Hid (w.heap.size + 4 ≤ sb) := Lib.hid (by rw [hsb]; have h1 := hx1.size; have h2 := HWZ.out; omega)
  have HG1 := Lib.hid (HX0.out.trans hx2)
  have HBS1 := Lib.hid hbs2
  have HBZ1 := Lib.hid hbz2
  clear hx1 hx2 hbs2 hbz2 HX0 HBZ0 HCT HCS HCD
  go_wp2_with (first
    | ((with_reducible refine wpDst 23 rfl ?_); go_must (refine wpList_build_st (.inl rfl) 30 #[(0, .tmp 20), (1, .tmp 22)] rfl fields ZR M _ [(0, SG), (1, [.int .u32 (key : Int)])] hfu hzr hfp (by simp [Value.cells, Act.eval]) HFL.out ?_))
    | ((with_reducible refine wpDst 11 rfl ?_); refine wpList_alloc _ rfl 30 rfl _ hzr ?_)
    | ((with_reducible refine wpSto 11 23 rfl ?_); refine wpList_storeN rfl 30 (.tmp 11) (.tmp 23) rfl w1 rfl ZR M 30 rfl rfl (szOutFrom05 HML.out) (by rw [HML.out, HZL.out]) hgso ?_)
    | fail)
  rw [← hsb]
  clear hsb
  generalize w1.alloc (.cells M.toArray 30) = w2 at *
  have hbs0 := HBS1.out
  rw [HM.out] at hbs0
  have HBS0 := Lib.hid hbs0
  have HBZ0 := Lib.hid HBZ1.out
  have HG0 := Lib.hid HG1.out
  clear hbs0 HBS1 HBZ1 HG1
  go_loopw [12, 13, 14] (fun at_ i sd wr => ∃ (k : Nat) (v : Value), k ≤ n ∧ i = .int .i64 k ∧ at_ = .int .i64 ((key / 2 ^ k : Nat) : Int) ∧ Ext w wr ∧ Blk wr (w.heap.size + 3) 30 ZR ∧ Blk wr sb 30 (sigC SG key v) ∧ OwnD 31 wr v ((wayM seed n key).take k) ∧ (∀ b, v.ownBlock = some b → w.heap.size ≤ b ∧ b ≠ sb ∧ b ≠ w.heap.size + 3) ∧ ∃ q, sd = q) (fun _ i _ _ => n - (intOf i).toNat)
  case atStart => exact ⟨0, _, by omega, rfl, by simp, HG0.out, HBZ0.out, HBS0.out, ⟨by simp, Own.nil _ _ _⟩, by simp [Value.ownBlock], _, rfl⟩
  case round =>
    obtain ⟨k, v, hk, rfl, rfl, hgr, hbz, hbs, hov, hfar, q, rfl⟩ := hrel
    clear HG0 HBZ0 HBS0
    have hm1 : key / 2 ^ k < 4294967296 := Nat.lt_of_le_of_lt (Nat.div_le_self _ _) hk32
    by_cases hlt : k < n
    · obtain ⟨ad2, c2, hc2, hc2m, hF2, hcell⟩ := HRW.out k (by omega)
      unfold maxLen at hc2m
      have hsame : ∀ b, F b → wr.drew.heap[b]? = w.heap[b]? := fun b hb => hgr.block b (HFW.out b hb) (by simp)
      obtain ⟨hrc, hyc0⟩ := hcell wr.drew hsame
      have hmlt : key / 2 ^ k < 2 ^ (n - k) := by
        rw [Nat.div_lt_iff_lt_mul (Nat.two_pow_pos k), ← Nat.pow_add, show n - k + k = n by omega]
        exact HK.out
      have h2p : 2 ^ (n - k) = 2 * 2 ^ (n - k - 1) := by rw [show n - k = n - k - 1 + 1 by omega, Nat.pow_succ, Nat.mul_comm]; simp
      have hp256 : 2 ^ (n - k) ≤ 256 := Nat.pow_le_pow_right (n := 2) (by decide) (show n - k ≤ 8 by omega)
      have hpp : 0 < 2 ^ (n - k - 1) := Nat.two_pow_pos _
      have hsdl : sideM (key / 2 ^ k) < 2 ^ (n - k) := by unfold sideM; split <;> omega
      have hyc := hyc0 _ hsdl
      have hyd := levM_all seed n k (sideM (key / 2 ^ k)) (by omega) hsdl
      have hwt := wayM_take seed n key hlt
      have hwl : List.length (α := Dg) ((wayM seed n key).take k) = k := by rw [List.length_take, wayM_length]; omega
      obtain ⟨Yd, hYd⟩ : ∃ Yd, Yd = (levM seed n k).getD (sideM (key / 2 ^ k)) [] := ⟨_, rfl⟩
      rw [← hYd] at hyc hyd hwt
      have hyl : (bv Yd).length = 32 := by rw [bv_length]; exact hyd
      have hyo := bv_one Yd
      obtain ⟨Y, hY⟩ : ∃ Y, Y = bv Yd := ⟨_, rfl⟩
      rw [← hY] at hyc hyl hyo
      have hm2 : key / 2 ^ (k + 1) = key / 2 ^ k / 2 := by rw [Nat.pow_succ, Nat.div_div_eq_div_mul]
      obtain ⟨sd, hsd⟩ : ∃ sd, sd = sideM (key / 2 ^ k) := ⟨_, rfl⟩
      rw [← hsd] at hyc hsdl
      generalize 2 ^ (n - k) = NL at *
      unfold sideM at hsd
      generalize key / 2 ^ k = m at *
      have hrem := fun P t W => rem_two_i64 P t m W
      have hquo := fun P t W => quo_two_i64 P t m hm1 W
      have how : Own wr.drew 31 32 v k (((wayM seed n key).take k).flatMap bv) := by have h := (hov.ext (Ext.refl wr).drew).2; rw [hwl] at h; exact h
      have HSW : Hid (wr.drew.cell? ⟨sb, 1025, none⟩ = some v) := Lib.hid (((hbs.keep (Ext.refl wr).drew (by simp)).cell 1025).trans (sigC_way HGL.out key v))
      have HRC := Lib.hid hrc
      have HYC := Lib.hid hyc
      have HFA := HFAD
      have HFA2 := Lib.hid hF2
      have HLT : Hid (∀ b, (b = sb ∨ F b) → b < wr.drew.heap.size) := Lib.hid fun b hb => by
        rcases hb with rfl | hb
        · exact hbs.lt
        · exact Nat.lt_of_lt_of_le (HFW.out b hb) hgr.size
      have HFARB : Hid (∀ b, (b = sb ∨ F b) → v.ownBlock ≠ some b) := Lib.hid fun b hb e => by
        rcases hb with rfl | hb
        · exact (hfar _ e).2.1 rfl
        · have h1 := (hfar _ e).1
          have h2 := HFW.out b hb
          omega
      have HGX : Hid (Ext w wr.drew) := Lib.hid hgr.drew
      have HBZ : Hid (Blk wr.drew (w.heap.size + 3) 30 ZR) := Lib.hid (hbz.keep (Ext.refl wr).drew (by simp))
      have HBS : Hid (Blk wr.drew sb 30 (sigC SG key v)) := Lib.hid (hbs.keep (Ext.refl wr).drew (by simp))
      have HM2 := Lib.hid hm2
      have HREM := Lib.hid hrem
      have HQUO := Lib.hid hquo
      have HOW := Lib.hid how
      have HOV := Lib.hid hov
      have HFAR := Lib.hid hfar
      have HWT := Lib.hid hwt
      have HWL := Lib.hid hwl
      have HYL := Lib.hid hyl
      have HYD := Lib.hid hyd
      have HY := Lib.hid hY
      clear hm2 hrem hquo how hov hfar hwt hwl hyl hyd hY hYd hrc hyc hyc0 hF2 hgr hbz hbs hsame hcell h2p hpp
      obtain hm | hm : m % 2 = 1 ∨ m % 2 = 0 := by omega
      · rw [hm] at HREM
        have hsi : (m : Int) - 1 = (sd : Int) := by rw [if_pos hm] at hsd; omega
        rw [if_pos hm] at hsd
        have HSD := Lib.hid hsd
        clear hsd
        go_wp2_with (first
          | ((with_reducible refine wpDst 35 rfl ?_); refine wpList_bin2 rfl .rem 3 (.tmp 34) _ rfl (.int .i64 (m : Int)) (.int .i64 2) rfl rfl rfl (HREM.out _ _ _) ?_)
          | fail)
        refine startL 12 (KeepB fun b => b = sb ∨ F b) (by kernel_rfl) ?_
        (try simp only [Act.put, List.setIfInBounds_toArray, List.set_cons_succ, List.set_cons_zero])
        generalize wr.drew = w0 at *
        refine takeN (fun _ _ _ => rfl) 0 rfl (by kernel_rfl) (by kernel_rfl) (by kernel_rfl) rfl (fun _ _ _ _ h => h) rfl (fun K hK => ?_)
        go_big_quiet_op
        first | refine hK _ ?_ | refine ⟨_, fun _ _ => rfl, hK _ ?_⟩
        clear hK K
        refine takeL (fun _ _ _ => rfl) (fun _ _ _ h1 h2 b hb => (h2 b hb).trans (h1 b hb)) 1 [12] rfl (by kernel_rfl) (by kernel_rfl) (by kernel_rfl) (by kernel_rfl) rfl (fun _ _ _ _ h => h) rfl (fun K hK => ?_)
        refine quiet_cell _ _ rfl _ rfl _ _ Try.underlying28 rfl (fun W' h => KeepB.cell h HSW.out (.inl rfl)) ?_
        refine hK _ ?_
        simp only [Act.put, List.setIfInBounds_toArray, List.set_cons_succ, List.set_cons_zero]
        clear hK K
        refine takeN (fun _ _ _ => rfl) 2 rfl (by kernel_rfl) (by kernel_rfl) (by kernel_rfl) rfl (fun _ _ _ _ h => h) rfl (fun K hK => ?_)
        go_big_quiet_op
        first | refine hK _ ?_ | refine ⟨_, fun _ _ => rfl, hK _ ?_⟩
        clear hK K
        refine takeN (fun _ _ _ => rfl) 3 rfl (by kernel_rfl) (by kernel_rfl) (by kernel_rfl) rfl (fun _ _ _ _ h => h) rfl (fun K hK => ?_)
        go_big_quiet_op
        first | refine hK _ ?_ | refine ⟨_, fun _ _ => rfl, hK _ ?_⟩
        clear hK K
        refine takeN (fun _ _ _ => rfl) 4 rfl (by kernel_rfl) (by kernel_rfl) (by kernel_rfl) rfl (fun _ _ _ _ h => h) rfl (fun K hK => ?_)
        go_big_quiet_op
        first | refine hK _ ?_ | refine ⟨_, fun _ _ => rfl, hK _ ?_⟩
        clear hK K
        refine takeL (fun _ _ _ => rfl) (fun _ _ _ h1 h2 b hb => (h2 b hb).trans (h1 b hb)) 5 [12] rfl (by kernel_rfl) (by kernel_rfl) (by kernel_rfl) (by kernel_rfl) rfl (fun _ _ _ _ h => h) rfl (fun K hK => ?_)
        refine quiet_cell _ _ rfl _ rfl _ _ Try.underlying28 rfl (fun W' h => KeepB.cell h HRC.out (.inr (by rw [add_block]; exact HFA.out))) ?_
        refine hK _ ?_
        simp only [Act.put, List.setIfInBounds_toArray, List.set_cons_succ, List.set_cons_zero]
        clear hK K
        refine takeN (fun _ _ _ => rfl) 6 rfl (by kernel_rfl) (by kernel_rfl) (by kernel_rfl) rfl (fun _ _ _ _ h => h) rfl (fun K hK => ?_)
        go_big_quiet_op
        first | refine hK _ ?_ | refine ⟨_, fun _ _ => rfl, hK _ ?_⟩
        clear hK K
        refine takeN (fun _ _ _ => rfl) 7 rfl (by kernel_rfl) (by kernel_rfl) (by kernel_rfl) rfl (fun _ _ _ _ h => h) rfl (fun K hK => ?_)
        go_big_quiet_op
        first | refine hK _ ?_ | refine ⟨_, fun _ _ => rfl, hK _ ?_⟩
        clear hK K
        refine takeL (fun _ _ _ => rfl) (fun _ _ _ h1 h2 b hb => (h2 b hb).trans (h1 b hb)) 8 [12] rfl (by kernel_rfl) (by kernel_rfl) (by kernel_rfl) (by kernel_rfl) rfl (fun _ _ _ _ h => h) rfl (fun K hK => ?_)
        refine quiet_agg 31 (.tmp 46) rfl _ rfl Y _ Try.underlying31 rfl (szElTo05 HYL.out) (fun W' h => KeepB.cells h HYC.out (.inr (by rw [add_block]; exact HFA2.out))) ?_
        refine hK _ ?_
        simp only [Act.put, List.setIfInBounds_toArray, List.set_cons_succ, List.set_cons_zero]
        clear hK K
        refine stepL 9 rfl (by kernel_rfl) rfl (fun K hK => ?_)
        refine wp_one w0 28 (.tmp 47) rfl 31 Y Try.underlying28 rfl (szEbFrom05 HYL.out) zEbFrom05 (by rw [HYL.out]; decide) (by rw [HYL.out]; decide) ?_
        refine hK _ _ (fun _ b hb => ((Ext.refl w0).alloc _).block b (HLT.out b hb) (by simp)) ?_
        clear hK K
        (try simp only [Act.put, List.setIfInBounds_toArray, List.set_cons_succ, List.set_cons_zero])
        refine stepL 10 rfl (by kernel_rfl) rfl (fun K hK => ?_)
        refine wp_app _ (.tmp 40) (.tmp 48) _ _ rfl 31 31 i1 z1 32 32 Try.underlying28 Try.underlying28 hi1 hz1 hi2 hi3 hi4 (by decide) v _ _ rfl (HOW.out.ext ((Ext.refl w0).alloc _)) _ 1 1 Y rfl (by rw [HYL.out]) (src_at rfl Y _ 1) hyo (by unfold maxLen; omega) (by omega) ?_
        intro v7 w7 ho7 hm7
        obtain ⟨A7, c7, hv7⟩ := Own.form ho7
        subst hv7
        refine hK _ _ (fun _ b hb => hm7.grown.block b (Nat.lt_of_lt_of_le (HLT.out b hb) (by simp)) (fun e => HFARB.out b hb e.symm)) ?_
        clear hK K
        (try simp only [Act.put, List.setIfInBounds_toArray, List.set_cons_succ, List.set_cons_zero])
        refine takeN (fun _ _ _ => rfl) 11 rfl (by kernel_rfl) (by kernel_rfl) (by kernel_rfl) rfl (fun _ _ _ _ h => h) rfl (fun K hK => ?_)
        go_big_quiet_op
        first | refine hK _ ?_ | refine ⟨_, fun _ _ => rfl, hK _ ?_⟩
        clear hK K
        refine stepL 12 rfl (by kernel_rfl) rfl (fun K hK => ?_)
        have HB7 := Lib.hid ((HBS.out.keep ((Ext.refl w0).alloc (.cells Y.toArray 31)) (by simp)).keep hm7.grown (fun e => HFARB.out sb (.inl rfl) e.symm))
        have s9 : w7.cell? ⟨sb, 1025, none⟩ = some v := (HB7.out.cell 1025).trans (sigC_way HGL.out key v)
        have f9 : w7.frozen? ⟨sb, 1025, none⟩ = false := HB7.out.free 1025
        go_simp
        refine hK _ _ (fun h => absurd rfl h) ?_
        clear hK K
        refine doneL (by kernel_rfl) ?_ _
        have hxa : Ext w0 (w0.alloc (.cells Y.toArray 31)) := (Ext.refl w0).alloc _
        have far7 : ∀ b, (Value.slice A7 (k + 1) c7).ownBlock = some b → w.heap.size ≤ b ∧ b ≠ sb ∧ b ≠ w.heap.size + 3 := fun b hb => by
          rcases hm7.at_ with e | hn
          · exact HFAR.out b (e.symm.trans hb)
          · have h1 := hn b hb
            have h2 := HBS.out.lt
            have h3 := HBZ.out.lt
            simp at h1
            exact ⟨by omega, by omega, by omega⟩
        have hg8 : Ext w (w7.setCell ⟨sb, 1025, none⟩ (.slice A7 (k + 1) c7)) := Ext.setCell (grown_then (HGX.out.trans hxa) hm7.grown (.inr fun x hx => (HFAR.out x hx).1)) (by have := HSB.out; show w.heap.size ≤ sb; omega) _
        have hbz8 : Blk (w7.setCell ⟨sb, 1025, none⟩ (.slice A7 (k + 1) c7)) (w.heap.size + 3) 30 ZR := ((HBZ.out.keep hxa (by simp)).keep hm7.grown (fun e => (HFAR.out _ e.symm).2.2 rfl)).keep (only_set 1025 _) (by have := HSB.out; simp; omega)
        have hbs8 : Blk (w7.setCell ⟨sb, 1025, none⟩ (.slice A7 (k + 1) c7)) sb 30 (sigC SG key (.slice A7 (k + 1) c7)) := by
          have := HB7.out.set 1025 (.slice A7 (k + 1) c7)
          rwa [sigC_set HGL.out] at this
        have ho8 : OwnD 31 (w7.setCell ⟨sb, 1025, none⟩ (.slice A7 (k + 1) c7)) (.slice A7 (k + 1) c7) ((wayM seed n key).take (k + 1)) := by
          rw [HWT.out]
          refine ⟨fun d hd => ?_, ?_⟩
          · rcases List.mem_append.1 hd with hd | hd
            · exact HOV.out.1 d hd
            · rw [List.mem_singleton.1 hd]; exact HYD.out
          · have e1 : (((wayM seed n key).take k) ++ [Yd]).flatMap bv = ((wayM seed n key).take k).flatMap bv ++ Y := by rw [HY.out]; simp
            have e2 : List.length (α := Dg) (((wayM seed n key).take k) ++ [Yd]) = k + 1 := by rw [List.length_append, HWL.out]; rfl
            rw [e1, e2]
            refine ho7.keep (row := some sb) (only_set 1025 _) ?_
            cases hvb : (Value.slice A7 (k + 1) c7).ownBlock with
            | none => exact .inl rfl
            | some b => exact .inr (by have := (far7 b hvb).2.1; simpa using this)
        have HG8 := Lib.hid hg8
        have HBZ8 := Lib.hid hbz8
        have HBS8 := Lib.hid hbs8
        have HO8 := Lib.hid ho8
        have HF8 := Lib.hid far7
        clear hg8 hbz8 hbs8 ho8 far7 hxa s9 f9 ho7 hm7 HB7
        generalize w7.setCell ⟨sb, 1025, none⟩ (.slice A7 (k + 1) c7) = w8 at *
        (try simp only [Exit.inBlock, Exit.then])
        go_wp2_with (first
          | ((with_reducible refine wpDst 52 rfl ?_); refine wpList_bin2 rfl .quo 3 (.tmp 51) _ rfl (.int .i64 (m : Int)) (.int .i64 2) rfl rfl rfl (HQUO.out _ _ _) ?_)
          | fail)
        go_roundw
        case rel => exact ⟨k + 1, _, by omega, by go_num, by rw [HM2.out]; exact congrArg (Value.int .i64) (by omega), HG8.out, HBZ8.out, HBS8.out, HO8.out, HF8.out, _, rfl⟩
        case measure => simp [intOf]; omega
      · rw [hm] at HREM
        have hsi : (m : Int) + 1 = (sd : Int) := by rw [if_neg (by omega)] at hsd; omega
        rw [if_neg (by omega)] at hsd
        have HSD := Lib.hid hsd
        clear hsd
        go_wp2_with (first
          | ((with_reducible refine wpDst 35 rfl ?_); refine wpList_bin2 rfl .rem 3 (.tmp 34) _ rfl (.int .i64 (m : Int)) (.int .i64 2) rfl rfl rfl (HREM.out _ _ _) ?_)
          | fail)
        refine startL 12 (KeepB fun b => b = sb ∨ F b) (by kernel_rfl) ?_
        (try simp only [Act.put, List.setIfInBounds_toArray, List.set_cons_succ, List.set_cons_zero])
        generalize wr.drew = w0 at *
        refine takeN (fun _ _ _ => rfl) 0 rfl (by kernel_rfl) (by kernel_rfl) (by kernel_rfl) rfl (fun _ _ _ _ h => h) rfl (fun K hK => ?_)
        go_big_quiet_op
        first | refine hK _ ?_ | refine ⟨_, fun _ _ => rfl, hK _ ?_⟩
        clear hK K
        refine takeL (fun _ _ _ => rfl) (fun _ _ _ h1 h2 b hb => (h2 b hb).trans (h1 b hb)) 1 [12] rfl (by kernel_rfl) (by kernel_rfl) (by kernel_rfl) (by kernel_rfl) rfl (fun _ _ _ _ h => h) rfl (fun K hK => ?_)
        refine quiet_cell _ _ rfl _ rfl _ _ Try.underlying28 rfl (fun W' h => KeepB.cell h HSW.out (.inl rfl)) ?_
        refine hK _ ?_
        simp only [Act.put, List.setIfInBounds_toArray, List.set_cons_succ, List.set_cons_zero]
        clear hK K
        refine takeN (fun _ _ _ => rfl) 2 rfl (by kernel_rfl) (by kernel_rfl) (by kernel_rfl) rfl (fun _ _ _ _ h => h) rfl (fun K hK => ?_)
        go_big_quiet_op
        first | refine hK _ ?_ | refine ⟨_, fun _ _ => rfl, hK _ ?_⟩
        clear hK K
        refine takeN (fun _ _ _ => rfl) 3 rfl (by kernel_rfl) (by kernel_rfl) (by kernel_rfl) rfl (fun _ _ _ _ h => h) rfl (fun K hK => ?_)
        go_big_quiet_op
        first | refine hK _ ?_ | refine ⟨_, fun _ _ => rfl, hK _ ?_⟩
        clear hK K
        refine takeN (fun _ _ _ => rfl) 4 rfl (by kernel_rfl) (by kernel_rfl) (by kernel_rfl) rfl (fun _ _ _ _ h => h) rfl (fun K hK => ?_)
        go_big_quiet_op
        first | refine hK _ ?_ | refine ⟨_, fun _ _ => rfl, hK _ ?_⟩
        clear hK K
        refine takeL (fun _ _ _ => rfl) (fun _ _ _ h1 h2 b hb => (h2 b hb).trans (h1 b hb)) 5 [12] rfl (by kernel_rfl) (by kernel_rfl) (by kernel_rfl) (by kernel_rfl) rfl (fun _ _ _ _ h => h) rfl (fun K hK => ?_)
        refine quiet_cell _ _ rfl _ rfl _ _ Try.underlying28 rfl (fun W' h => KeepB.cell h HRC.out (.inr (by rw [add_block]; exact HFA.out))) ?_
        refine hK _ ?_
        simp only [Act.put, List.setIfInBounds_toArray, List.set_cons_succ, List.set_cons_zero]
        clear hK K
        refine takeN (fun _ _ _ => rfl) 6 rfl (by kernel_rfl) (by kernel_rfl) (by kernel_rfl) rfl (fun _ _ _ _ h => h) rfl (fun K hK => ?_)
        go_big_quiet_op
        first | refine hK _ ?_ | refine ⟨_, fun _ _ => rfl, hK _ ?_⟩
        clear hK K
        refine takeN (fun _ _ _ => rfl) 7 rfl (by kernel_rfl) (by kernel_rfl) (by kernel_rfl) rfl (fun _ _ _ _ h => h) rfl (fun K hK => ?_)
        go_big_quiet_op
        first | refine hK _ ?_ | refine ⟨_, fun _ _ => rfl, hK _ ?_⟩
        clear hK K
        refine takeL (fun _ _ _ => rfl) (fun _ _ _ h1 h2 b hb => (h2 b hb).trans (h1 b hb)) 8 [12] rfl (by kernel_rfl) (by kernel_rfl) (by kernel_rfl) (by kernel_rfl) rfl (fun _ _ _ _ h => h) rfl (fun K hK => ?_)
        refine quiet_agg 31 (.tmp 46) rfl _ rfl Y _ Try.underlying31 rfl (szElTo05 HYL.out) (fun W' h => KeepB.cells h HYC.out (.inr (by rw [add_block]; exact HFA2.out))) ?_
        refine hK _ ?_
        simp only [Act.put, List.setIfInBounds_toArray, List.set_cons_succ, List.set_cons_zero]
        clear hK K
        refine stepL 9 rfl (by kernel_rfl) rfl (fun K hK => ?_)
        refine wp_one w0 28 (.tmp 47) rfl 31 Y Try.underlying28 rfl (szEbFrom05 HYL.out) zEbFrom05 (by rw [HYL.out]; decide) (by rw [HYL.out]; decide) ?_
        refine hK _ _ (fun _ b hb => ((Ext.refl w0).alloc _).block b (HLT.out b hb) (by simp)) ?_
        clear hK K
        (try simp only [Act.put, List.setIfInBounds_toArray, List.set_cons_succ, List.set_cons_zero])
        refine stepL 10 rfl (by kernel_rfl) rfl (fun K hK => ?_)
        refine wp_app _ (.tmp 40) (.tmp 48) _ _ rfl 31 31 i1 z1 32 32 Try.underlying28 Try.underlying28 hi1 hz1 hi2 hi3 hi4 (by decide) v _ _ rfl (HOW.out.ext ((Ext.refl w0).alloc _)) _ 1 1 Y rfl (by rw [HYL.out]) (src_at rfl Y _ 1) hyo (by unfold maxLen; omega) (by omega) ?_
        intro v7 w7 ho7 hm7
        obtain ⟨A7, c7, hv7⟩ := Own.form ho7
        subst hv7
        refine hK _ _ (fun _ b hb => hm7.grown.block b (Nat.lt_of_lt_of_le (HLT.out b hb) (by simp)) (fun e => HFARB.out b hb e.symm)) ?_
        clear hK K
        (try simp only [Act.put, List.setIfInBounds_toArray, List.set_cons_succ, List.set_cons_zero])
        refine takeN (fun _ _ _ => rfl) 11 rfl (by kernel_rfl) (by kernel_rfl) (by kernel_rfl) rfl (fun _ _ _ _ h => h) rfl (fun K hK => ?_)
        go_big_quiet_op
        first | refine hK _ ?_ | refine ⟨_, fun _ _ => rfl, hK _ ?_⟩
        clear hK K
        refine stepL 12 rfl (by kernel_rfl) rfl (fun K hK => ?_)
        have HB7 := Lib.hid ((HBS.out.keep ((Ext.refl w0).alloc (.cells Y.toArray 31)) (by simp)).keep hm7.grown (fun e => HFARB.out sb (.inl rfl) e.symm))
        have s9 : w7.cell? ⟨sb, 1025, none⟩ = some v := (HB7.out.cell 1025).trans (sigC_way HGL.out key v)
        have f9 : w7.frozen? ⟨sb, 1025, none⟩ = false := HB7.out.free 1025
        go_simp
        refine hK _ _ (fun h => absurd rfl h) ?_
        clear hK K
        refine doneL (by kernel_rfl) ?_ _
        have hxa : Ext w0 (w0.alloc (.cells Y.toArray 31)) := (Ext.refl w0).alloc _
        have far7 : ∀ b, (Value.slice A7 (k + 1) c7).ownBlock = some b → w.heap.size ≤ b ∧ b ≠ sb ∧ b ≠ w.heap.size + 3 := fun b hb => by
          rcases hm7.at_ with e | hn
          · exact HFAR.out b (e.symm.trans hb)
          · have h1 := hn b hb
            have h2 := HBS.out.lt
            have h3 := HBZ.out.lt
            simp at h1
            exact ⟨by omega, by omega, by omega⟩
        have hg8 : Ext w (w7.setCell ⟨sb, 1025, none⟩ (.slice A7 (k + 1) c7)) := Ext.setCell (grown_then (HGX.out.trans hxa) hm7.grown (.inr fun x hx => (HFAR.out x hx).1)) (by have := HSB.out; show w.heap.size ≤ sb; omega) _
        have hbz8 : Blk (w7.setCell ⟨sb, 1025, none⟩ (.slice A7 (k + 1) c7)) (w.heap.size + 3) 30 ZR := ((HBZ.out.keep hxa (by simp)).keep hm7.grown (fun e => (HFAR.out _ e.symm).2.2 rfl)).keep (only_set 1025 _) (by have := HSB.out; simp; omega)
        have hbs8 : Blk (w7.setCell ⟨sb, 1025, none⟩ (.slice A7 (k + 1) c7)) sb 30 (sigC SG key (.slice A7 (k + 1) c7)) := by
          have := HB7.out.set 1025 (.slice A7 (k + 1) c7)
          rwa [sigC_set HGL.out] at this
        have ho8 : OwnD 31 (w7.setCell ⟨sb, 1025, none⟩ (.slice A7 (k + 1) c7)) (.slice A7 (k + 1) c7) ((wayM seed n key).take (k + 1)) := by
          rw [HWT.out]
          refine ⟨fun d hd => ?_, ?_⟩
          · rcases List.mem_append.1 hd with hd | hd
            · exact HOV.out.1 d hd
            · rw [List.mem_singleton.1 hd]; exact HYD.out
          · have e1 : (((wayM seed n key).take k) ++ [Yd]).flatMap bv = ((wayM seed n key).take k).flatMap bv ++ Y := by rw [HY.out]; simp
            have e2 : List.length (α := Dg) (((wayM seed n key).take k) ++ [Yd]) = k + 1 := by rw [List.length_append, HWL.out]; rfl
            rw [e1, e2]
            refine ho7.keep (row := some sb) (only_set 1025 _) ?_
            cases hvb : (Value.slice A7 (k + 1) c7).ownBlock with
            | none => exact .inl rfl
            | some b => exact .inr (by have := (far7 b hvb).2.1; simpa using this)
        have HG8 := Lib.hid hg8
        have HBZ8 := Lib.hid hbz8
        have HBS8 := Lib.hid hbs8
        have HO8 := Lib.hid ho8
        have HF8 := Lib.hid far7
        clear hg8 hbz8 hbs8 ho8 far7 hxa s9 f9 ho7 hm7 HB7
        generalize w7.setCell ⟨sb, 1025, none⟩ (.slice A7 (k + 1) c7) = w8 at *
        (try simp only [Exit.inBlock, Exit.then])
        go_wp2_with (first
          | ((with_reducible refine wpDst 52 rfl ?_); refine wpList_bin2 rfl .quo 3 (.tmp 51) _ rfl (.int .i64 (m : Int)) (.int .i64 2) rfl rfl rfl (HQUO.out _ _ _) ?_)
          | fail)
        go_roundw
        case rel => exact ⟨k + 1, _, by omega, by go_num, by rw [HM2.out]; exact congrArg (Value.int .i64) (by omega), HG8.out, HBZ8.out, HBS8.out, HO8.out, HF8.out, _, rfl⟩
        case measure => simp [intOf]; omega
    · obtain rfl : k = n := by omega
      have htk : (wayM seed k key).take k = wayM seed k key := List.take_of_length_le (by rw [wayM_length]; exact Nat.le_refl _)
      rw [htk] at hov
      obtain ⟨A9, c9, hv9⟩ := hov.2.form
      have hml := sigC_len HGL.out key v
      have hmone : ∀ u ∈ sigC SG key v, u.oneCell' = true := by rw [hv9]; exact sigC_one HGO.out _ _ _ _
      obtain ⟨M9, hM9⟩ : ∃ M9, M9 = sigC SG key v := ⟨_, rfl⟩
      rw [← hM9] at hbs hml hmone
      have HM9 := Lib.hid hM9
      have HM9L := Lib.hid hml
      have HGR := Lib.hid hgr
      have HBZ := Lib.hid hbz
      have HBS := Lib.hid hbs
      have HOV := Lib.hid hov
      have HFAR := Lib.hid hfar
      clear hv9 hml hM9 hgr hbz hbs hov hfar htk hm1
      go_wp2_with (first
        | ((with_reducible refine wpDst 53 rfl ?_); refine wpList_load_agg _ rfl 30 (.tmp 11) rfl _ rfl M9 _ Try.underlying30 rfl (szOutFrom05 HM9L.out) (by exact HBS.out.cells) ?_)
        | ((with_reducible refine wpSto 10 53 rfl ?_); refine wpList_store_row _ rfl 30 (.tmp 10) (.tmp 53) rfl (w.heap.size + 3) (by simp [Act.put, Act.eval]) ZR M9 30 rfl (by exact HBZ.out) (szOutFrom05 HM9L.out) (by rw [HM9L.out, HZL.out]) hmone ?_)
        | fail)
      have hc9 := Blk.cells (t := 30) (setRow_at (cs' := M9.toArray) HBZ.out)
      (try simp only [Exit.inBlock, Exit.then])
      refine bodyPost_ret (results_agg rfl _ _ _ _ _ rfl Try.underlying30 rfl (szOutFrom05 HM9L.out) hc9) rfl ?_
      refine ⟨v, by rw [HM9.out], ownD_row HOV.out (fun b hb => (HFAR.out b hb).2.2), setRow_grown HGR.out _ _ (by omega), fun b hb => (HFAR.out b hb).1⟩
end
section
open Go.RowKit

theorem exec_d1 : ∃ d : Dg, List.length (α := UInt8) d = 32 ∧ ∀ (o : Oper) (a : Act) (w : World), o.op = .build 55 #[(0, .const (.int .u8 1))] → (execOp a.eval o).run Try.prog w = .ok (.value (.agg (bv d).toArray)) w := by
  refine ⟨1 :: List.replicate 31 0, by decide, fun o a w ho => ?_⟩
  have hb : Try.prog.built 55 [(0, .int .u8 1)] = some (bv (1 :: List.replicate 31 0)).toArray := by kernel_rfl
  unfold execOp
  simp only [ho]
  rw [Sem.run_bind, run_build w _ _ _ (by simpa [Act.eval] using hb)]
  simp
set_option maxRecDepth 100000 in
set_option maxHeartbeats 8000000 in
theorem Awake05 (w : World) : Calls Try.prog 9 #[] w fun e w' => e = .returned (.bool true) ∧ Ext w w' := by
  obtain ⟨zeroS, hzs, hzb⟩ : ∃ zs : List UInt8, zs.length = 32 ∧ Try.prog.built 31 [] = some (bv zs).toArray := ⟨List.replicate 32 0, by simp, by kernel_rfl⟩
  obtain ⟨oneD, hol, hD1⟩ := exec_d1
  have hnew := Ring_New zeroS hzs 0 (by decide) w
  have hk0 : (0 : Nat) < 2 ^ 0 := by decide
  have hsign := fun (g tb : Nat) (F : Fp) (R : Value) (W : World) (h : RingAt W g tb F R zeroS 0 (List.replicate (2 ^ 0) false)) => Ring_Sign h 0 (by decide) hk0 (by rfl) oneD hol
  have hno := fun (g tb : Nat) (F : Fp) (R : Value) (W : World) (h : RingAt W g tb F R zeroS 0 ((List.replicate (2 ^ 0) false).set 0 true)) => Ring_Sign_no h 0 (by decide) hk0 (by rfl) oneD
  have hright := fun (u : Value) (F : Fp) (W : World) (hc : Ways W F u (wayM zeroS 0 0)) (hF : ∀ b, F b → b < W.heap.size) => Right (signM zeroS 0 oneD) (signM_length _ _ _) 0 u (wayM zeroS 0 0) (rootM zeroS 0) (rootM_length _ _) oneD hol F W hc hF (by rw [wayM_length]; decide) (by decide) 0 (by decide) 0 (by decide)
  have hrt : rightM (signM zeroS 0 oneD) 0 (wayM zeroS 0 0) (rootM zeroS 0) 0 0 oneD = true := right_signed zeroS 0 0 oneD hk0
  rw [hrt] at hright
  have hwl : List.length (α := Dg) (wayM zeroS 0 0) = 0 := wayM_length _ _ _
  have hgl : (bv (signM zeroS 0 oneD)).length = 1024 := by rw [bv_length]; exact signM_length _ _ _
  have hgo := bv_one (signM zeroS 0 oneD)
  have hroot := fun (g tb : Nat) (F : Fp) (R : Value) (W : World) (tk : List Bool) (h : RingAt W g tb F R zeroS 0 tk) => Ring_Root h
  have hzr := zSig_zero
  have hzl := zSig_len
  have hzo := zSig_one
  obtain ⟨D1, hDe⟩ : ∃ D1, D1 = bv oneD := ⟨_, rfl⟩
  rw [← hDe] at hsign hno hright hD1
  obtain ⟨ZR, hZR⟩ : ∃ ZR, ZR = zSig := ⟨_, rfl⟩
  rw [← hZR] at hno hzr hzl hzo
  obtain ⟨RT, hRT⟩ : ∃ RT, RT = bv (rootM zeroS 0) := ⟨_, rfl⟩
  rw [← hRT] at hroot hright
  obtain ⟨SG, hSG⟩ : ∃ SG, SG = bv (signM zeroS 0 oneD) := ⟨_, rfl⟩
  rw [← hSG] at hsign hright hgl hgo
  obtain ⟨ZS, hZS⟩ : ∃ ZS, ZS = bv zeroS := ⟨_, rfl⟩
  rw [← hZS] at hzb hnew
  have HNEW := Lib.hid hnew
  have HZB := Lib.hid hzb
  have HSIGN := Lib.hid hsign
  have HNO := Lib.hid hno
  have HR0 := Lib.hid hright
  have HWL := Lib.hid hwl
  have HGL := Lib.hid hgl
  have HRT0 := Lib.hid hroot
  have HZL := Lib.hid hzl
  have HD1 := Lib.hid hD1
  clear hnew hzb hsign hno hright hrt hwl hgl hroot hzl hD1 hDe hZR hRT hSG hZS hk0
  go_enter Try.func9, Try.ntmps9
  go_wp2_with (first
    | ((with_reducible refine wpDst 8 rfl ?_); refine wpList_build (.inl rfl) 31 #[] rfl (.agg ZS.toArray) (exec_build0 _ _ rfl HZB.out) ?_)
    | (go_at_call 14; refine HNEW.out.mono ?_; rintro e w1 ⟨g, tb, F, R, rfl, hring, hx1, hg1, htb1, hF1⟩
       have HRING := Lib.hid hring
       have HX1 := Lib.hid hx1
       clear hring hx1)
    | ((with_reducible refine wpDst 14 rfl ?_); refine wpList_build (.inl rfl) 55 #[(0, .const (.int .u8 1))] rfl (.agg D1.toArray) (HD1.out _ _ _ rfl) ?_)
    | (go_at_call 15; refine (HSIGN.out _ _ _ _ _ HRING.out).mono ?_; rintro e w2 ⟨v, rfl, hov, hring2, hg2, hvn⟩
       clear HRING
       obtain ⟨A, c, hv⟩ := hov.2.form
       rw [HWL.out] at hv
       have hsw := sigC_way HGL.out 0 v
       have hml := sigC_len HGL.out 0 v
       have hmo : ∀ u ∈ sigC SG 0 v, u.oneCell' = true := by rw [hv]; exact sigC_one hgo _ _ _ _
       have HRI := Lib.hid (fun (W : World) (h : Ext w2 W) => HR0.out v _ W ((hov.ext h).holds) (fun b hb => Nat.lt_of_lt_of_le (hov.lt b hb) h.size))
       obtain ⟨M, hM⟩ : ∃ M, M = sigC SG 0 v := ⟨_, rfl⟩
       rw [← hM] at hsw hml hmo HRI ⊢
       rw [hv] at hsw
       have HSW := Lib.hid hsw
       have HML := Lib.hid hml
       have HRING2 := Lib.hid hring2
       have HX2 : Hid (Ext w w2) := Lib.hid (grown_then HX1.out hg2 (.inr (by rintro b ⟨⟩; omega)))
       have hsb : Blk (w2.alloc (.cells M.toArray 39)) w2.heap.size 39 M := Blk.new _ _ _
       have HSB0 := Lib.hid hsb
       clear hsw hml hring2 hg2 hvn hM hv hov hsb)
    | ((with_reducible refine wpDst 3 rfl ?_); refine wpList_alloc _ rfl 39 rfl _ hzr ?_)
    | ((with_reducible refine wpSto 3 16 rfl ?_); refine wpList_storeN rfl 39 (.tmp 3) (.tmp 16) rfl w2 rfl ZR M 39 rfl rfl (szOutTo05 HML.out) (by rw [HML.out, HZL.out]) hmo ?_)
    | ((with_reducible refine wpDst 20 rfl ?_); refine wpList_build (.inl rfl) 55 #[(0, .const (.int .u8 1))] rfl (.agg D1.toArray) (HD1.out _ _ _ rfl) ?_)
    | fail)
  refine (HNO.out _ _ _ _ _ (HRING2.out.ext ((Ext.refl w2).alloc _))).mono ?_
  rintro e w4 ⟨rfl, hx4⟩
  have hx5 : Ext (w2.alloc (.cells M.toArray 39)) (w4.alloc (.cells ZR.toArray 39)) := hx4.alloc _
  have HX5 := Lib.hid hx5
  clear hx4 hx5
  go_wp2_with (first
    | ((with_reducible refine wpDst 5 rfl ?_); refine wpList_alloc _ rfl 39 rfl _ hzr ?_)
    | ((with_reducible refine wpSto 5 22 rfl ?_); refine wpList_storeN rfl 39 (.tmp 5) (.tmp 22) rfl w4 rfl ZR ZR 39 rfl rfl (szOutTo05 HZL.out) rfl hzo ?_)
    | fail)
  have HSB : Hid (Blk (w4.alloc (.cells ZR.toArray 39)).drew w2.heap.size 39 M) := Lib.hid ((HSB0.out.keep HX5.out (by simp)).keep (Ext.refl _).drew (by simp))
  have hx6 : Ext w2 (w4.alloc (.cells ZR.toArray 39)).drew := (((Ext.refl w2).alloc _).trans HX5.out).trans (Ext.refl _).drew
  have HROOT : Hid (∀ W', Ext (w4.alloc (.cells ZR.toArray 39)).drew W' → _) := Lib.hid fun W' h => HRT0.out g tb F R W' _ (HRING2.out.ext (hx6.trans h))
  have HRIGHT : Hid (∀ W', Ext (w4.alloc (.cells ZR.toArray 39)).drew W' → _) := Lib.hid fun W' h => HRI.out W' (hx6.trans h)
  have HX6 := Lib.hid hx6
  clear hx6 HX5 HSB0
  generalize (w4.alloc (.cells ZR.toArray 39)) = w5 at *
  refine stab_plain Ext ext_refl ext_trans [[0], [0, 1], [0, 1, 2], [0, 1, 2, 3], [0, 1, 2, 3, 4], [0, 1, 2, 3, 4, 5], [0, 1, 2, 3, 4, 5, 6], [0, 1, 2, 3, 4, 5, 6, 7], [0, 1, 2, 3, 4, 5, 6, 7, 8], [0, 1, 2, 3, 4, 5, 6, 7, 8, 9], [0, 1, 2, 3, 4, 5, 6, 7, 8, 9, 10], [0, 1, 2, 3, 4, 5, 6, 7, 8, 9, 10, 11], [0, 1, 2, 3, 4, 5, 6, 7, 8, 9, 10, 11, 12], [0, 1, 2, 3, 4, 5, 6, 7, 8, 9, 10, 11, 12, 13], [0, 1, 2, 3, 4, 5, 6, 7, 8, 9, 10, 11, 12, 13, 14], [0, 1, 2, 3, 4, 5, 6, 7, 8, 9, 10, 11, 12, 13, 14, 15], [0, 1, 2, 3, 4, 5, 6, 7, 8, 9, 10, 11, 12, 13, 14, 15, 16], [0, 1, 2, 3, 4, 5, 6, 7, 8, 9, 10, 11, 12, 13, 14, 15, 16, 17], [0, 1, 2, 3, 4, 5, 6, 7, 8, 9, 10, 11, 12, 13, 14, 15, 16, 18], [0, 1, 2, 3, 4, 5, 6, 7, 8, 9, 10, 11, 12, 13, 14, 15, 16, 18, 19], [0, 1, 2, 3, 4, 5, 6, 7, 8, 9, 10, 11, 12, 13, 14, 15, 16, 20], [0, 1, 2, 3, 4, 5, 6, 7, 8, 9, 10, 11, 12, 13, 14, 15, 16, 17, 18, 19, 20, 21], [0, 1, 2, 3, 4, 5, 6, 7, 8, 9, 10, 11, 12, 13, 14, 15, 16, 17, 18, 19, 20, 21, 22], [0, 1, 2, 3, 4, 5, 6, 7, 8, 9, 10, 11, 12, 13, 14, 15, 16, 17, 18, 19, 20, 21, 22, 23]] (fun i v wv => match i with | 0 => v = .int .i64 0 | 1 => v = .bool true | 2 => v = .bool true | 3 => v = .int .i64 0 | 4 => v = .bool true | 5 => v = .bool true | 6 => v = .bool true | 7 => v = .int .i64 21 | 8 => v = .bool true | 9 => v = .bool true | 10 => v = .bool true | 11 => v = .pointer (some ⟨w2.heap.size, 1025, none⟩) | 12 => v = .slice A 0 c | 13 => v = .int .i64 0 | 14 => v = .bool true | 15 => v = .bool true | 16 => v = .bool true | 17 => v = .agg M.toArray | 18 => v = .pointer (some ⟨g, 0, none⟩) | 19 => v = .agg RT.toArray | 20 => v = .agg D1.toArray | 21 => v = .bool true | 22 => v = .bool true | 23 => v = .bool true | _ => True) (by kernel_rfl) (by kernel_rfl) (by kernel_rfl) ?_ ?_ ?_
  · intro i v w1 w2 h hx
    match i, h with
    | 0, h => exact h
    | 1, h => exact h
    | 2, h => exact h
    | 3, h => exact h
    | 4, h => exact h
    | 5, h => exact h
    | 6, h => exact h
    | 7, h => exact h
    | 8, h => exact h
    | 9, h => exact h
    | 10, h => exact h
    | 11, h => exact h
    | 12, h => exact h
    | 13, h => exact h
    | 14, h => exact h
    | 15, h => exact h
    | 16, h => exact h
    | 17, h => exact h
    | 18, h => exact h
    | 19, h => exact h
    | 20, h => exact h
    | 21, h => exact h
    | 22, h => exact h
    | 23, h => exact h
    | i + 24, h => trivial
  · intro i hi o ho
    match i, hi, ho with
    | 0, _, ho =>
      obtain rfl := Option.some.inj ho
      intro s W hX hd K hK
      rw [if_pos (wanted_plain rfl)]
      clear hd
      replace hK : ∀ (v : Value) (W' : World), Ext W W' → (v = .int .i64 0) → _ := hK
      simp only [mkOf, List.map_cons, List.map_nil, Act.put, List.setIfInBounds_toArray, List.set_cons_succ, List.set_cons_zero, Nat.reduceAdd, Nat.zero_add] at hK ⊢
      go_simp
      exact hK _ _ (Ext.refl _) rfl
    | 1, _, ho =>
      obtain rfl := Option.some.inj ho
      intro s W hX hd K hK
      rw [if_pos (wanted_plain rfl)]
      have d24 : (s 0) = .int .i64 0 := hd 0 (by decide) (by decide)
      clear hd
      replace hK : ∀ (v : Value) (W' : World), Ext W W' → (v = .bool true) → _ := hK
      simp only [mkOf, List.map_cons, List.map_nil, Act.put, List.setIfInBounds_toArray, List.set_cons_succ, List.set_cons_zero, Nat.reduceAdd, Nat.zero_add] at hK ⊢
      simp only [d24] at hK ⊢
      go_simp
      exact hK _ _ (Ext.refl _) rfl
    | 2, _, ho =>
      obtain rfl := Option.some.inj ho
      intro s W hX hd K hK
      rw [if_pos (wanted_plain rfl)]
      have d25 : (s 1) = .bool true := hd 1 (by decide) (by decide)
      clear hd
      replace hK : ∀ (v : Value) (W' : World), Ext W W' → (v = .bool true) → _ := hK
      simp only [mkOf, List.map_cons, List.map_nil, Act.put, List.setIfInBounds_toArray, List.set_cons_succ, List.set_cons_zero, Nat.reduceAdd, Nat.zero_add] at hK ⊢
      simp only [d25] at hK ⊢
      go_simp
      exact hK _ _ (Ext.refl _) rfl
    | 3, _, ho =>
      obtain rfl := Option.some.inj ho
      intro s W hX hd K hK
      have d26 : (s 2) = .bool true := hd 2 (by decide) (by decide)
      clear hd
      replace hK : ∀ (v : Value) (W' : World), Ext W W' → (v = .int .i64 0) → _ := hK
      simp only [mkOf, List.map_cons, List.map_nil, Act.put, List.setIfInBounds_toArray, List.set_cons_succ, List.set_cons_zero, Nat.reduceAdd, Nat.zero_add] at hK ⊢
      simp only [d26] at hK ⊢
      rw [if_pos (by kernel_rfl)]
      go_simp
      exact hK _ _ (Ext.refl _) rfl
    | 4, _, ho =>
      obtain rfl := Option.some.inj ho
      intro s W hX hd K hK
      have d26 : (s 2) = .bool true := hd 2 (by decide) (by decide)
      have d27 : (s 3) = .int .i64 0 := hd 3 (by decide) (by decide)
      clear hd
      replace hK : ∀ (v : Value) (W' : World), Ext W W' → (v = .bool true) → _ := hK
      simp only [mkOf, List.map_cons, List.map_nil, Act.put, List.setIfInBounds_toArray, List.set_cons_succ, List.set_cons_zero, Nat.reduceAdd, Nat.zero_add] at hK ⊢
      simp only [d26, d27] at hK ⊢
      rw [if_pos (by kernel_rfl)]
      go_simp
      exact hK _ _ (Ext.refl _) rfl
    | 5, _, ho =>
      obtain rfl := Option.some.inj ho
      intro s W hX hd K hK
      rw [if_pos (wanted_plain rfl)]
      have d26 : (s 2) = .bool true := hd 2 (by decide) (by decide)
      have d28 : (s 4) = .bool true := hd 4 (by decide) (by decide)
      clear hd
      replace hK : ∀ (v : Value) (W' : World), Ext W W' → (v = .bool true) → _ := hK
      simp only [mkOf, List.map_cons, List.map_nil, Act.put, List.setIfInBounds_toArray, List.set_cons_succ, List.set_cons_zero, Nat.reduceAdd, Nat.zero_add] at hK ⊢
      simp only [d26, d28] at hK ⊢
      go_simp
      exact hK _ _ (Ext.refl _) rfl
    | 6, _, ho =>
      obtain rfl := Option.some.inj ho
      intro s W hX hd K hK
      rw [if_pos (wanted_plain rfl)]
      have d29 : (s 5) = .bool true := hd 5 (by decide) (by decide)
      clear hd
      replace hK : ∀ (v : Value) (W' : World), Ext W W' → (v = .bool true) → _ := hK
      simp only [mkOf, List.map_cons, List.map_nil, Act.put, List.setIfInBounds_toArray, List.set_cons_succ, List.set_cons_zero, Nat.reduceAdd, Nat.zero_add] at hK ⊢
      simp only [d29] at hK ⊢
      go_simp
      exact hK _ _ (Ext.refl _) rfl
    | 7, _, ho =>
      obtain rfl := Option.some.inj ho
      intro s W hX hd K hK
      have d30 : (s 6) = .bool true := hd 6 (by decide) (by decide)
      clear hd
      replace hK : ∀ (v : Value) (W' : World), Ext W W' → (v = .int .i64 21) → _ := hK
      simp only [mkOf, List.map_cons, List.map_nil, Act.put, List.setIfInBounds_toArray, List.set_cons_succ, List.set_cons_zero, Nat.reduceAdd, Nat.zero_add] at hK ⊢
      simp only [d30] at hK ⊢
      rw [if_pos (by kernel_rfl)]
      go_simp
      exact hK _ _ (Ext.refl _) rfl
    | 8, _, ho =>
      obtain rfl := Option.some.inj ho
      intro s W hX hd K hK
      have d30 : (s 6) = .bool true := hd 6 (by decide) (by decide)
      have d31 : (s 7) = .int .i64 21 := hd 7 (by decide) (by decide)
      clear hd
      replace hK : ∀ (v : Value) (W' : World), Ext W W' → (v = .bool true) → _ := hK
      simp only [mkOf, List.map_cons, List.map_nil, Act.put, List.setIfInBounds_toArray, List.set_cons_succ, List.set_cons_zero, Nat.reduceAdd, Nat.zero_add] at hK ⊢
      simp only [d30, d31] at hK ⊢
      rw [if_pos (by kernel_rfl)]
      go_simp
      exact hK _ _ (Ext.refl _) rfl
    | 9, _, ho =>
      obtain rfl := Option.some.inj ho
      intro s W hX hd K hK
      rw [if_pos (wanted_plain rfl)]
      have d30 : (s 6) = .bool true := hd 6 (by decide) (by decide)
      have d32 : (s 8) = .bool true := hd 8 (by decide) (by decide)
      clear hd
      replace hK : ∀ (v : Value) (W' : World), Ext W W' → (v = .bool true) → _ := hK
      simp only [mkOf, List.map_cons, List.map_nil, Act.put, List.setIfInBounds_toArray, List.set_cons_succ, List.set_cons_zero, Nat.reduceAdd, Nat.zero_add] at hK ⊢
      simp only [d30, d32] at hK ⊢
      go_simp
      exact hK _ _ (Ext.refl _) rfl
    | 10, _, ho =>
      obtain rfl := Option.some.inj ho
      intro s W hX hd K hK
      rw [if_pos (wanted_plain rfl)]
      have d33 : (s 9) = .bool true := hd 9 (by decide) (by decide)
      clear hd
      replace hK : ∀ (v : Value) (W' : World), Ext W W' → (v = .bool true) → _ := hK
      simp only [mkOf, List.map_cons, List.map_nil, Act.put, List.setIfInBounds_toArray, List.set_cons_succ, List.set_cons_zero, Nat.reduceAdd, Nat.zero_add] at hK ⊢
      simp only [d33] at hK ⊢
      go_simp
      exact hK _ _ (Ext.refl _) rfl
    | 11, _, ho =>
      obtain rfl := Option.some.inj ho
      intro s W hX hd K hK
      have d34 : (s 10) = .bool true := hd 10 (by decide) (by decide)
      clear hd
      replace hK : ∀ (v : Value) (W' : World), Ext W W' → (v = .pointer (some ⟨w2.heap.size, 1025, none⟩)) → _ := hK
      simp only [mkOf, List.map_cons, List.map_nil, Act.put, List.setIfInBounds_toArray, List.set_cons_succ, List.set_cons_zero, Nat.reduceAdd, Nat.zero_add] at hK ⊢
      simp only [d34] at hK ⊢
      rw [if_pos (by kernel_rfl)]
      go_simp
      exact hK _ _ (Ext.refl _) rfl
    | 12, _, ho =>
      obtain rfl := Option.some.inj ho
      intro s W hX hd K hK
      have d34 : (s 10) = .bool true := hd 10 (by decide) (by decide)
      have d35 : (s 11) = .pointer (some ⟨w2.heap.size, 1025, none⟩) := hd 11 (by decide) (by decide)
      clear hd
      replace hK : ∀ (v : Value) (W' : World), Ext W W' → (v = .slice A 0 c) → _ := hK
      simp only [mkOf, List.map_cons, List.map_nil, Act.put, List.setIfInBounds_toArray, List.set_cons_succ, List.set_cons_zero, Nat.reduceAdd, Nat.zero_add] at hK ⊢
      simp only [d34, d35] at hK ⊢
      rw [if_pos (by kernel_rfl)]
      have c25 := (HSB.out.keep hX (by simp)).cell 1025
      rw [HSW.out] at c25
      go_simp
      exact hK _ _ (Ext.refl _) rfl
    | 13, _, ho =>
      obtain rfl := Option.some.inj ho
      intro s W hX hd K hK
      have d34 : (s 10) = .bool true := hd 10 (by decide) (by decide)
      have d36 : (s 12) = .slice A 0 c := hd 12 (by decide) (by decide)
      clear hd
      replace hK : ∀ (v : Value) (W' : World), Ext W W' → (v = .int .i64 0) → _ := hK
      simp only [mkOf, List.map_cons, List.map_nil, Act.put, List.setIfInBounds_toArray, List.set_cons_succ, List.set_cons_zero, Nat.reduceAdd, Nat.zero_add] at hK ⊢
      simp only [d34, d36] at hK ⊢
      rw [if_pos (by kernel_rfl)]
      go_simp
      exact hK _ _ (Ext.refl _) rfl
    | 14, _, ho =>
      obtain rfl := Option.some.inj ho
      intro s W hX hd K hK
      have d34 : (s 10) = .bool true := hd 10 (by decide) (by decide)
      have d37 : (s 13) = .int .i64 0 := hd 13 (by decide) (by decide)
      clear hd
      replace hK : ∀ (v : Value) (W' : World), Ext W W' → (v = .bool true) → _ := hK
      simp only [mkOf, List.map_cons, List.map_nil, Act.put, List.setIfInBounds_toArray, List.set_cons_succ, List.set_cons_zero, Nat.reduceAdd, Nat.zero_add] at hK ⊢
      simp only [d34, d37] at hK ⊢
      rw [if_pos (by kernel_rfl)]
      go_simp
      exact hK _ _ (Ext.refl _) rfl
    | 15, _, ho =>
      obtain rfl := Option.some.inj ho
      intro s W hX hd K hK
      rw [if_pos (wanted_plain rfl)]
      have d34 : (s 10) = .bool true := hd 10 (by decide) (by decide)
      have d38 : (s 14) = .bool true := hd 14 (by decide) (by decide)
      clear hd
      replace hK : ∀ (v : Value) (W' : World), Ext W W' → (v = .bool true) → _ := hK
      simp only [mkOf, List.map_cons, List.map_nil, Act.put, List.setIfInBounds_toArray, List.set_cons_succ, List.set_cons_zero, Nat.reduceAdd, Nat.zero_add] at hK ⊢
      simp only [d34, d38] at hK ⊢
      go_simp
      exact hK _ _ (Ext.refl _) rfl
    | 16, _, ho =>
      obtain rfl := Option.some.inj ho
      intro s W hX hd K hK
      rw [if_pos (wanted_plain rfl)]
      have d39 : (s 15) = .bool true := hd 15 (by decide) (by decide)
      clear hd
      replace hK : ∀ (v : Value) (W' : World), Ext W W' → (v = .bool true) → _ := hK
      simp only [mkOf, List.map_cons, List.map_nil, Act.put, List.setIfInBounds_toArray, List.set_cons_succ, List.set_cons_zero, Nat.reduceAdd, Nat.zero_add] at hK ⊢
      simp only [d39] at hK ⊢
      go_simp
      exact hK _ _ (Ext.refl _) rfl
    | 17, _, ho =>
      obtain rfl := Option.some.inj ho
      intro s W hX hd K hK
      have d40 : (s 16) = .bool true := hd 16 (by decide) (by decide)
      clear hd
      replace hK : ∀ (v : Value) (W' : World), Ext W W' → (v = .agg M.toArray) → _ := hK
      simp only [mkOf, List.map_cons, List.map_nil, Act.put, List.setIfInBounds_toArray, List.set_cons_succ, List.set_cons_zero, Nat.reduceAdd, Nat.zero_add] at hK ⊢
      simp only [d40] at hK ⊢
      rw [if_pos (by kernel_rfl)]
      refine wp_load_agg 39 (.tmp 3) rfl _ rfl M _ Try.underlying39 rfl (szOutTo05 HML.out) (HSB.out.keep hX (by simp)).cells ?_
      exact hK _ _ (Ext.refl _) rfl
    | 18, _, ho =>
      obtain rfl := Option.some.inj ho
      intro s W hX hd K hK
      have d40 : (s 16) = .bool true := hd 16 (by decide) (by decide)
      clear hd
      replace hK : ∀ (v : Value) (W' : World), Ext W W' → (v = .pointer (some ⟨g, 0, none⟩)) → _ := hK
      simp only [mkOf, List.map_cons, List.map_nil, Act.put, List.setIfInBounds_toArray, List.set_cons_succ, List.set_cons_zero, Nat.reduceAdd, Nat.zero_add] at hK ⊢
      simp only [d40] at hK ⊢
      rw [if_pos (by kernel_rfl)]
      go_simp
      exact hK _ _ (Ext.refl _) rfl
    | 19, _, ho =>
      obtain rfl := Option.some.inj ho
      intro s W hX hd K hK
      have d40 : (s 16) = .bool true := hd 16 (by decide) (by decide)
      have d42 : (s 18) = .pointer (some ⟨g, 0, none⟩) := hd 18 (by decide) (by decide)
      clear hd
      replace hK : ∀ (v : Value) (W' : World), Ext W W' → (v = .agg RT.toArray) → _ := hK
      simp only [mkOf, List.map_cons, List.map_nil, Act.put, List.setIfInBounds_toArray, List.set_cons_succ, List.set_cons_zero, Nat.reduceAdd, Nat.zero_add] at hK ⊢
      simp only [d40, d42] at hK ⊢
      rw [if_pos (by kernel_rfl)]
      go_simp
      refine (HROOT.out _ hX).mono ?_
      rintro e w' ⟨rfl, hx⟩
      exact hK _ _ hx rfl
    | 20, _, ho =>
      obtain rfl := Option.some.inj ho
      intro s W hX hd K hK
      have d40 : (s 16) = .bool true := hd 16 (by decide) (by decide)
      clear hd
      replace hK : ∀ (v : Value) (W' : World), Ext W W' → (v = .agg D1.toArray) → _ := hK
      simp only [mkOf, List.map_cons, List.map_nil, Act.put, List.setIfInBounds_toArray, List.set_cons_succ, List.set_cons_zero, Nat.reduceAdd, Nat.zero_add] at hK ⊢
      simp only [d40] at hK ⊢
      rw [if_pos (by kernel_rfl)]
      refine wp_known _ (HD1.out _ _ W rfl) ?_
      exact hK _ _ (Ext.refl _) rfl
    | 21, _, ho =>
      obtain rfl := Option.some.inj ho
      intro s W hX hd K hK
      have d40 : (s 16) = .bool true := hd 16 (by decide) (by decide)
      have d41 : (s 17) = .agg M.toArray := hd 17 (by decide) (by decide)
      have d43 : (s 19) = .agg RT.toArray := hd 19 (by decide) (by decide)
      have d44 : (s 20) = .agg D1.toArray := hd 20 (by decide) (by decide)
      clear hd
      replace hK : ∀ (v : Value) (W' : World), Ext W W' → (v = .bool true) → _ := hK
      simp only [mkOf, List.map_cons, List.map_nil, Act.put, List.setIfInBounds_toArray, List.set_cons_succ, List.set_cons_zero, Nat.reduceAdd, Nat.zero_add] at hK ⊢
      simp only [d40, d41, d43, d44] at hK ⊢
      rw [if_pos (by kernel_rfl)]
      go_simp
      refine (HRIGHT.out _ hX).mono ?_
      rintro e w' ⟨rfl, hx⟩
      exact hK _ _ hx rfl
    | 22, _, ho =>
      obtain rfl := Option.some.inj ho
      intro s W hX hd K hK
      rw [if_pos (wanted_plain rfl)]
      have d40 : (s 16) = .bool true := hd 16 (by decide) (by decide)
      have d45 : (s 21) = .bool true := hd 21 (by decide) (by decide)
      clear hd
      replace hK : ∀ (v : Value) (W' : World), Ext W W' → (v = .bool true) → _ := hK
      simp only [mkOf, List.map_cons, List.map_nil, Act.put, List.setIfInBounds_toArray, List.set_cons_succ, List.set_cons_zero, Nat.reduceAdd, Nat.zero_add] at hK ⊢
      simp only [d40, d45] at hK ⊢
      go_simp
      exact hK _ _ (Ext.refl _) rfl
    | 23, _, ho =>
      obtain rfl := Option.some.inj ho
      intro s W hX hd K hK
      rw [if_pos (wanted_plain rfl)]
      have d46 : (s 22) = .bool true := hd 22 (by decide) (by decide)
      clear hd
      replace hK : ∀ (v : Value) (W' : World), Ext W W' → (v = .bool true) → _ := hK
      simp only [mkOf, List.map_cons, List.map_nil, Act.put, List.setIfInBounds_toArray, List.set_cons_succ, List.set_cons_zero, Nat.reduceAdd, Nat.zero_add] at hK ⊢
      simp only [d46] at hK ⊢
      go_simp
      exact hK _ _ (Ext.refl _) rfl
    | i + 24, hi, _ => exact absurd hi (by simp)
  · intro s W hX hd
    have d24 : (s 0) = .int .i64 0 := hd 0 (by decide)
    have d25 : (s 1) = .bool true := hd 1 (by decide)
    have d26 : (s 2) = .bool true := hd 2 (by decide)
    have d27 : (s 3) = .int .i64 0 := hd 3 (by decide)
    have d28 : (s 4) = .bool true := hd 4 (by decide)
    have d29 : (s 5) = .bool true := hd 5 (by decide)
    have d30 : (s 6) = .bool true := hd 6 (by decide)
    have d31 : (s 7) = .int .i64 21 := hd 7 (by decide)
    have d32 : (s 8) = .bool true := hd 8 (by decide)
    have d33 : (s 9) = .bool true := hd 9 (by decide)
    have d34 : (s 10) = .bool true := hd 10 (by decide)
    have d35 : (s 11) = .pointer (some ⟨w2.heap.size, 1025, none⟩) := hd 11 (by decide)
    have d36 : (s 12) = .slice A 0 c := hd 12 (by decide)
    have d37 : (s 13) = .int .i64 0 := hd 13 (by decide)
    have d38 : (s 14) = .bool true := hd 14 (by decide)
    have d39 : (s 15) = .bool true := hd 15 (by decide)
    have d40 : (s 16) = .bool true := hd 16 (by decide)
    have d41 : (s 17) = .agg M.toArray := hd 17 (by decide)
    have d42 : (s 18) = .pointer (some ⟨g, 0, none⟩) := hd 18 (by decide)
    have d43 : (s 19) = .agg RT.toArray := hd 19 (by decide)
    have d44 : (s 20) = .agg D1.toArray := hd 20 (by decide)
    have d45 : (s 21) = .bool true := hd 21 (by decide)
    have d46 : (s 22) = .bool true := hd 22 (by decide)
    have d0 : (s 23) = .bool true := hd 23 (by decide)
    clear hd
    simp only [mkOf, List.map_cons, List.map_nil, Act.put, List.setIfInBounds_toArray, List.set_cons_succ, List.set_cons_zero, Nat.reduceAdd, Nat.zero_add]
    (try simp only [Exit.then])
    go_wp2_with fail
    go_ret
    exact ⟨by simp [d0], HX2.out.trans (HX6.out.trans hX)⟩
end
section
open Go.RowKit

def eqvL {α : Type} (f : α → α → Bool) : List α → List α → Bool
  | [], [] => true
  | a :: l, b :: m => f a b && eqvL f l m
  | _, _ => false
def Ty.eqv : (t : Ty) → t.Data → t.Data → Bool
  | .u8, a, b => a == b
  | .nat _, a, b => (a : Nat) == b
  | .int _, a, b => (a : Int) == b
  | .bool, a, b => (a : Bool) == b
  | .str, a, b => a.toList == b.toList
  | .arr _ t, l, m => eqvL t.eqv l m
  | .sl _, _, _ => false
  | .st t, a, b => t.eqv a b
  | .unit, _, _ => true
  | .pair a b, x, y => a.eqv x.1 y.1 && b.eqv x.2 y.2
def Ty.plain : Ty → Bool
  | .arr _ t => t.plain
  | .sl _ => false
  | .st t => t.plain
  | .pair a b => a.plain && b.plain
  | _ => true
theorem eqvL_iff {α : Type} {f : α → α → Bool} (h : ∀ a b, f a b = true ↔ a = b) : ∀ (l m : List α), eqvL f l m = true ↔ l = m
  | [], [] => by simp [eqvL]
  | [], _ :: _ => by simp [eqvL]
  | _ :: _, [] => by simp [eqvL]
  | a :: l, b :: m => by simp [eqvL, h, eqvL_iff h l m]
theorem Ty.eqv_iff : ∀ (t : Ty), t.plain = true → ∀ x y : t.Data, t.eqv x y = true ↔ x = y
  | .u8, _, a, b => by simp [Ty.eqv]
  | .nat _, _, a, b => by simp [Ty.eqv]
  | .int _, _, a, b => by simp [Ty.eqv]
  | .bool, _, a, b => by simp [Ty.eqv]
  | .str, _, a, b => by
    simp only [Ty.eqv, beq_iff_eq, ByteArray.toList_eq]
    constructor
    · intro h; obtain ⟨⟨x⟩⟩ := a; obtain ⟨⟨y⟩⟩ := b; simp at h; subst h; rfl
    · rintro rfl; rfl
  | .arr _ t, h, l, m => eqvL_iff (Ty.eqv_iff t h) l m
  | .sl _, h, _, _ => by simp [Ty.plain] at h
  | .st t, h, a, b => Ty.eqv_iff t h a b
  | .unit, _, a, b => by simp [Ty.eqv]
  | .pair a b, h, x, y => by
    simp only [Ty.plain, Bool.and_eq_true] at h
    simp only [Ty.eqv, Bool.and_eq_true, Ty.eqv_iff a h.1, Ty.eqv_iff b h.2]
    constructor
    · rintro ⟨h1, h2⟩; exact Prod.ext h1 h2
    · rintro rfl; exact ⟨rfl, rfl⟩
def Ty.deep : Ty → Nat
  | .arr _ t => t.deep + 1
  | .st t => t.deep + 1
  | .pair a b => max a.deep b.deep
  | .unit => 0
  | _ => 1
/-- Does the described type fit the program's, and can it be compared? -/
def Ty.eqFits (P : Program) : Ty → (TypeId → Bool) × (List Field → Nat → Bool)
  | .u8 => (fun t => match P.underlying t with | some (.int .u8) => true | _ => false, fun _ _ => false)
  | .nat k => (fun t => match P.underlying t with | some (.int k') => k' == k | _ => false, fun _ _ => false)
  | .int k => (fun t => match P.underlying t with | some (.int k') => k' == k | _ => false, fun _ _ => false)
  | .bool => (fun t => match P.underlying t with | some .bool => true | _ => false, fun _ _ => false)
  | .str => (fun t => match P.underlying t with | some .string => true | _ => false, fun _ _ => false)
  | .arr n a => (fun t => match P.underlying t with | some (.array m e) => m == n && (a.eqFits P).1 e && (P.info? e).map (·.size) == some a.size | _ => false, fun _ _ => false)
  | .sl _ => (fun _ => false, fun _ _ => false)
  | .st c => (fun t => match P.underlying t with | some (.struct fs) => (c.eqFits P).2 fs.toList 0 && !P.stoodInHeld t | _ => false, fun _ _ => false)
  | .unit => (fun _ => false, fun fs _ => fs.isEmpty)
  | .pair a b => (fun _ => false, fun fs off => match fs with | f :: r => f.name != "_" && f.offset == off && (a.eqFits P).1 f.type && (P.info? f.type).map (·.size) == some a.size && (b.eqFits P).2 r (off + a.size) | [] => false)
/-- The value that cells are. -/
def Ty.val : Ty → List Value → Value
  | .arr _ _, cs => .agg cs.toArray
  | .st _, cs => .agg cs.toArray
  | _, cs => cs.headD undef
section
variable {P : Program}
theorem info_size {e : TypeId} {n : Nat} (h : (P.info? e).map (·.size) = some n) (w : World) : (sizeOf e).run P w = .ok n w := by
  obtain ⟨i, hi1, hi2⟩ := Option.map_eq_some_iff.1 h
  simp [sizeOf, typeInfo, hi1, hi2]
theorem isAgg_run {t : TypeId} {d : TypeDesc} (hu : P.underlying t = some d) (w : World) : (isAgg t).run P w = .ok (isAggD d) w := by
  unfold isAgg
  rw [Sem.run_bind, run_underlying hu w]
  cases d <;> rfl
/-- A part is the value of its cells. -/
theorem part_run (ty : Ty) {t : TypeId} (hf : (ty.eqFits P).1 t = true) (hs : (P.info? t).map (·.size) = some ty.size) {W : World} {F : Fp} {x : ty.Data} (cs c1 c2 : List Value) (off : Nat) (hc : cs.drop off = c1 ++ c2) (hx : ty.holds W F c1 x) (w : World) :
    (part t cs.toArray off).run P w = .ok (ty.val c1) w := by
  have hl := Ty.len ty hx
  have hcell : ∀ v, c1 = [v] → cs[off]? = some v := by
    rintro v rfl
    have h : (cs.drop off)[0]? = some v := by rw [hc]; rfl
    rw [List.getElem?_drop] at h
    simpa using h
  have one : ∀ v d, c1 = [v] → P.underlying t = some d → isAggD d = false → (part t cs.toArray off).run P w = .ok v w := by
    intro v d h hu hd
    simp only [part, Sem.run_bind, isAgg_run hu, hd, Result.andThen_ok, Bool.false_eq_true, if_false]
    have := hcell v h
    simp [this]
  have agg : ∀ d, P.underlying t = some d → isAggD d = true → (part t cs.toArray off).run P w = .ok (.agg c1.toArray) w := by
    intro d hu hd
    simp only [part, Sem.run_bind, isAgg_run hu, hd, Result.andThen_ok, if_true, info_size hs, Sem.run_pure]
    congr 2
    apply Array.ext'
    rw [Array.toList_extract]
    simp only [List.toList_toArray, Nat.add_sub_cancel_left, List.extract_eq_take_drop, hc, ← hl]
    simp
  cases ty with
  | u8 =>
    simp only [Ty.eqFits] at hf
    split at hf <;> try simp only [Bool.false_eq_true] at hf
    rename_i hu
    have hx : c1 = [.int .u8 (x.toNat : Int)] := hx
    rw [one _ _ hx hu rfl, hx]; rfl
  | nat k =>
    simp only [Ty.eqFits] at hf
    split at hf <;> try simp only [Bool.false_eq_true] at hf
    rename_i hu
    obtain ⟨hx, _⟩ := hx
    rw [one _ _ hx hu rfl, hx]; rfl
  | int k =>
    simp only [Ty.eqFits] at hf
    split at hf <;> try simp only [Bool.false_eq_true] at hf
    rename_i hu
    obtain ⟨hx, _⟩ := hx
    rw [one _ _ hx hu rfl, hx]; rfl
  | bool =>
    simp only [Ty.eqFits] at hf
    split at hf <;> try simp only [Bool.false_eq_true] at hf
    rename_i hu
    have hx : c1 = [.bool x] := hx
    rw [one _ _ hx hu rfl, hx]; rfl
  | str =>
    simp only [Ty.eqFits] at hf
    split at hf <;> try simp only [Bool.false_eq_true] at hf
    rename_i hu
    obtain ⟨hx, _⟩ := hx
    rw [one _ _ hx hu rfl, hx]; rfl
  | arr n a =>
    simp only [Ty.eqFits] at hf
    split at hf <;> try simp only [Bool.false_eq_true] at hf
    rename_i hu
    exact agg _ hu rfl
  | sl a => simp [Ty.eqFits] at hf
  | st c =>
    simp only [Ty.eqFits] at hf
    split at hf <;> try simp only [Bool.false_eq_true] at hf
    rename_i hu
    exact agg _ hu rfl
  | unit => simp [Ty.eqFits] at hf
  | pair a b => simp [Ty.eqFits] at hf

theorem eq_loop {W1 W2 : World} {F1 F2 : Fp} (a : Ty) (e : TypeId) (d : Nat) (hf : (a.eqFits P).1 e = true) (hs : (P.info? e).map (·.size) = some a.size)
    (ih : ∀ (w : World) (c1 c2 : List Value) (x y : a.Data), a.holds W1 F1 c1 x → a.holds W2 F2 c2 y → (Op.equalIn d e (a.val c1) (a.val c2)).run P w = .ok (a.eqv x y) w) (cs ds : List Value) :
    ∀ (l m : List a.Data) (i : Nat) (w : World), l.length = m.length → AllH (a.holds W1 F1) (cs.drop (i * a.size)) l → AllH (a.holds W2 F2) (ds.drop (i * a.size)) m →
    ∃ r : Option Bool, (forIn (m := Sem) (List.range' i l.length 1) ((none : Option Bool), ()) fun i _ => do
        let x ← part e cs.toArray (i * a.size)
        let y ← part e ds.toArray (i * a.size)
        let b ← Op.equalIn d e x y
        if (!b) = true then pure (ForInStep.done (some false, ())) else pure (ForInStep.yield (none, ()))).run P w = .ok (r, ()) w ∧ (r.getD true) = eqvL a.eqv l m
  | [], [], _, _, _, _, _ => ⟨none, by simp, rfl⟩
  | [], _ :: _, _, _, h, _, _ => by simp at h
  | _ :: _, [], _, _, h, _, _ => by simp at h
  | x :: l, y :: m, i, w, h, h1, h2 => by
    obtain ⟨c1, c2, e1, g1, g2⟩ := h1
    obtain ⟨d1, d2, e2, k1, k2⟩ := h2
    have hp1 := part_run a hf hs cs c1 c2 (i * a.size) e1 g1 w
    have hp2 := part_run a hf hs ds d1 d2 (i * a.size) e2 k1 w
    have he := ih w c1 d1 x y g1 k1
    have n1 : cs.drop ((i + 1) * a.size) = c2 := by
      rw [Nat.add_mul, Nat.one_mul, ← List.drop_drop, e1, ← Ty.len a g1, List.drop_left]
    have n2 : ds.drop ((i + 1) * a.size) = d2 := by
      rw [Nat.add_mul, Nat.one_mul, ← List.drop_drop, e2, ← Ty.len a k1, List.drop_left]
    obtain ⟨r, hr, hr2⟩ := eq_loop a e d hf hs ih cs ds l m (i + 1) w (by simpa using h) (by rw [n1]; exact g2) (by rw [n2]; exact k2)
    simp only [List.length_cons, List.range'_succ, List.forIn_cons, Sem.run_bind, hp1, hp2, he, Result.andThen_ok]
    cases hb : a.eqv x y
    · exact ⟨some false, by simp, by simp [eqvL, hb]⟩
    · refine ⟨r, ?_, by simp [eqvL, hb, hr2]⟩
      simpa using hr
theorem eq_both : ∀ (ty : Ty),
    (∀ (t : TypeId) (d : Nat), (ty.eqFits P).1 t = true → ty.deep ≤ d → ∀ (w W1 W2 : World) (F1 F2 : Fp) (cs ds : List Value) (x y : ty.Data), ty.holds W1 F1 cs x → ty.holds W2 F2 ds y → (Op.equalIn d t (ty.val cs) (ty.val ds)).run P w = .ok (ty.eqv x y) w) ∧
    (∀ (fs : List Field) (off d : Nat), (ty.eqFits P).2 fs off = true → ty.deep ≤ d → ∀ (w W1 W2 : World) (F1 F2 : Fp) (cs ds : List Value) (x y : ty.Data), ty.holds W1 F1 (cs.drop off) x → ty.holds W2 F2 (ds.drop off) y → (Op.eqFields d cs.toArray ds.toArray fs).run P w = .ok (ty.eqv x y) w)
  | .u8 => ⟨fun t d hf hd w _ _ _ _ cs ds x y h1 h2 => by
      simp only [Ty.eqFits] at hf
      split at hf <;> try simp only [Bool.false_eq_true] at hf
      rename_i hu
      obtain ⟨d, rfl⟩ : ∃ k, d = k + 1 := ⟨d - 1, by simp only [Ty.deep] at hd; omega⟩
      have h1 : cs = [.int .u8 (x.toNat : Int)] := h1
      have h2 : ds = [.int .u8 (y.toNat : Int)] := h2
      subst h1 h2
      show (Op.equalIn (d + 1) t (.int .u8 _) (.int .u8 _)).run P w = _
      rw [run_equalIn_int w d t .u8 .u8 _ _ hu]
      congr 1
      show _ = (x == y)
      rw [Bool.eq_iff_iff]
      simp [← UInt8.toNat_inj]
      omega, fun _ _ _ hf => by simp [Ty.eqFits] at hf⟩
  | .nat k => ⟨fun t d hf hd w _ _ _ _ cs ds x y h1 h2 => by
      simp only [Ty.eqFits] at hf
      split at hf <;> try simp only [Bool.false_eq_true] at hf
      rename_i hu
      obtain ⟨d, rfl⟩ : ∃ k, d = k + 1 := ⟨d - 1, by simp only [Ty.deep] at hd; omega⟩
      obtain ⟨rfl, _⟩ := h1
      obtain ⟨rfl, _⟩ := h2
      show (Op.equalIn (d + 1) t (.int k _) (.int k _)).run P w = _
      rw [run_equalIn_int w d t k _ _ _ hu]
      congr 1
      show _ = ((x : Nat) == y)
      rw [Bool.eq_iff_iff, beq_iff_eq, beq_iff_eq]
      exact Int.ofNat_inj, fun _ _ _ hf => by simp [Ty.eqFits] at hf⟩
  | .int k => ⟨fun t d hf hd w _ _ _ _ cs ds x y h1 h2 => by
      simp only [Ty.eqFits] at hf
      split at hf <;> try simp only [Bool.false_eq_true] at hf
      rename_i hu
      obtain ⟨d, rfl⟩ : ∃ k, d = k + 1 := ⟨d - 1, by simp only [Ty.deep] at hd; omega⟩
      obtain ⟨rfl, _⟩ := h1
      obtain ⟨rfl, _⟩ := h2
      show (Op.equalIn (d + 1) t (.int k _) (.int k _)).run P w = _
      rw [run_equalIn_int w d t k _ _ _ hu]
      rfl, fun _ _ _ hf => by simp [Ty.eqFits] at hf⟩
  | .bool => ⟨fun t d hf hd w _ _ _ _ cs ds x y h1 h2 => by
      simp only [Ty.eqFits] at hf
      split at hf <;> try simp only [Bool.false_eq_true] at hf
      rename_i hu
      obtain ⟨d, rfl⟩ : ∃ k, d = k + 1 := ⟨d - 1, by simp only [Ty.deep] at hd; omega⟩
      have h1 : cs = [.bool x] := h1
      have h2 : ds = [.bool y] := h2
      subst h1 h2
      show (Op.equalIn (d + 1) t (.bool _) (.bool _)).run P w = _
      rw [run_equalIn_bool' w d t _ _ hu]
      rfl, fun _ _ _ hf => by simp [Ty.eqFits] at hf⟩
  | .str => ⟨fun t d hf hd w _ _ _ _ cs ds x y h1 h2 => by
      simp only [Ty.eqFits] at hf
      split at hf <;> try simp only [Bool.false_eq_true] at hf
      rename_i hu
      obtain ⟨d, rfl⟩ : ∃ k, d = k + 1 := ⟨d - 1, by simp only [Ty.deep] at hd; omega⟩
      obtain ⟨rfl, _⟩ := h1
      obtain ⟨rfl, _⟩ := h2
      show (Op.equalIn (d + 1) t (.string _) (.string _)).run P w = _
      rw [run_equalIn_string w d t _ _ hu]
      rfl, fun _ _ _ hf => by simp [Ty.eqFits] at hf⟩
  | .arr n a => ⟨fun t d hf hd w W1 W2 F1 F2 cs ds x y h1 h2 => by
      simp only [Ty.eqFits] at hf
      split at hf <;> try simp only [Bool.false_eq_true] at hf
      rename_i m e hu
      simp only [Bool.and_eq_true, beq_iff_eq] at hf
      obtain ⟨⟨rfl, hfa⟩, hs⟩ := hf
      obtain ⟨d, rfl⟩ : ∃ k, d = k + 1 := ⟨d - 1, by simp only [Ty.deep] at hd; omega⟩
      simp only [Ty.deep] at hd
      obtain ⟨hx1, hx2⟩ := h1
      obtain ⟨hy1, hy2⟩ := h2
      obtain ⟨r, hr, hr2⟩ := eq_loop (W1 := W1) (W2 := W2) (F1 := F1) (F2 := F2) a e d hfa hs (fun w c1 c2 x y g1 g2 => (eq_both a).1 e d hfa (by omega) w W1 W2 F1 F2 c1 c2 x y g1 g2) cs ds x y 0 w (hx1.trans hy1.symm) (by simpa using hx2) (by simpa using hy2)
      show (Op.equalIn (d + 1) t (.agg cs.toArray) (.agg ds.toArray)).run P w = .ok (eqvL a.eqv x y) w
      rw [Op.equalIn]
      rw [hx1] at hr
      simp only [Sem.run_bind, run_underlying hu, Result.andThen_ok, info_size hs, Std.Legacy.Range.forIn_eq_forIn_range', Std.Legacy.Range.size, Nat.sub_zero, Nat.add_sub_cancel, Nat.div_one]
      (try simp only [Sem.run_bind] at hr)
      rw [hr, ← hr2]
      cases r <;> simp, fun _ _ _ hf => by simp [Ty.eqFits] at hf⟩
  | .sl a => ⟨fun _ _ hf => by simp [Ty.eqFits] at hf, fun _ _ _ hf => by simp [Ty.eqFits] at hf⟩
  | .st c => ⟨fun t d hf hd w W1 W2 F1 F2 cs ds x y h1 h2 => by
      simp only [Ty.eqFits] at hf
      split at hf <;> try simp only [Bool.false_eq_true] at hf
      rename_i fs hu
      simp only [Bool.and_eq_true, Bool.not_eq_true'] at hf
      obtain ⟨hfc, hst⟩ := hf
      obtain ⟨d, rfl⟩ : ∃ k, d = k + 1 := ⟨d - 1, by simp only [Ty.deep] at hd; omega⟩
      simp only [Ty.deep] at hd
      have hfo : P.fieldsOf t = fs := by simp only [Program.fieldsOf, hu]
      show (Op.equalIn (d + 1) t (.agg cs.toArray) (.agg ds.toArray)).run P w = .ok (c.eqv x y) w
      rw [run_equalIn_struct w d t _ _ (by rw [hfo]; exact hu) hst, hfo]
      exact (eq_both c).2 fs.toList 0 d hfc (by omega) w W1 W2 F1 F2 cs ds x y (by rw [List.drop_zero]; exact h1) (by rw [List.drop_zero]; exact h2), fun _ _ _ hf => by simp [Ty.eqFits] at hf⟩
  | .unit => ⟨fun _ _ hf => by simp [Ty.eqFits] at hf, fun fs off d hf _ w _ _ _ _ cs ds x y _ _ => by
      cases fs with
      | nil => simp [Op.eqFields, Ty.eqv]
      | cons f r => simp [Ty.eqFits] at hf⟩
  | .pair a b => ⟨fun _ _ hf => by simp [Ty.eqFits] at hf, fun fs off d hf hd w W1 W2 F1 F2 cs ds x y h1 h2 => by
      cases fs with
      | nil => simp [Ty.eqFits] at hf
      | cons f r =>
        simp only [Ty.eqFits, Bool.and_eq_true, beq_iff_eq, bne_iff_ne] at hf
        obtain ⟨⟨⟨⟨hn, rfl⟩, hfa⟩, hs⟩, hfb⟩ := hf
        simp only [Ty.deep] at hd
        obtain ⟨c1, c2, e1, g1, g2⟩ := h1
        obtain ⟨d1, d2, e2, k1, k2⟩ := h2
        have n1 : cs.drop (f.offset + a.size) = c2 := by rw [← List.drop_drop, e1, ← Ty.len a g1, List.drop_left]
        have n2 : ds.drop (f.offset + a.size) = d2 := by rw [← List.drop_drop, e2, ← Ty.len a k1, List.drop_left]
        have ha := (eq_both a).1 f.type d hfa (by omega) w W1 W2 F1 F2 c1 d1 x.1 y.1 g1 k1
        have hb := (eq_both b).2 r (f.offset + a.size) d hfb (by omega) w W1 W2 F1 F2 cs ds x.2 y.2 (by rw [n1]; exact g2) (by rw [n2]; exact k2)
        simp only [Op.eqFields, hn, ne_eq, not_false_eq_true, if_true, Sem.run_bind, part_run a hfa hs cs c1 c2 f.offset e1 g1 w, part_run a hfa hs ds d1 d2 f.offset e2 k1 w, ha, Result.andThen_ok, Sem.run_ite, Sem.run_pure, hb, Ty.eqv]
        cases a.eqv x.1 y.1 <;> simp⟩
/-- '==' at structs and arrays. -/
theorem run_eqTy (ty : Ty) (t : TypeId) (hf : (ty.eqFits P).1 t = true) (hd : ty.deep ≤ 10000) (w W1 W2 : World) (F1 F2 : Fp) (cs ds : List Value) (x y : ty.Data) (h1 : ty.holds W1 F1 cs x) (h2 : ty.holds W2 F2 ds y) (hv : ∀ cs, ty.val cs = .agg cs.toArray) :
    (binOp .eql t (.agg cs.toArray) (.agg ds.toArray)).run P w = .ok (.bool (ty.eqv x y)) w := by
  have h := (eq_both ty).1 t 10000 hf hd w W1 W2 F1 F2 cs ds x y h1 h2
  rw [hv, hv] at h
  rw [run_eql_struct, h]; rfl
theorem run_neTy (ty : Ty) (t : TypeId) (hf : (ty.eqFits P).1 t = true) (hd : ty.deep ≤ 10000) (w W1 W2 : World) (F1 F2 : Fp) (cs ds : List Value) (x y : ty.Data) (h1 : ty.holds W1 F1 cs x) (h2 : ty.holds W2 F2 ds y) (hv : ∀ cs, ty.val cs = .agg cs.toArray) :
    (binOp .neq t (.agg cs.toArray) (.agg ds.toArray)).run P w = .ok (.bool (!ty.eqv x y)) w := by
  have h := (eq_both ty).1 t 10000 hf hd w W1 W2 F1 F2 cs ds x y h1 h2
  rw [hv, hv] at h
  rw [run_neq_struct, h]; rfl
end
end
section
open Go.RowKit
section
variable {P : Program} {C : World → Prop} {o : Oper} {a : Act} {K : Act → Prop}
theorem quiet_eqTy (ty : Ty) (t t' : TypeId) (x y : Operand) (ho : o.op = .binOp .eql t x y t') (hf : (ty.eqFits P).1 t = true) (hd : ty.deep ≤ 10000) (hg : P.eqGuardType P.depth t = false) (hv : ∀ cs, ty.val cs = .agg cs.toArray)
    {W1 W2 : World} {F1 F2 : Fp} (cs ds : List Value) (d1 d2 : ty.Data) (hx : a.eval x = .agg cs.toArray) (hy : a.eval y = .agg ds.toArray) (h1 : ty.holds W1 F1 cs d1) (h2 : ty.holds W2 F2 ds d2) (hk : K (a.put o.dst (.bool (ty.eqv d1 d2)))) : o.quiet P a C K :=
  quiet_run _ (fun w _ => by
    unfold execOp
    simp only [ho, hx, hy, Sem.run_bind, run_eqGuard w .eql t x y _ _ (.inl rfl) hg, run_eqTy ty t hf hd w W1 W2 F1 F2 cs ds d1 d2 h1 h2 hv, Result.andThen_ok, Sem.run_pure]) hk
theorem quiet_neTy (ty : Ty) (t t' : TypeId) (x y : Operand) (ho : o.op = .binOp .neq t x y t') (hf : (ty.eqFits P).1 t = true) (hd : ty.deep ≤ 10000) (hg : P.eqGuardType P.depth t = false) (hv : ∀ cs, ty.val cs = .agg cs.toArray)
    {W1 W2 : World} {F1 F2 : Fp} (cs ds : List Value) (d1 d2 : ty.Data) (hx : a.eval x = .agg cs.toArray) (hy : a.eval y = .agg ds.toArray) (h1 : ty.holds W1 F1 cs d1) (h2 : ty.holds W2 F2 ds d2) (hk : K (a.put o.dst (.bool (!ty.eqv d1 d2)))) : o.quiet P a C K :=
  quiet_run _ (fun w _ => by
    unfold execOp
    simp only [ho, hx, hy, Sem.run_bind, run_eqGuard w .neq t x y _ _ (.inr rfl) hg, run_neTy ty t hf hd w W1 W2 F1 F2 cs ds d1 d2 h1 h2 hv, Result.andThen_ok, Sem.run_pure]) hk
theorem wpList_eqTy {w : World} {ops : Array Oper} {rest : List Oper} {Q : Exit → Act → World → Prop} (hgd : o.guard = none ∨ Region.wanted o (yielded ops a.tmps) = true) (ty : Ty) (t t' : TypeId) (x y : Operand) (ho : o.op = .binOp .eql t x y t') (hf : (ty.eqFits P).1 t = true) (hd : ty.deep ≤ 10000) (hg : P.eqGuardType P.depth t = false) (hv : ∀ cs, ty.val cs = .agg cs.toArray)
    {W1 W2 : World} {F1 F2 : Fp} (cs ds : List Value) (d1 d2 : ty.Data) (hx : a.eval x = .agg cs.toArray) (hy : a.eval y = .agg ds.toArray) (h1 : ty.holds W1 F1 cs d1) (h2 : ty.holds W2 F2 ds d2) (b : Bool) (hb : ty.eqv d1 d2 = b) (hk : wpList P ops Q rest (a.put o.dst (.bool b)) w) : wpList P ops Q (o :: rest) a w :=
  wpList_want hgd fun K hK => by
    subst hb
    unfold Oper.wp execOp
    simp only [ho, hx, hy, Sem.run_bind, run_eqGuard w .eql t x y _ _ (.inl rfl) hg, run_eqTy ty t hf hd w W1 W2 F1 F2 cs ds d1 d2 h1 h2 hv, Result.andThen_ok, Sem.run_pure]
    exact hK _ _ hk
theorem wpList_neTy {w : World} {ops : Array Oper} {rest : List Oper} {Q : Exit → Act → World → Prop} (hgd : o.guard = none ∨ Region.wanted o (yielded ops a.tmps) = true) (ty : Ty) (t t' : TypeId) (x y : Operand) (ho : o.op = .binOp .neq t x y t') (hf : (ty.eqFits P).1 t = true) (hd : ty.deep ≤ 10000) (hg : P.eqGuardType P.depth t = false) (hv : ∀ cs, ty.val cs = .agg cs.toArray)
    {W1 W2 : World} {F1 F2 : Fp} (cs ds : List Value) (d1 d2 : ty.Data) (hx : a.eval x = .agg cs.toArray) (hy : a.eval y = .agg ds.toArray) (h1 : ty.holds W1 F1 cs d1) (h2 : ty.holds W2 F2 ds d2) (b : Bool) (hb : (!ty.eqv d1 d2) = b) (hk : wpList P ops Q rest (a.put o.dst (.bool b)) w) : wpList P ops Q (o :: rest) a w :=
  wpList_want hgd fun K hK => by
    subst hb
    unfold Oper.wp execOp
    simp only [ho, hx, hy, Sem.run_bind, run_eqGuard w .neq t x y _ _ (.inr rfl) hg, run_neTy ty t hf hd w W1 W2 F1 F2 cs ds d1 d2 h1 h2 hv, Result.andThen_ok, Sem.run_pure]
    exact hK _ _ hk
end
end
section
open Go.RowKit

def PieceT : Ty := .arr 16 .u8
def SigT : Ty := .st (.pair (.arr 32 PieceT) (.pair (.arr 32 PieceT) .unit))
def DigT4 : Ty := .arr 32 .u8
def zSigC : List Value := bv (List.replicate 1024 0)
def zDigC : List Value := bv (List.replicate 32 0)
theorem agg_cells4 (cs : List Value) : (Value.agg cs.toArray).cells.toList = cs := by simp [Value.cells]
theorem pieces_bytes {w : World} {F : Fp} : ∀ {l : List (List UInt8)} {cs : List Value}, AllH (PieceT.holds w F) cs l → ∃ B : List UInt8, cs = bv B
  | [], _, h => ⟨[], h⟩
  | p :: l, _, h => by
    obtain ⟨c1, c2, rfl, h1, h2⟩ := h
    obtain ⟨B, rfl⟩ := pieces_bytes h2
    exact ⟨p ++ B, by rw [bv_append, AllH.bytes.1 h1.2]⟩
theorem sig_open {w : World} {F : Fp} {cs : List Value} {sg : SigT.Data} (h : SigT.holds w F (Value.agg cs.toArray).cells.toList sg) : ∃ S : List UInt8, cs = bv S ∧ S.length = 1024 := by
  rw [agg_cells4] at h
  have hl := Ty.len SigT h
  obtain ⟨c1, _, rfl, ⟨_, h1⟩, c2, _, rfl, ⟨_, h2⟩, rfl⟩ := h
  obtain ⟨B1, rfl⟩ := pieces_bytes h1
  obtain ⟨B2, rfl⟩ := pieces_bytes h2
  refine ⟨B1 ++ B2, by rw [bv_append, List.append_nil], ?_⟩
  rw [List.append_nil, List.length_append, bv_length, bv_length] at hl
  rw [List.length_append]; exact hl
theorem dig_open {w : World} {F : Fp} {cs : List Value} {d : DigT4.Data} (h : DigT4.holds w F (Value.agg cs.toArray).cells.toList d) : ∃ S : List UInt8, cs = bv S ∧ S.length = 32 := by
  rw [agg_cells4] at h
  exact ⟨d, AllH.bytes.1 h.2, h.1⟩
end
section
open Go.RowKit

def chunks : Nat → List UInt8 → List (List UInt8)
  | 0, _ => []
  | n + 1, B => B.take 16 :: chunks n (B.drop 16)
theorem chunks_length : ∀ n B, (chunks n B).length = n
  | 0, _ => rfl
  | n + 1, B => by rw [chunks, List.length_cons, chunks_length]
theorem chunks_holds {w : World} {F : Fp} : ∀ (n : Nat) (B : List UInt8), B.length = 16 * n → AllH (PieceT.holds w F) (bv B) (chunks n B)
  | 0, B, h => by
    obtain rfl : B = [] := List.eq_nil_of_length_eq_zero (by omega)
    rfl
  | n + 1, B, h => by
    refine ⟨bv (B.take 16), bv (B.drop 16), by rw [← bv_append, List.take_append_drop], ⟨by show (B.take 16).length = 16; rw [List.length_take]; omega, AllH.bytes.2 rfl⟩, chunks_holds n (B.drop 16) (by rw [List.length_drop]; omega)⟩
theorem sig_holds (S : List UInt8) (hS : S.length = 1024) (w : World) (F : Fp) : SigT.holds w F (bv S) (chunks 32 (S.take 512), chunks 32 (S.drop 512), ()) := by
  refine ⟨bv (S.take 512), bv (S.drop 512), by rw [← bv_append, List.take_append_drop], ⟨chunks_length _ _, chunks_holds 32 _ (by rw [List.length_take]; omega)⟩, bv (S.drop 512), [], by rw [List.append_nil], ⟨chunks_length _ _, chunks_holds 32 _ (by rw [List.length_drop]; omega)⟩, rfl⟩
theorem rsig_fits : (SigT.eqFits Try.prog).1 26 = true := by kernel_rfl
theorem rsig_same (S : List UInt8) (hS : S.length = 1024) : (∀ (x y : Operand) (w : World), (eqGuard .eql 26 x y (.agg (bv S).toArray) (.agg (bv S).toArray)).run Try.prog w = .ok () w) ∧ ∀ w, (binOp .eql 26 (.agg (bv S).toArray) (.agg (bv S).toArray)).run Try.prog w = .ok (.bool true) w :=
  ⟨fun x y w => run_eqGuard w .eql 26 x y _ _ (.inl rfl) (by kernel_rfl), fun w => by
    obtain ⟨sg, hsg⟩ : ∃ sg : SigT.Data, ∀ (w : World) (F : Fp), SigT.holds w F (bv S) sg := ⟨_, fun w F => sig_holds S hS w F⟩
    have h := run_eqTy (P := Try.prog) SigT 26 rsig_fits (by decide) w w w (fun _ => False) (fun _ => False) (bv S) (bv S) sg sg (hsg w _) (hsg w _) (fun _ => rfl)
    have e : SigT.eqv sg sg = true := (Ty.eqv_iff SigT rfl sg sg).2 rfl
    rw [e] at h
    exact h⟩
end
end Go.Proofs.Ytpdkmapogncgmaa

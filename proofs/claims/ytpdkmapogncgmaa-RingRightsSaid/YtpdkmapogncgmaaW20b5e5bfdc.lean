/- Walks and plain laws, put together in build order. Conditions: what each of them names. -/
import Derived.SizedLaws
import Derived.Test.YtpdkmapogncgmaaW90086a43ec
set_option linter.unusedVariables false
set_option linter.unusedSimpArgs false
set_option linter.unnecessarySimpa false
namespace Go.Proofs.Ytpdkmapogncgmaa
section
open Go.RowKit

theorem rem_two_u64 (P : Program) (t : TypeId) (m : Nat) (w : World) : (binOp .rem t (.int .u64 (m : Int)) (.int .u64 2)).run P w = .ok (.int .u64 ((m % 2 : Nat) : Int)) w := by
  have h : (m : Int).tmod 2 = ((m % 2 : Nat) : Int) := by rw [Int.tmod_eq_emod_of_nonneg (by omega)]; rfl
  rw [← h]; rfl
theorem quo_two_u64 (P : Program) (t : TypeId) (m : Nat) (h : m < 4294967296) (w : World) : (binOp .quo t (.int .u64 (m : Int)) (.int .u64 2)).run P w = .ok (.int .u64 ((m / 2 : Nat) : Int)) w := by
  have h1 : (m : Int).tdiv 2 = ((m / 2 : Nat) : Int) := by rw [Int.tdiv_eq_ediv_of_nonneg (by omega)]; rfl
  have h2 : IntKind.u64.wrap ((m / 2 : Nat) : Int) = ((m / 2 : Nat) : Int) := by
    simp [IntKind.wrap, IntKind.bits, IntKind.signed]
    omega
  show Sem.run P (Op.intDiv .quo .u64 (m : Int) 2) w = _
  unfold Op.intDiv
  rw [if_neg (by decide)]
  show Sem.run P (pure (Value.int .u64 (IntKind.u64.wrap ((m : Int).tdiv 2)))) w = _
  rw [h1, h2, Sem.run_pure]
theorem eqA_any (D E : List UInt8) (hD : D.length = 32) (hE : E.length = 32) : (∀ (x y : Operand) (w : World), (eqGuard .eql 31 x y (.agg (bv D).toArray) (.agg (bv E).toArray)).run Try.prog w = .ok () w) ∧ ∀ w, (binOp .eql 31 (.agg (bv D).toArray) (.agg (bv E).toArray)).run Try.prog w = .ok (.bool (D == E)) w :=
  ⟨fun x y w => run_eqGuard w .eql 31 x y _ _ (.inl rfl) (by kernel_rfl), fun w => run_eqD w 31 5 32 Try.underlying31 Try.underlying5 (by kernel_rfl) D E hD hE⟩
theorem wpList_bin2V {P : Program} {w : World} {ops : Array Oper} {rest : List Oper} {o : Oper} {a : Act} {Q : Exit → Act → World → Prop} (hgd : o.guard = none ∨ Region.wanted o (yielded ops a.tmps) = true) (op : BinOp) (t : TypeId) {t' : TypeId} (x y : Operand) (ho : o.op = .binOp op t x y t') (u v : Value) {r : Value} (hx : a.eval x = u) (hy : a.eval y = v)
    (hg : (eqGuard op t x y u v).run P w = .ok () w) (hb : (binOp op t u v).run P w = .ok r w) (h : wpList P ops Q rest (a.put o.dst r) w) : wpList P ops Q (o :: rest) a w :=
  wpList_want hgd fun K hK => wp_bin2 op t x y ho u v hx hy hg hb (hK _ _ h)
theorem slice_at {W : World} {ad : Addr} {Y : List UInt8} (hc : Cells W ad (bv Y)) (hl : Y.length = 32) (hb : ad.block < W.heap.size) : (Ty.sl .u8).holds W (fun b => b = ad.block) [.slice (some ad) 32 32] Y ∧ ∀ b, b = ad.block → b < W.heap.size :=
  ⟨⟨_, _, bv Y, by rw [hl], by rw [hl]; exact Nat.le_refl _, by simp [maxLen], by simp, fun _ => ⟨_, rfl, rfl, hc⟩, AllH.bytes.2 rfl⟩, by rintro b rfl; exact hb⟩
set_option maxRecDepth 100000 in
set_option maxHeartbeats 8000000 in
theorem RVerifyBad (S : List UInt8) (hS : S.length = 1024) (keyS : Nat) (A : Option Addr) (n c : Nat) (hnm : n ≤ 1099511627776) (RC D : List Value) (tall : Int) (htall : (Lit.int .i64 tall).wf = true) (key : Nat) (hkey : (Lit.int .u32 (key : Int)).wf = true) (hkeyS : (Lit.int .u32 (keyS : Int)).wf = true) (w : World)
    (hbad : tall < 0 ∨ (n : Int) ≠ tall ∨ keyS ≠ key) :
    Calls Try.prog 12 #[.agg tabsC.toArray, .agg (sigC (bv S) keyS (.slice A n c)).toArray, .agg RC.toArray, .int .i64 tall, .int .u32 (key : Int), .agg D.toArray] w fun e w' => e = .returned (.bool false) ∧ Ext w w' := by
  have hC : (bv S).length = 1024 := by rw [bv_length]; exact hS
  have hsl := sigC_way hC keyS (.slice A n c)
  have hky := sigC_key hC keyS (.slice A n c)
  generalize tabsC = TB at *
  generalize sigC (bv S) keyS (.slice A n c) = SC at *
  obtain ⟨DC, rfl⟩ : ∃ DC, DC = D := ⟨_, rfl⟩
  have hx0 : Ext w ((((w.alloc (.cells TB.toArray 44)).alloc (.cells SC.toArray 30)).alloc (.cells RC.toArray 31)).alloc (.cells DC.toArray 31)) := ((((Ext.refl w).alloc _).alloc _).alloc _).alloc _
  have hb0 : Blk ((((w.alloc (.cells TB.toArray 44)).alloc (.cells SC.toArray 30)).alloc (.cells RC.toArray 31)).alloc (.cells DC.toArray 31)) (w.heap.size + 1) 30 SC := ((Blk.fresh (by simp) _ _).keep ((Ext.refl _).alloc _) (by simp)).keep ((Ext.refl _).alloc _) (by simp)
  have c1025 : ((((w.alloc (.cells TB.toArray 44)).alloc (.cells SC.toArray 30)).alloc (.cells RC.toArray 31)).alloc (.cells DC.toArray 31)).cell? ⟨w.heap.size + 1, 1025, none⟩ = some (.slice A n c) := (hb0.cell 1025).trans hsl
  have c1024 : ((((w.alloc (.cells TB.toArray 44)).alloc (.cells SC.toArray 30)).alloc (.cells RC.toArray 31)).alloc (.cells DC.toArray 31)).cell? ⟨w.heap.size + 1, 1024, none⟩ = some (.int .u32 (keyS : Int)) := (hb0.cell 1024).trans hky
  have HX0 := Lib.hid hx0
  clear hx0 hb0 hsl hky hC hS
  by_cases h1 : tall < 0
  · clear hbad
    go_enter Try.func12, Try.ntmps12
    go_wp2_with fail
    go_ret
    exact ⟨rfl, HX0.out⟩
  obtain ⟨m, rfl⟩ : ∃ m : Nat, tall = m := ⟨tall.toNat, by omega⟩
  by_cases h2 : n = m
  case neg =>
    have h2' : (n : Int) ≠ (m : Int) := by omega
    clear hbad h2
    go_enter Try.func12, Try.ntmps12
    go_wp2_with fail
    go_ret
    exact ⟨rfl, HX0.out⟩
  subst h2
  have h3 : keyS ≠ key := by
    rcases hbad with h | h | h
    · exact absurd h h1
    · exact absurd rfl h
    · exact h
  have h3' : (keyS : Int) ≠ (key : Int) := by omega
  clear hbad h3
  go_enter Try.func12, Try.ntmps12
  go_wp2_with fail
  go_ret
  exact ⟨rfl, HX0.out⟩
set_option maxRecDepth 100000 in
set_option maxHeartbeats 8000000 in
theorem RVerifyGood (S : List UInt8) (hS : S.length = 1024) (key : Nat) (u : Value) (ds : List Dg) (root : Dg) (hroot : List.length (α := UInt8) root = 32) (d : Dg) (hd : List.length (α := UInt8) d = 32) (F : Fp) (w : World)
    (hc : Ways w F u ds) (hF : ∀ b, F b → b < w.heap.size) (hlen : List.length (α := Dg) ds ≤ 1099511627776) (hkey : (Lit.int .u32 (key : Int)).wf = true) :
    Calls Try.prog 12 #[.agg tabsC.toArray, .agg (sigC (bv S) key u).toArray, .agg (bv root).toArray, .int .i64 ((List.length (α := Dg) ds : Nat) : Int), .int .u32 (key : Int), .agg (bv d).toArray] w fun e w' => e = .returned (.bool (decide (key / 2 ^ List.length (α := Dg) ds = 0) && (climbM key (fromS S d) ds (List.length (α := Dg) ds) == root))) ∧ Ext w w' := by
  obtain ⟨A, c, xs, rfl, hlc, hcm, hA, hcell, hall⟩ := ways_open hc
  clear hc
  unfold maxLen at hcm
  have hk32 : key < 4294967296 := by have := bounds_u32 hkey; omega
  have hC : (bv S).length = 1024 := by rw [bv_length]; exact hS
  have hsl := sigC_way hC key (.slice A (List.length (α := Dg) ds) c)
  have hky := sigC_key hC key (.slice A (List.length (α := Dg) ds) c)
  have htk := sigC_take hC key (.slice A (List.length (α := Dg) ds) c)
  have hrf := fun W => RFrom S hS d hd W
  have hrf3 := fun ps hb v W F hp hf => RFor 3 3 rfl ps hb v W F hp hf
  have hts : (Try.prog.info? 44).map (·.size) = some tabsC.length := tabs_size rfl
  have hcm0 := climbM_length key ds (show List.length (α := UInt8) (fromS S d) = 32 from leafOf_length _)
  generalize tabsC = TB at *
  generalize sigC (bv S) key (.slice A (List.length (α := Dg) ds) c) = SC at *
  obtain ⟨Z, hz, hzl⟩ : ∃ Z : List Value, (Try.prog.info? 31).bind (fun i => i.zero.map (·.cells)) = some Z.toArray ∧ Z.length = 32 := ⟨_, arr_zero, by simp⟩
  have hdgl : (bv d).length = 32 := by rw [bv_length]; exact hd
  have hrl : (bv root).length = 32 := by rw [bv_length]; exact hroot
  generalize bv d = DC at *
  obtain ⟨RC, hRC⟩ : ∃ RC, RC = bv root := ⟨_, rfl⟩
  rw [← hRC] at hrl ⊢
  have hx0 : Ext w ((((w.alloc (.cells TB.toArray 44)).alloc (.cells SC.toArray 30)).alloc (.cells RC.toArray 31)).alloc (.cells DC.toArray 31)) := ((((Ext.refl w).alloc _).alloc _).alloc _).alloc _
  have hbt : Blk ((((w.alloc (.cells TB.toArray 44)).alloc (.cells SC.toArray 30)).alloc (.cells RC.toArray 31)).alloc (.cells DC.toArray 31)) w.heap.size 44 TB := (((Blk.new _ _ _).keep ((Ext.refl _).alloc _) (by simp)).keep ((Ext.refl _).alloc _) (by simp)).keep ((Ext.refl _).alloc _) (by simp)
  have hbs : Blk ((((w.alloc (.cells TB.toArray 44)).alloc (.cells SC.toArray 30)).alloc (.cells RC.toArray 31)).alloc (.cells DC.toArray 31)) (w.heap.size + 1) 30 SC := ((Blk.fresh (by simp) _ _).keep ((Ext.refl _).alloc _) (by simp)).keep ((Ext.refl _).alloc _) (by simp)
  have hbr : Blk ((((w.alloc (.cells TB.toArray 44)).alloc (.cells SC.toArray 30)).alloc (.cells RC.toArray 31)).alloc (.cells DC.toArray 31)) (w.heap.size + 2) 31 RC := (Blk.fresh (by simp) _ _).keep ((Ext.refl _).alloc _) (by simp)
  have hbd : Blk ((((w.alloc (.cells TB.toArray 44)).alloc (.cells SC.toArray 30)).alloc (.cells RC.toArray 31)).alloc (.cells DC.toArray 31)) (w.heap.size + 3) 31 DC := Blk.fresh (by simp) _ _
  have c1025 : ((((w.alloc (.cells TB.toArray 44)).alloc (.cells SC.toArray 30)).alloc (.cells RC.toArray 31)).alloc (.cells DC.toArray 31)).cell? ⟨w.heap.size + 1, 1025, none⟩ = some (.slice A (List.length (α := Dg) ds) c) := (hbs.cell 1025).trans hsl
  have c1024 : ((((w.alloc (.cells TB.toArray 44)).alloc (.cells SC.toArray 30)).alloc (.cells RC.toArray 31)).alloc (.cells DC.toArray 31)).cell? ⟨w.heap.size + 1, 1024, none⟩ = some (.int .u32 (key : Int)) := (hbs.cell 1024).trans hky
  have hcs : Cells ((((w.alloc (.cells TB.toArray 44)).alloc (.cells SC.toArray 30)).alloc (.cells RC.toArray 31)).alloc (.cells DC.toArray 31)) ⟨w.heap.size + 1, 0, none⟩ (bv S) := by have h := hbs.cells.take 1024; rw [htk] at h; exact h
  have hcd := hbd.cells
  have hct := hbt.cells
  generalize hFS : fromS S d = FS at *
  have HRF := Lib.hid hrf
  have HRF3 := Lib.hid hrf3
  have HTS := Lib.hid hts
  have HCM := Lib.hid hcm0
  have HX0 := Lib.hid hx0
  have HBT := Lib.hid hbt
  have HBS := Lib.hid hbs
  have HBR := Lib.hid hbr
  have HZL := Lib.hid hzl
  have HCL := Lib.hid hC
  have HRL := Lib.hid hrl
  have HRC := Lib.hid hRC
  have HDG := Lib.hid hdgl
  have HSL := Lib.hid hsl
  have HALL := Lib.hid hall
  have HRT := Lib.hid hroot
  have HCT := Lib.hid hct
  have HCS := Lib.hid hcs
  have HCD := Lib.hid hcd
  clear hrf hrf3 hts hcm0 hx0 hbt hbs hbr hbd hzl hC hrl hRC hdgl hsl hky htk hall hroot hFS hd hct hcs hcd
  generalize hn : List.length (α := Dg) ds = n at *
  generalize bv S = C at *
  have HN := Lib.hid hn
  clear hn
  have hkk : ((key : Int) != (key : Int)) = false := bne_self_eq_false _
  have hnn : ((n : Int) != (n : Int)) = false := bne_self_eq_false _
  go_enter Try.func12, Try.ntmps12
  go_wp2_with (first
    | ((with_reducible refine wpDst 33 rfl ?_); refine wpList_load_agg _ rfl 44 (.tmp 6) rfl _ rfl TB _ Try.underlying44 rfl HTS.out (by exact HCT.out) ?_)
    | ((with_reducible refine wpDst 35 rfl ?_); refine wpList_load_agg _ rfl 26 (.tmp 34) rfl _ rfl C _ Try.underlying26 rfl (rsig_size HCL.out) (by exact HCS.out) ?_)
    | ((with_reducible refine wpDst 36 rfl ?_); refine wpList_load_agg _ rfl 31 (.tmp 11) rfl _ rfl DC _ Try.underlying31 rfl (arr_size HDG.out) (by exact HCD.out) ?_)
    | fail)
  refine (HRF.out _).mono ?_
  rintro e w1 ⟨rfl, hx1⟩
  have hx2 : Ext _ (w1.alloc (.cells (bv FS).toArray 31)) := hx1.alloc _
  have hbt2 := HBT.out.keep hx2 (by simp)
  have hbs2 := HBS.out.keep hx2 (by simp)
  have hbr2 := HBR.out.keep hx2 (by simp)
  have hbx : Blk (w1.alloc (.cells (bv FS).toArray 31)) w1.heap.size 31 (bv FS) := Blk.new _ _ _
  have hxx := HX0.out.trans hx2
  have hfl : (bv FS).length = 32 := by rw [bv_length]; exact HCM.out 0
  have hxg : w.heap.size + 3 < w1.heap.size := by have := hx1.size; simp at this; omega
  have HFL := Lib.hid hfl
  have HBX := Lib.hid hbx
  have HBTb := Lib.hid hbt2
  have HBSb := Lib.hid hbs2
  have HBRb := Lib.hid hbr2
  have HXX := Lib.hid hxx
  clear hx1 hx2 hbt2 hbs2 hbr2 hbx hxx hfl c1024 c1025 HCT HCS HCD HBT HBS HBR HX0 hkk hnn
  go_wp2_with (first
    | ((with_reducible refine wpDst 14 rfl ?_); refine wpList_alloc _ rfl 31 rfl _ hz ?_)
    | ((with_reducible refine wpSto 14 37 rfl ?_); refine wpList_storeN rfl 31 (.tmp 14) (.tmp 37) rfl w1 rfl Z (bv FS) 31 rfl rfl (arr_size HFL.out) (by rw [HFL.out, HZL.out]) (bv_one _) ?_)
    | fail)
  generalize w1.alloc (.cells (bv FS).toArray 31) = w2 at *
  go_loopw [13, 15] (fun at_ i wr => ∃ k : Nat, k ≤ n ∧ i = .int .i64 k ∧ at_ = .int .u64 ((key / 2 ^ k : Nat) : Int) ∧ Ext w wr ∧ Blk wr w1.heap.size 31 (bv (climbM key FS ds k)) ∧ Blk wr (w.heap.size + 1) 30 SC ∧ Blk wr (w.heap.size + 2) 31 RC ∧ Blk wr w.heap.size 44 TB) (fun _ i _ => n - (intOf i).toNat)
  case atStart => exact ⟨0, by omega, rfl, by simp, HXX.out, HBX.out, HBSb.out, HBRb.out, HBTb.out⟩
  case round =>
    clear HXX HBX HBSb HBRb HBTb
    obtain ⟨k, hk, rfl, rfl, hx, hbx, hbs, hbr, hbt⟩ := hrel
    have cw := (hbs.cell 1025).trans HSL.out
    have hm1 : key / 2 ^ k < 4294967296 := Nat.lt_of_le_of_lt (Nat.div_le_self _ _) hk32
    by_cases hlt : k < n
    · obtain ⟨ad, rfl, hf, hcells⟩ := hcell (by omega)
      have hkl : k < List.length (α := Dg) ds := by rw [HN.out]; exact hlt
      obtain ⟨hcc, hdl⟩ := digs_at HALL.out (hcells.keep (hx.same hF _ hf)) hkl
      have hadl : ad.block < wr.heap.size := Nat.lt_of_lt_of_le (hF _ hf) hx.size
      have hst : climbM key FS ds (k + 1) = if key / 2 ^ k % 2 = 1 then aboveM ds[k] (climbM key FS ds k) else aboveM (climbM key FS ds k) ds[k] := by
        rw [climbM, show ds.getD k [] = ds[k] by simp [List.getD, hkl]]
      have hxl := HCM.out k
      have hm2 : key / 2 ^ (k + 1) = key / 2 ^ k / 2 := by rw [Nat.pow_succ, Nat.div_div_eq_div_mul]
      obtain ⟨X1, hX1e⟩ : ∃ X1, X1 = climbM key FS ds (k + 1) := ⟨_, rfl⟩
      rw [← hX1e] at hst
      generalize climbM key FS ds k = X at *
      generalize ds[k] = Y at *
      obtain ⟨m2, hm2e⟩ : ∃ m2, m2 = key / 2 ^ (k + 1) := ⟨_, rfl⟩
      rw [← hm2e] at hm2
      generalize key / 2 ^ k = m at *
      have hrem := fun P t W => rem_two_u64 P t m W
      have hquo := fun P t W => quo_two_u64 P t m hm1 W
      have hyl : (bv Y).length = 32 := by rw [bv_length]; exact hdl
      have hxxl : (bv X).length = 32 := by rw [bv_length]; exact hxl
      have hx1l : (bv X1).length = 32 := by
        rw [bv_length, hst]
        split <;> exact aboveM_length _ _
      have hx1o := bv_one X1
      have hsx : ∀ W, Ext wr.drew W → (Ty.sl .u8).holds W (fun b => b = w1.heap.size) [.slice (some ⟨w1.heap.size, 0, none⟩) 32 32] X ∧ ∀ b, b = w1.heap.size → b < W.heap.size := fun W hX => blk_slice ((hbx.keep (Ext.refl wr).drew (by simp)).keep hX (by simp)) hxl (by simp [maxLen])
      have hsy : ∀ W, Ext wr.drew W → (Ty.sl .u8).holds W (fun b => b = ad.block) [.slice (some (ad.add (k * 32))) 32 32] Y ∧ ∀ b, b = ad.block → b < W.heap.size := fun W hX => by
        have h := slice_at (hcc.keep (((Ext.refl wr).drew.trans hX).block _ (by rw [add_block]; exact hadl) (by simp))) hdl (by rw [add_block]; exact Nat.lt_of_lt_of_le hadl ((Ext.refl wr).drew.trans hX).size)
        rw [add_block] at h
        exact h
      obtain ⟨X1C, hX1C⟩ : ∃ X1C, X1C = bv X1 := ⟨_, rfl⟩
      rw [← hX1C] at hx1l hx1o
      obtain ⟨XC, hXC⟩ : ∃ XC, XC = bv X := ⟨_, rfl⟩
      rw [← hXC] at hxxl hbx
      have HX1E := Lib.hid hX1e
      have HM2E := Lib.hid hm2e
      have HREM := Lib.hid hrem
      have HQUO := Lib.hid hquo
      have HM2 := Lib.hid hm2
      have HST := Lib.hid hst
      have HXL := Lib.hid hxxl
      have HYL := Lib.hid hyl
      have HX1L := Lib.hid hx1l
      have HX1O := Lib.hid hx1o
      have HX1C := Lib.hid hX1C
      have HXD := Lib.hid hxl
      have HYD := Lib.hid hdl
      have HSX := Lib.hid hsx
      have HSY := Lib.hid hsy
      have HX := Lib.hid hx.drew
      have HBX : Hid (Blk wr.drew w1.heap.size 31 XC) := Lib.hid (hbx.keep (Ext.refl wr).drew (by simp))
      have HBS2 : Hid (Blk wr.drew (w.heap.size + 1) 30 SC) := Lib.hid (hbs.keep (Ext.refl wr).drew (by simp))
      have HBR2 : Hid (Blk wr.drew (w.heap.size + 2) 31 RC) := Lib.hid (hbr.keep (Ext.refl wr).drew (by simp))
      have HBT2 : Hid (Blk wr.drew w.heap.size 44 TB) := Lib.hid (hbt.keep (Ext.refl wr).drew (by simp))
      clear hX1e hm2e hrem hquo hm2 hst hxxl hyl hx1l hx1o hX1C hXC hxl hdl hsx hsy hx hbx hbs hbr hbt hcc hcells
      obtain hm | hm : m % 2 = 1 ∨ m % 2 = 0 := by omega
      · rw [hm] at HREM
        rw [if_pos hm] at HST
        go_wp2_with (first
          | ((with_reducible refine wpDst 46 rfl ?_); refine wpList_bin2 rfl .rem 69 (.tmp 45) _ rfl (.int .u64 (m : Int)) (.int .u64 2) rfl rfl rfl (HREM.out _ _ _) ?_)
          | fail)
        have hfor : ∀ v W F, (Ty.sl (.sl .u8)).holds W F [v] [Y, X] → (∀ b, F b → b < W.heap.size) → Calls Try.prog 40 #[.agg TB.toArray, .int .u8 3, v] W fun e w' => e = .returned (.agg X1C.toArray) ∧ Ext W w' := fun v W F hp hf => by
          have h := HRF3.out [Y, X] (by have h1 := HXD.out; have h2 := HYD.out; simp [blob, be_length, h1, h2]) v W F hp hf
          rw [HX1C.out, HST.out]
          exact h
        have HFOR := Lib.hid hfor
        clear hfor
        refine stab_store Ext ext_refl ext_trans [[0], [1], [1, 2], [3], [1, 2, 3, 4], [1, 2, 3, 4, 5], [6], [1, 2, 3, 4, 5, 6, 7], [0, 1, 2, 3, 4, 5, 6, 7, 8], [0, 1, 2, 3, 4, 5, 6, 7, 8, 9]] (fun i v wv => match i with | 0 => v = .agg TB.toArray | 1 => v = .pointer (some ⟨w.heap.size + 1, 1025, none⟩) | 2 => v = .slice (some ad) n c | 3 => v = .int .i64 (k : Int) | 4 => v = .pointer (some (ad.add (k * 32))) | 5 => v = .slice (some (ad.add (k * 32))) 32 32 | 6 => v = .slice (some ⟨w1.heap.size, 0, none⟩) 32 32 | 7 => ∃ F, (Ty.sl (.sl .u8)).holds wv F [v] [Y, X] ∧ ∀ b, F b → b < wv.heap.size | 8 => v = .agg X1C.toArray | _ => True) (by kernel_rfl) (by kernel_rfl) (by kernel_rfl) (by kernel_rfl) (by simp) ?_ ?_ ?_
        · intro i v w1 w2 h hx
          match i, h with
          | 0, h => exact h
          | 1, h => exact h
          | 2, h => exact h
          | 3, h => exact h
          | 4, h => exact h
          | 5, h => exact h
          | 6, h => exact h
          | 7, h =>
            replace h : ∃ F, (Ty.sl (.sl .u8)).holds w1 F [v] [Y, X] ∧ ∀ b, F b → b < w1.heap.size := h
            show ∃ F, (Ty.sl (.sl .u8)).holds w2 F [v] [Y, X] ∧ ∀ b, F b → b < w2.heap.size
            obtain ⟨F, h1, h2⟩ := h
            exact ⟨F, hx.holds h2 h1, fun b hb => Nat.lt_of_lt_of_le (h2 b hb) hx.size⟩
          | 8, h => exact h
          | i + 9, h => trivial
        · intro i hi o ho
          match i, hi, ho with
          | 0, _, ho =>
            obtain rfl := Option.some.inj ho
            intro s W hX hd K hK
            rw [if_pos (wanted_plain rfl)]
            clear hd
            replace hK : ∀ (v : Value) (W' : World), Ext W W' → (v = .agg TB.toArray) → _ := hK
            simp only [mkOf, List.map_cons, List.map_nil, Act.put, List.setIfInBounds_toArray, List.set_cons_succ, List.set_cons_zero, Nat.reduceAdd, Nat.zero_add] at hK ⊢
            refine wp_load_agg 44 (.tmp 6) rfl _ rfl TB _ Try.underlying44 rfl HTS.out (HBT2.out.keep hX (by simp)).cells ?_
            exact hK _ _ (Ext.refl _) rfl
          | 1, _, ho =>
            obtain rfl := Option.some.inj ho
            intro s W hX hd K hK
            rw [if_pos (wanted_plain rfl)]
            clear hd
            replace hK : ∀ (v : Value) (W' : World), Ext W W' → (v = .pointer (some ⟨w.heap.size + 1, 1025, none⟩)) → _ := hK
            simp only [mkOf, List.map_cons, List.map_nil, Act.put, List.setIfInBounds_toArray, List.set_cons_succ, List.set_cons_zero, Nat.reduceAdd, Nat.zero_add] at hK ⊢
            go_simp
            exact hK _ _ (Ext.refl _) rfl
          | 2, _, ho =>
            obtain rfl := Option.some.inj ho
            intro s W hX hd K hK
            rw [if_pos (wanted_plain rfl)]
            have d58 : (s 1) = .pointer (some ⟨w.heap.size + 1, 1025, none⟩) := hd 1 (by decide) (by decide)
            clear hd
            replace hK : ∀ (v : Value) (W' : World), Ext W W' → (v = .slice (some ad) n c) → _ := hK
            simp only [mkOf, List.map_cons, List.map_nil, Act.put, List.setIfInBounds_toArray, List.set_cons_succ, List.set_cons_zero, Nat.reduceAdd, Nat.zero_add] at hK ⊢
            simp only [d58] at hK ⊢
            have c25 := (HBS2.out.keep hX (by simp)).cell 1025
            rw [HSL.out] at c25
            go_simp
            exact hK _ _ (Ext.refl _) rfl
          | 3, _, ho =>
            obtain rfl := Option.some.inj ho
            intro s W hX hd K hK
            rw [if_pos (wanted_plain rfl)]
            clear hd
            replace hK : ∀ (v : Value) (W' : World), Ext W W' → (v = .int .i64 (k : Int)) → _ := hK
            simp only [mkOf, List.map_cons, List.map_nil, Act.put, List.setIfInBounds_toArray, List.set_cons_succ, List.set_cons_zero, Nat.reduceAdd, Nat.zero_add] at hK ⊢
            go_simp
            exact hK _ _ (Ext.refl _) rfl
          | 4, _, ho =>
            obtain rfl := Option.some.inj ho
            intro s W hX hd K hK
            rw [if_pos (wanted_plain rfl)]
            have d59 : (s 2) = .slice (some ad) n c := hd 2 (by decide) (by decide)
            have d60 : (s 3) = .int .i64 (k : Int) := hd 3 (by decide) (by decide)
            clear hd
            replace hK : ∀ (v : Value) (W' : World), Ext W W' → (v = .pointer (some (ad.add (k * 32)))) → _ := hK
            simp only [mkOf, List.map_cons, List.map_nil, Act.put, List.setIfInBounds_toArray, List.set_cons_succ, List.set_cons_zero, Nat.reduceAdd, Nat.zero_add] at hK ⊢
            simp only [d59, d60] at hK ⊢
            go_simp
            exact hK _ _ (Ext.refl _) rfl
          | 5, _, ho =>
            obtain rfl := Option.some.inj ho
            intro s W hX hd K hK
            rw [if_pos (wanted_plain rfl)]
            have d61 : (s 4) = .pointer (some (ad.add (k * 32))) := hd 4 (by decide) (by decide)
            clear hd
            replace hK : ∀ (v : Value) (W' : World), Ext W W' → (v = .slice (some (ad.add (k * 32))) 32 32) → _ := hK
            simp only [mkOf, List.map_cons, List.map_nil, Act.put, List.setIfInBounds_toArray, List.set_cons_succ, List.set_cons_zero, Nat.reduceAdd, Nat.zero_add] at hK ⊢
            simp only [d61] at hK ⊢
            go_simp
            exact hK _ _ (Ext.refl _) rfl
          | 6, _, ho =>
            obtain rfl := Option.some.inj ho
            intro s W hX hd K hK
            rw [if_pos (wanted_plain rfl)]
            clear hd
            replace hK : ∀ (v : Value) (W' : World), Ext W W' → (v = .slice (some ⟨w1.heap.size, 0, none⟩) 32 32) → _ := hK
            simp only [mkOf, List.map_cons, List.map_nil, Act.put, List.setIfInBounds_toArray, List.set_cons_succ, List.set_cons_zero, Nat.reduceAdd, Nat.zero_add] at hK ⊢
            go_simp
            exact hK _ _ (Ext.refl _) rfl
          | 7, _, ho =>
            obtain rfl := Option.some.inj ho
            intro s W hX hd K hK
            rw [if_pos (wanted_plain rfl)]
            have d62 : (s 5) = .slice (some (ad.add (k * 32))) 32 32 := hd 5 (by decide) (by decide)
            have d63 : (s 6) = .slice (some ⟨w1.heap.size, 0, none⟩) 32 32 := hd 6 (by decide) (by decide)
            clear hd
            replace hK : ∀ (v : Value) (W' : World), Ext W W' → (∃ F, (Ty.sl (.sl .u8)).holds W' F [v] [Y, X] ∧ ∀ b, F b → b < W'.heap.size) → _ := hK
            simp only [mkOf, List.map_cons, List.map_nil, Act.put, List.setIfInBounds_toArray, List.set_cons_succ, List.set_cons_zero, Nat.reduceAdd, Nat.zero_add] at hK ⊢
            simp only [d62, d63] at hK ⊢
            have h1 := HSY.out W hX
            have h2 := HSX.out W hX
            go_simp
            exact hK _ _ ((Ext.refl _).alloc _) (two_parts h1.1 h1.2 h2.1 h2.2)
          | 8, _, ho =>
            obtain rfl := Option.some.inj ho
            intro s W hX hd K hK
            rw [if_pos (wanted_plain rfl)]
            have d57 : (s 0) = .agg TB.toArray := hd 0 (by decide) (by decide)
            have d64 : ∃ F, (Ty.sl (.sl .u8)).holds W F [(s 7)] [Y, X] ∧ ∀ b, F b → b < W.heap.size := hd 7 (by decide) (by decide)
            clear hd
            replace hK : ∀ (v : Value) (W' : World), Ext W W' → (v = .agg X1C.toArray) → _ := hK
            simp only [mkOf, List.map_cons, List.map_nil, Act.put, List.setIfInBounds_toArray, List.set_cons_succ, List.set_cons_zero, Nat.reduceAdd, Nat.zero_add] at hK ⊢
            simp only [d57] at hK ⊢
            obtain ⟨F, h1, h2⟩ := d64
            go_simp
            refine (HFOR.out _ W F h1 h2).mono ?_
            rintro e w' ⟨rfl, hx⟩
            exact hK _ _ hx rfl
          | i + 9, hi, _ => exact absurd hi (by simp)
        · intro o ho
          obtain rfl := Option.some.inj ho
          intro s W hX hd K hK
          rw [if_pos (wanted_plain rfl)]
          have d57 : (s 0) = .agg TB.toArray := hd 0 (by decide)
          have d58 : (s 1) = .pointer (some ⟨w.heap.size + 1, 1025, none⟩) := hd 1 (by decide)
          have d59 : (s 2) = .slice (some ad) n c := hd 2 (by decide)
          have d60 : (s 3) = .int .i64 (k : Int) := hd 3 (by decide)
          have d61 : (s 4) = .pointer (some (ad.add (k * 32))) := hd 4 (by decide)
          have d62 : (s 5) = .slice (some (ad.add (k * 32))) 32 32 := hd 5 (by decide)
          have d63 : (s 6) = .slice (some ⟨w1.heap.size, 0, none⟩) 32 32 := hd 6 (by decide)
          have d64 : ∃ F, (Ty.sl (.sl .u8)).holds W F [(s 7)] [Y, X] ∧ ∀ b, F b → b < W.heap.size := hd 7 (by decide)
          have d65 : (s 8) = .agg X1C.toArray := hd 8 (by decide)
          clear hd
          simp only [mkOf, List.map_cons, List.map_nil, Act.put, List.setIfInBounds_toArray, List.set_cons_succ, List.set_cons_zero, Nat.reduceAdd, Nat.zero_add]
          have hB := HBX.out.keep hX (by simp)
          refine wp_store_row 31 (.tmp 14) (.tmp 65) rfl w1.heap.size (by simp [Act.eval]) XC X1C _ (by simpa [Act.eval] using d65) hB (arr_size HX1L.out) (by rw [HX1L.out, HXL.out]) HX1O.out ?_
          refine hK _ _ ?_
          have hx6 : Ext w (W.setRow w1.heap.size X1C.toArray) := setRow_grown (HX.out.trans hX) _ _ (by omega)
          have hbx6 : Blk (W.setRow w1.heap.size X1C.toArray) w1.heap.size 31 X1C := setRow_at hB
          have hbs6 := (HBS2.out.keep hX (by simp)).keep (setRow_only (g := w1.heap.size) X1C.toArray) (by simp; omega)
          have hbr6 := (HBR2.out.keep hX (by simp)).keep (setRow_only (g := w1.heap.size) X1C.toArray) (by simp; omega)
          have hbt6 := (HBT2.out.keep hX (by simp)).keep (setRow_only (g := w1.heap.size) X1C.toArray) (by simp; omega)
          have HX6 := Lib.hid hx6
          have HBX6 := Lib.hid hbx6
          have HBS6 := Lib.hid hbs6
          have HBR6 := Lib.hid hbr6
          have HBT6 := Lib.hid hbt6
          clear hK hX hB hx6 hbx6 hbs6 hbr6 hbt6
          (try simp only [Exit.inBlock, Exit.then])
          go_wp2_with (first
            | ((with_reducible refine wpDst 67 rfl ?_); refine wpList_bin2 rfl .quo 69 (.tmp 66) _ rfl (.int .u64 (m : Int)) (.int .u64 2) rfl rfl rfl (HQUO.out _ _ _) ?_)
            | fail)
          go_roundw
          case rel => exact ⟨k + 1, by omega, by go_num, by rw [← HM2E.out, HM2.out]; rfl, HX6.out, (by rw [← HX1E.out, ← HX1C.out]; exact HBX6.out), HBS6.out, HBR6.out, HBT6.out⟩
          case measure => simp [intOf]; omega
      · rw [hm] at HREM
        rw [if_neg (by omega)] at HST
        go_wp2_with (first
          | ((with_reducible refine wpDst 46 rfl ?_); refine wpList_bin2 rfl .rem 69 (.tmp 45) _ rfl (.int .u64 (m : Int)) (.int .u64 2) rfl rfl rfl (HREM.out _ _ _) ?_)
          | fail)
        have hfor : ∀ v W F, (Ty.sl (.sl .u8)).holds W F [v] [X, Y] → (∀ b, F b → b < W.heap.size) → Calls Try.prog 40 #[.agg TB.toArray, .int .u8 3, v] W fun e w' => e = .returned (.agg X1C.toArray) ∧ Ext W w' := fun v W F hp hf => by
          have h := HRF3.out [X, Y] (by have h1 := HXD.out; have h2 := HYD.out; simp [blob, be_length, h1, h2]) v W F hp hf
          rw [HX1C.out, HST.out]
          exact h
        have HFOR := Lib.hid hfor
        clear hfor
        refine stab_store Ext ext_refl ext_trans [[0], [1], [2], [2, 3], [4], [2, 3, 4, 5], [2, 3, 4, 5, 6], [1, 2, 3, 4, 5, 6, 7], [0, 1, 2, 3, 4, 5, 6, 7, 8], [0, 1, 2, 3, 4, 5, 6, 7, 8, 9]] (fun i v wv => match i with | 0 => v = .agg TB.toArray | 1 => v = .slice (some ⟨w1.heap.size, 0, none⟩) 32 32 | 2 => v = .pointer (some ⟨w.heap.size + 1, 1025, none⟩) | 3 => v = .slice (some ad) n c | 4 => v = .int .i64 (k : Int) | 5 => v = .pointer (some (ad.add (k * 32))) | 6 => v = .slice (some (ad.add (k * 32))) 32 32 | 7 => ∃ F, (Ty.sl (.sl .u8)).holds wv F [v] [X, Y] ∧ ∀ b, F b → b < wv.heap.size | 8 => v = .agg X1C.toArray | _ => True) (by kernel_rfl) (by kernel_rfl) (by kernel_rfl) (by kernel_rfl) (by simp) ?_ ?_ ?_
        · intro i v w1 w2 h hx
          match i, h with
          | 0, h => exact h
          | 1, h => exact h
          | 2, h => exact h
          | 3, h => exact h
          | 4, h => exact h
          | 5, h => exact h
          | 6, h => exact h
          | 7, h =>
            replace h : ∃ F, (Ty.sl (.sl .u8)).holds w1 F [v] [X, Y] ∧ ∀ b, F b → b < w1.heap.size := h
            show ∃ F, (Ty.sl (.sl .u8)).holds w2 F [v] [X, Y] ∧ ∀ b, F b → b < w2.heap.size
            obtain ⟨F, h1, h2⟩ := h
            exact ⟨F, hx.holds h2 h1, fun b hb => Nat.lt_of_lt_of_le (h2 b hb) hx.size⟩
          | 8, h => exact h
          | i + 9, h => trivial
        · intro i hi o ho
          match i, hi, ho with
          | 0, _, ho =>
            obtain rfl := Option.some.inj ho
            intro s W hX hd K hK
            rw [if_pos (wanted_plain rfl)]
            clear hd
            replace hK : ∀ (v : Value) (W' : World), Ext W W' → (v = .agg TB.toArray) → _ := hK
            simp only [mkOf, List.map_cons, List.map_nil, Act.put, List.setIfInBounds_toArray, List.set_cons_succ, List.set_cons_zero, Nat.reduceAdd, Nat.zero_add] at hK ⊢
            refine wp_load_agg 44 (.tmp 6) rfl _ rfl TB _ Try.underlying44 rfl HTS.out (HBT2.out.keep hX (by simp)).cells ?_
            exact hK _ _ (Ext.refl _) rfl
          | 1, _, ho =>
            obtain rfl := Option.some.inj ho
            intro s W hX hd K hK
            rw [if_pos (wanted_plain rfl)]
            clear hd
            replace hK : ∀ (v : Value) (W' : World), Ext W W' → (v = .slice (some ⟨w1.heap.size, 0, none⟩) 32 32) → _ := hK
            simp only [mkOf, List.map_cons, List.map_nil, Act.put, List.setIfInBounds_toArray, List.set_cons_succ, List.set_cons_zero, Nat.reduceAdd, Nat.zero_add] at hK ⊢
            go_simp
            exact hK _ _ (Ext.refl _) rfl
          | 2, _, ho =>
            obtain rfl := Option.some.inj ho
            intro s W hX hd K hK
            rw [if_pos (wanted_plain rfl)]
            clear hd
            replace hK : ∀ (v : Value) (W' : World), Ext W W' → (v = .pointer (some ⟨w.heap.size + 1, 1025, none⟩)) → _ := hK
            simp only [mkOf, List.map_cons, List.map_nil, Act.put, List.setIfInBounds_toArray, List.set_cons_succ, List.set_cons_zero, Nat.reduceAdd, Nat.zero_add] at hK ⊢
            go_simp
            exact hK _ _ (Ext.refl _) rfl
          | 3, _, ho =>
            obtain rfl := Option.some.inj ho
            intro s W hX hd K hK
            rw [if_pos (wanted_plain rfl)]
            have d50 : (s 2) = .pointer (some ⟨w.heap.size + 1, 1025, none⟩) := hd 2 (by decide) (by decide)
            clear hd
            replace hK : ∀ (v : Value) (W' : World), Ext W W' → (v = .slice (some ad) n c) → _ := hK
            simp only [mkOf, List.map_cons, List.map_nil, Act.put, List.setIfInBounds_toArray, List.set_cons_succ, List.set_cons_zero, Nat.reduceAdd, Nat.zero_add] at hK ⊢
            simp only [d50] at hK ⊢
            have c25 := (HBS2.out.keep hX (by simp)).cell 1025
            rw [HSL.out] at c25
            go_simp
            exact hK _ _ (Ext.refl _) rfl
          | 4, _, ho =>
            obtain rfl := Option.some.inj ho
            intro s W hX hd K hK
            rw [if_pos (wanted_plain rfl)]
            clear hd
            replace hK : ∀ (v : Value) (W' : World), Ext W W' → (v = .int .i64 (k : Int)) → _ := hK
            simp only [mkOf, List.map_cons, List.map_nil, Act.put, List.setIfInBounds_toArray, List.set_cons_succ, List.set_cons_zero, Nat.reduceAdd, Nat.zero_add] at hK ⊢
            go_simp
            exact hK _ _ (Ext.refl _) rfl
          | 5, _, ho =>
            obtain rfl := Option.some.inj ho
            intro s W hX hd K hK
            rw [if_pos (wanted_plain rfl)]
            have d51 : (s 3) = .slice (some ad) n c := hd 3 (by decide) (by decide)
            have d52 : (s 4) = .int .i64 (k : Int) := hd 4 (by decide) (by decide)
            clear hd
            replace hK : ∀ (v : Value) (W' : World), Ext W W' → (v = .pointer (some (ad.add (k * 32)))) → _ := hK
            simp only [mkOf, List.map_cons, List.map_nil, Act.put, List.setIfInBounds_toArray, List.set_cons_succ, List.set_cons_zero, Nat.reduceAdd, Nat.zero_add] at hK ⊢
            simp only [d51, d52] at hK ⊢
            go_simp
            exact hK _ _ (Ext.refl _) rfl
          | 6, _, ho =>
            obtain rfl := Option.some.inj ho
            intro s W hX hd K hK
            rw [if_pos (wanted_plain rfl)]
            have d53 : (s 5) = .pointer (some (ad.add (k * 32))) := hd 5 (by decide) (by decide)
            clear hd
            replace hK : ∀ (v : Value) (W' : World), Ext W W' → (v = .slice (some (ad.add (k * 32))) 32 32) → _ := hK
            simp only [mkOf, List.map_cons, List.map_nil, Act.put, List.setIfInBounds_toArray, List.set_cons_succ, List.set_cons_zero, Nat.reduceAdd, Nat.zero_add] at hK ⊢
            simp only [d53] at hK ⊢
            go_simp
            exact hK _ _ (Ext.refl _) rfl
          | 7, _, ho =>
            obtain rfl := Option.some.inj ho
            intro s W hX hd K hK
            rw [if_pos (wanted_plain rfl)]
            have d49 : (s 1) = .slice (some ⟨w1.heap.size, 0, none⟩) 32 32 := hd 1 (by decide) (by decide)
            have d54 : (s 6) = .slice (some (ad.add (k * 32))) 32 32 := hd 6 (by decide) (by decide)
            clear hd
            replace hK : ∀ (v : Value) (W' : World), Ext W W' → (∃ F, (Ty.sl (.sl .u8)).holds W' F [v] [X, Y] ∧ ∀ b, F b → b < W'.heap.size) → _ := hK
            simp only [mkOf, List.map_cons, List.map_nil, Act.put, List.setIfInBounds_toArray, List.set_cons_succ, List.set_cons_zero, Nat.reduceAdd, Nat.zero_add] at hK ⊢
            simp only [d49, d54] at hK ⊢
            have h1 := HSX.out W hX
            have h2 := HSY.out W hX
            go_simp
            exact hK _ _ ((Ext.refl _).alloc _) (two_parts h1.1 h1.2 h2.1 h2.2)
          | 8, _, ho =>
            obtain rfl := Option.some.inj ho
            intro s W hX hd K hK
            rw [if_pos (wanted_plain rfl)]
            have d48 : (s 0) = .agg TB.toArray := hd 0 (by decide) (by decide)
            have d55 : ∃ F, (Ty.sl (.sl .u8)).holds W F [(s 7)] [X, Y] ∧ ∀ b, F b → b < W.heap.size := hd 7 (by decide) (by decide)
            clear hd
            replace hK : ∀ (v : Value) (W' : World), Ext W W' → (v = .agg X1C.toArray) → _ := hK
            simp only [mkOf, List.map_cons, List.map_nil, Act.put, List.setIfInBounds_toArray, List.set_cons_succ, List.set_cons_zero, Nat.reduceAdd, Nat.zero_add] at hK ⊢
            simp only [d48] at hK ⊢
            obtain ⟨F, h1, h2⟩ := d55
            go_simp
            refine (HFOR.out _ W F h1 h2).mono ?_
            rintro e w' ⟨rfl, hx⟩
            exact hK _ _ hx rfl
          | i + 9, hi, _ => exact absurd hi (by simp)
        · intro o ho
          obtain rfl := Option.some.inj ho
          intro s W hX hd K hK
          rw [if_pos (wanted_plain rfl)]
          have d48 : (s 0) = .agg TB.toArray := hd 0 (by decide)
          have d49 : (s 1) = .slice (some ⟨w1.heap.size, 0, none⟩) 32 32 := hd 1 (by decide)
          have d50 : (s 2) = .pointer (some ⟨w.heap.size + 1, 1025, none⟩) := hd 2 (by decide)
          have d51 : (s 3) = .slice (some ad) n c := hd 3 (by decide)
          have d52 : (s 4) = .int .i64 (k : Int) := hd 4 (by decide)
          have d53 : (s 5) = .pointer (some (ad.add (k * 32))) := hd 5 (by decide)
          have d54 : (s 6) = .slice (some (ad.add (k * 32))) 32 32 := hd 6 (by decide)
          have d55 : ∃ F, (Ty.sl (.sl .u8)).holds W F [(s 7)] [X, Y] ∧ ∀ b, F b → b < W.heap.size := hd 7 (by decide)
          have d56 : (s 8) = .agg X1C.toArray := hd 8 (by decide)
          clear hd
          simp only [mkOf, List.map_cons, List.map_nil, Act.put, List.setIfInBounds_toArray, List.set_cons_succ, List.set_cons_zero, Nat.reduceAdd, Nat.zero_add]
          have hB := HBX.out.keep hX (by simp)
          refine wp_store_row 31 (.tmp 14) (.tmp 56) rfl w1.heap.size (by simp [Act.eval]) XC X1C _ (by simpa [Act.eval] using d56) hB (arr_size HX1L.out) (by rw [HX1L.out, HXL.out]) HX1O.out ?_
          refine hK _ _ ?_
          have hx6 : Ext w (W.setRow w1.heap.size X1C.toArray) := setRow_grown (HX.out.trans hX) _ _ (by omega)
          have hbx6 : Blk (W.setRow w1.heap.size X1C.toArray) w1.heap.size 31 X1C := setRow_at hB
          have hbs6 := (HBS2.out.keep hX (by simp)).keep (setRow_only (g := w1.heap.size) X1C.toArray) (by simp; omega)
          have hbr6 := (HBR2.out.keep hX (by simp)).keep (setRow_only (g := w1.heap.size) X1C.toArray) (by simp; omega)
          have hbt6 := (HBT2.out.keep hX (by simp)).keep (setRow_only (g := w1.heap.size) X1C.toArray) (by simp; omega)
          have HX6 := Lib.hid hx6
          have HBX6 := Lib.hid hbx6
          have HBS6 := Lib.hid hbs6
          have HBR6 := Lib.hid hbr6
          have HBT6 := Lib.hid hbt6
          clear hK hX hB hx6 hbx6 hbs6 hbr6 hbt6
          (try simp only [Exit.inBlock, Exit.then])
          go_wp2_with (first
            | ((with_reducible refine wpDst 67 rfl ?_); refine wpList_bin2 rfl .quo 69 (.tmp 66) _ rfl (.int .u64 (m : Int)) (.int .u64 2) rfl rfl rfl (HQUO.out _ _ _) ?_)
            | fail)
          go_roundw
          case rel => exact ⟨k + 1, by omega, by go_num, by rw [← HM2E.out, HM2.out]; rfl, HX6.out, (by rw [← HX1E.out, ← HX1C.out]; exact HBX6.out), HBS6.out, HBR6.out, HBT6.out⟩
          case measure => simp [intOf]; omega
    · obtain rfl : k = n := by omega
      have hxl : (bv (climbM key FS ds k)).length = 32 := by rw [bv_length]; exact HCM.out k
      have heq := eqA_any (climbM key FS ds k) root (HCM.out k) HRT.out
      have hcx := hbx.cells
      have hcr := hbr.cells
      obtain ⟨X, hXe⟩ : ∃ X, X = climbM key FS ds k := ⟨_, rfl⟩
      rw [← hXe] at hcx hxl heq
      rw [← HRC.out] at heq
      have HXE := Lib.hid hXe
      have HXF := Lib.hid hx
      have HXL := Lib.hid hxl
      have HCX := Lib.hid hcx
      have HCR := Lib.hid hcr
      have HEQ := Lib.hid heq
      obtain ⟨m, hme⟩ : ∃ m, m = key / 2 ^ k := ⟨_, rfl⟩
      rw [← hme]
      have HME := Lib.hid hme
      clear hXe hx hxl hcx hcr heq hbx hbr hbs hbt hme hm1
      obtain rfl | hm0 : m = 0 ∨ 0 < m := by omega
      · rw [show ((0 : Nat) : Int) = 0 from rfl]
        go_wp2_with (first
          | ((with_reducible refine wpDst 71 rfl ?_); refine wpList_loadG (.inr (by kernel_rfl)) 31 (.tmp 14) rfl _ rfl (bv X) _ Try.underlying31 rfl (arr_size HXL.out) (by exact HCX.out) ?_)
          | ((with_reducible refine wpDst 72 rfl ?_); refine wpList_loadG (.inr (by kernel_rfl)) 31 (.tmp 8) rfl _ rfl RC _ Try.underlying31 rfl (arr_size HRL.out) (by exact HCR.out) ?_)
          | ((with_reducible refine wpDst 73 rfl ?_); refine wpList_bin2V (.inr (by kernel_rfl)) .eql 31 (.tmp 71) (.tmp 72) rfl _ _ rfl rfl (HEQ.out.1 _ _ _) (HEQ.out.2 _) ?_)
          | fail)
        go_ret
        exact ⟨by rw [← HME.out, HXE.out]; rfl, HXF.out⟩
      · have hm0' : (m : Int) ≠ 0 := by omega
        go_wp2_with fail
        go_ret
        have hd : decide (m = 0) = false := decide_eq_false (by omega)
        exact ⟨by rw [← HME.out, hd]; rfl, HXF.out⟩
theorem RVerify (S : List UInt8) (hS : S.length = 1024) (keyS : Nat) (u : Value) (ds : List Dg) (root : Dg) (hroot : List.length (α := UInt8) root = 32) (d : Dg) (hd : List.length (α := UInt8) d = 32) (F : Fp) (w : World)
    (hc : Ways w F u ds) (hF : ∀ b, F b → b < w.heap.size) (hlen : List.length (α := Dg) ds ≤ 1099511627776) (hkeyS : (Lit.int .u32 (keyS : Int)).wf = true) (tall : Int) (htall : (Lit.int .i64 tall).wf = true) (key : Nat) (hkey : (Lit.int .u32 (key : Int)).wf = true) :
    Calls Try.prog 12 #[.agg tabsC.toArray, .agg (sigC (bv S) keyS u).toArray, .agg (bv root).toArray, .int .i64 tall, .int .u32 (key : Int), .agg (bv d).toArray] w fun e w' => e = .returned (.bool (rightM S keyS ds root tall key d)) ∧ Ext w w' := by
  have hk32 : key < 4294967296 := by have := bounds_u32 hkey; omega
  by_cases hbad : tall < 0 ∨ ((List.length (α := Dg) ds : Nat) : Int) ≠ tall ∨ keyS ≠ key
  · obtain ⟨A, c, xs, rfl, -⟩ := ways_open hc
    have h := RVerifyBad S hS keyS A _ c hlen (bv root) (bv d) tall htall key hkey hkeyS w hbad
    rw [rightM, if_pos (by exact hbad.elim .inl (fun h => .inr (h.elim .inl (fun h => .inr (.inl h)))))]
    exact h
  · have h1 : ((List.length (α := Dg) ds : Nat) : Int) = tall := Classical.byContradiction fun h => hbad (.inr (.inl h))
    have h2 : keyS = key := Classical.byContradiction fun h => hbad (.inr (.inr h))
    subst h2
    subst h1
    have h := RVerifyGood S hS keyS u ds root hroot d hd F w hc hF hlen hkey
    have e : rightM S keyS ds root ((List.length (α := Dg) ds : Nat) : Int) keyS d = (decide (keyS / 2 ^ List.length (α := Dg) ds = 0) && (climbM keyS (fromS S d) ds (List.length (α := Dg) ds) == root)) := by
      unfold rightM
      rw [Int.toNat_natCast]
      have hb : (climbM keyS (fromS S d) ds (List.length (α := Dg) ds) == root) = decide (climbM keyS (fromS S d) ds (List.length (α := Dg) ds) = root) := Bool.eq_iff_iff.2 (by simp)
      rw [hb]
      by_cases hz : keyS / 2 ^ List.length (α := Dg) ds = 0
      · rw [if_neg (by omega), decide_eq_true hz]; rfl
      · have h32 : List.length (α := Dg) ds < 32 := by
          refine Classical.byContradiction fun h => hz (Nat.div_eq_of_lt (Nat.lt_of_lt_of_le hk32 ?_))
          exact Nat.pow_le_pow_right (n := 2) (by decide) (show 32 ≤ List.length (α := Dg) ds by omega)
        rw [if_pos (by omega), decide_eq_false hz]; rfl
    rw [e]
    exact h
end
section
open Go.RowKit

set_option maxRecDepth 100000 in
set_option maxHeartbeats 8000000 in
theorem Rights05 (S : List UInt8) (hS : S.length = 1024) (keyS : Nat) (u : Value) (ds : List Dg) (root : Dg) (hroot : List.length (α := UInt8) root = 32) (d : Dg) (hd : List.length (α := UInt8) d = 32) (F : Fp) (w : World)
    (hc : Ways w F u ds) (hF : ∀ b, F b → b < w.heap.size) (hkeyS : (Lit.int .u32 (keyS : Int)).wf = true) (tall : Int) (htall : (Lit.int .i64 tall).wf = true) (key : Nat) (hkey : (Lit.int .u32 (key : Int)).wf = true) :
    Calls Try.prog 3 #[.agg (sigC (bv S) keyS u).toArray, .agg (bv root).toArray, .int .i64 tall, .int .u32 (key : Int), .agg (bv d).toArray] w fun e w' => e = .returned (.bool true) ∧ Ext w w' := by
  have hC : (bv S).length = 1024 := by rw [bv_length]; exact hS
  have hone := bv_one S
  obtain ⟨A, c, xs, rfl, hlc, hcm, -⟩ := ways_open hc
  unfold maxLen at hcm
  have hto := fun W (hx : Ext w W) => To05 (bv S) keyS _ ds W F hC hone (hx.holds hF hc) (fun b hb => Nat.lt_of_lt_of_le (hF b hb) hx.size)
  have hri := fun u' W (h : OwnD 55 W u' ds) => Right S hS keyS u' ds root hroot d hd _ W h.holds h.lt
  have hve := fun W (hx : Ext w W) => RVerify S hS keyS _ ds root hroot d hd F W (hx.holds hF hc) (fun b hb => Nat.lt_of_lt_of_le (hF b hb) hx.size)
  have hmk := fun W => Ref_Make W
  have htb : (#[Value.string tabFirst, Value.string tabRounds] : Array Value) = tabsC.toArray := rfl
  rw [htb] at hmk
  generalize tabsC = TB at *
  have hsl := sigC_len hC keyS (.slice A (List.length (α := Dg) ds) c)
  have hwy := sigC_way hC keyS (.slice A (List.length (α := Dg) ds) c)
  have hrl : (bv root).length = 32 := by rw [bv_length]; exact hroot
  have hdl : (bv d).length = 32 := by rw [bv_length]; exact hd
  generalize hn : List.length (α := Dg) ds = n at *
  obtain ⟨SC, hSC⟩ : ∃ SC, SC = sigC (bv S) keyS (.slice A n c) := ⟨_, rfl⟩
  rw [← hSC] at hsl hwy hto hve ⊢
  obtain ⟨C, hCe⟩ : ∃ C, C = bv S := ⟨_, rfl⟩
  rw [← hCe] at hto hri
  obtain ⟨RC, hRC⟩ : ∃ RC, RC = bv root := ⟨_, rfl⟩
  rw [← hRC] at hri hve hrl ⊢
  obtain ⟨DC, hDC⟩ : ∃ DC, DC = bv d := ⟨_, rfl⟩
  rw [← hDC] at hri hve hdl ⊢
  have hx0 : Ext w (((w.alloc (.cells SC.toArray 30)).alloc (.cells RC.toArray 31)).alloc (.cells DC.toArray 31)).drew := ((((Ext.refl w).alloc _).alloc _).alloc _).trans (Ext.refl _).drew
  have hx1 : Ext w (((w.alloc (.cells SC.toArray 30)).alloc (.cells RC.toArray 31)).alloc (.cells DC.toArray 31)) := (((Ext.refl w).alloc _).alloc _).alloc _
  have hbs : Blk (((w.alloc (.cells SC.toArray 30)).alloc (.cells RC.toArray 31)).alloc (.cells DC.toArray 31)).drew w.heap.size 30 SC := (((Blk.new _ _ _).keep ((Ext.refl _).alloc _) (by simp)).keep ((Ext.refl _).alloc _) (by simp)).keep (Ext.refl _).drew (by simp)
  have hbr : Blk (((w.alloc (.cells SC.toArray 30)).alloc (.cells RC.toArray 31)).alloc (.cells DC.toArray 31)).drew (w.heap.size + 1) 31 RC := ((Blk.fresh (by simp) _ _).keep ((Ext.refl _).alloc _) (by simp)).keep (Ext.refl _).drew (by simp)
  have hbd : Blk (((w.alloc (.cells SC.toArray 30)).alloc (.cells RC.toArray 31)).alloc (.cells DC.toArray 31)).drew (w.heap.size + 2) 31 DC := (Blk.fresh (by simp) _ _).keep (Ext.refl _).drew (by simp)
  have c1025 : (((w.alloc (.cells SC.toArray 30)).alloc (.cells RC.toArray 31)).alloc (.cells DC.toArray 31)).cell? ⟨w.heap.size, 1025, none⟩ = some (.slice A n c) := (Blk.cell (((Blk.new w 30 SC).keep ((Ext.refl _).alloc (.cells RC.toArray 31)) (by simp)).keep ((Ext.refl _).alloc (.cells DC.toArray 31)) (by simp)) 1025).trans hwy
  have hnI : n ≤ 9223372036854775807 := by omega
  by_cases hl : 60 < n
  · have HX1 := Lib.hid hx1
    have hl' : (60 : Int) < (n : Int) := by omega
    clear hto hri hve hx0 hbs hbr hbd hx1 hl hlc hcm hSC hCe hRC hDC
    go_enter Try.func3, Try.ntmps3
    go_wp2_with fail
    refine (Awake05 _).mono ?_
    rintro e w' ⟨rfl, hx⟩
    go_wp2_with fail
    go_ret
    exact ⟨rfl, HX1.out.trans hx⟩
  have hto := fun W (hx : Ext (((w.alloc (.cells SC.toArray 30)).alloc (.cells RC.toArray 31)).alloc (.cells DC.toArray 31)).drew W) => hto W (hx0.trans hx) (by omega)
  have hri := fun u' W h => hri u' W h (by omega) hkeyS tall htall key hkey
  have hve := fun W (hx : Ext (((w.alloc (.cells SC.toArray 30)).alloc (.cells RC.toArray 31)).alloc (.cells DC.toArray 31)).drew W) => hve W (hx0.trans hx) (by omega) hkeyS tall htall key hkey
  obtain ⟨RB, hRB⟩ : ∃ RB, RB = rightM S keyS ds root tall key d := ⟨_, rfl⟩
  rw [← hRB] at hri hve
  have HTO := Lib.hid hto
  have HRIGHT := Lib.hid hri
  have HVER := Lib.hid hve
  have HMK := Lib.hid hmk
  have HX0 := Lib.hid hx0
  have HBS := Lib.hid hbs
  have HBR := Lib.hid hbr
  have HBD := Lib.hid hbd
  have HSL := Lib.hid hsl
  have HRL := Lib.hid hrl
  have HDL := Lib.hid hdl
  have hl' : ¬ (60 : Int) < (n : Int) := by omega
  clear hto hri hve hmk hx0 hbs hbr hbd hsl hrl hdl hwy hc hF hC hone hx1 htb hRB hSC hCe hRC hDC hroot hd hS hlc hcm hl
  go_enter Try.func3, Try.ntmps3
  go_wp2_with fail
  (try simp only [World.size_alloc])
  refine stab_plain Ext ext_refl ext_trans [[0], [0, 1], [0, 1, 2], [0, 1, 2, 3], [0, 1, 4], [0, 1, 5], [0, 1, 6], [0, 1, 7], [0, 1, 2, 3, 4, 5, 6, 7, 8], [0, 1, 2, 3, 4, 5, 6, 7, 8, 9], [0, 1, 10], [0, 1, 11], [0, 1, 12], [0, 1, 13], [0, 1, 14], [0, 1, 2, 3, 4, 5, 6, 7, 8, 9, 10, 11, 12, 13, 14, 15], [0, 1, 2, 3, 4, 5, 6, 7, 8, 9, 10, 11, 12, 13, 14, 15, 16], [0, 1, 2, 3, 4, 5, 6, 7, 8, 9, 10, 11, 12, 13, 14, 15, 16, 17], [0, 1, 2, 3, 4, 5, 6, 7, 8, 9, 10, 11, 12, 13, 14, 15, 16, 17, 18]] (fun i v wv => match i with | 0 => v = .bool true | 1 => v = .bool true | 2 => v = .agg SC.toArray | 3 => ∃ u', v = .agg (sigC C keyS u').toArray ∧ OwnD 55 wv u' ds | 4 => v = .agg RC.toArray | 5 => v = .int .i64 tall | 6 => v = .int .u32 (key : Int) | 7 => v = .agg DC.toArray | 8 => v = .bool RB | 9 => v = .agg TB.toArray | 10 => v = .agg SC.toArray | 11 => v = .agg RC.toArray | 12 => v = .int .i64 tall | 13 => v = .int .u32 (key : Int) | 14 => v = .agg DC.toArray | 15 => v = .bool RB | 16 => v = .bool true | 17 => v = .bool true | 18 => v = .bool true | _ => True) (by kernel_rfl) (by kernel_rfl) (by kernel_rfl) ?_ ?_ ?_
  · intro i v w1 w2 h hx
    match i, h with
    | 0, h => exact h
    | 1, h => exact h
    | 2, h => exact h
    | 3, h =>
      replace h : ∃ u', v = .agg (sigC C keyS u').toArray ∧ OwnD 55 w1 u' ds := h
      show ∃ u', v = .agg (sigC C keyS u').toArray ∧ OwnD 55 w2 u' ds
      obtain ⟨u', h1, h2⟩ := h
      exact ⟨u', h1, h2.ext hx⟩
    | 4, h => exact h
    | 5, h => exact h
    | 6, h => exact h
    | 7, h => exact h
    | 8, h => exact h
    | 9, h => exact h
    | 10, h => exact h
    | 11, h => exact h
    | 12, h => exact h
    | 13, h => exact h
    | 14, h => exact h
    | 15, h => exact h
    | 16, h => exact h
    | 17, h => exact h
    | 18, h => exact h
    | i + 19, h => trivial
  · intro i hi o ho
    match i, hi, ho with
    | 0, _, ho =>
      obtain rfl := Option.some.inj ho
      intro s W hX hd K hK
      rw [if_pos (wanted_plain rfl)]
      clear hd
      replace hK : ∀ (v : Value) (W' : World), Ext W W' → (v = .bool true) → _ := hK
      simp only [mkOf, List.map_cons, List.map_nil, Act.put, List.setIfInBounds_toArray, List.set_cons_succ, List.set_cons_zero, Nat.reduceAdd, Nat.zero_add] at hK ⊢
      go_simp
      refine (Awake05 _).mono ?_
      rintro e w' ⟨rfl, hx⟩
      exact hK _ _ hx rfl
    | 1, _, ho =>
      obtain rfl := Option.some.inj ho
      intro s W hX hd K hK
      rw [if_pos (wanted_plain rfl)]
      have d16 : (s 0) = .bool true := hd 0 (by decide) (by decide)
      clear hd
      replace hK : ∀ (v : Value) (W' : World), Ext W W' → (v = .bool true) → _ := hK
      simp only [mkOf, List.map_cons, List.map_nil, Act.put, List.setIfInBounds_toArray, List.set_cons_succ, List.set_cons_zero, Nat.reduceAdd, Nat.zero_add] at hK ⊢
      simp only [d16] at hK ⊢
      go_simp
      exact hK _ _ (Ext.refl _) rfl
    | 2, _, ho =>
      obtain rfl := Option.some.inj ho
      intro s W hX hd K hK
      have d17 : (s 1) = .bool true := hd 1 (by decide) (by decide)
      clear hd
      replace hK : ∀ (v : Value) (W' : World), Ext W W' → (v = .agg SC.toArray) → _ := hK
      simp only [mkOf, List.map_cons, List.map_nil, Act.put, List.setIfInBounds_toArray, List.set_cons_succ, List.set_cons_zero, Nat.reduceAdd, Nat.zero_add] at hK ⊢
      simp only [d17] at hK ⊢
      rw [if_pos (by kernel_rfl)]
      refine wp_load_agg 30 (.tmp 5) rfl _ rfl SC _ Try.underlying30 rfl (szOutFrom05 HSL.out) (HBS.out.keep hX (by simp)).cells ?_
      exact hK _ _ (Ext.refl _) rfl
    | 3, _, ho =>
      obtain rfl := Option.some.inj ho
      intro s W hX hd K hK
      have d17 : (s 1) = .bool true := hd 1 (by decide) (by decide)
      have d18 : (s 2) = .agg SC.toArray := hd 2 (by decide) (by decide)
      clear hd
      replace hK : ∀ (v : Value) (W' : World), Ext W W' → (∃ u', v = .agg (sigC C keyS u').toArray ∧ OwnD 55 W' u' ds) → _ := hK
      simp only [mkOf, List.map_cons, List.map_nil, Act.put, List.setIfInBounds_toArray, List.set_cons_succ, List.set_cons_zero, Nat.reduceAdd, Nat.zero_add] at hK ⊢
      simp only [d17, d18] at hK ⊢
      rw [if_pos (by kernel_rfl)]
      go_simp
      refine (HTO.out W hX).mono ?_
      rintro e w' ⟨u', rfl, ho, hx, _⟩
      exact hK _ _ hx ⟨u', rfl, ho⟩
    | 4, _, ho =>
      obtain rfl := Option.some.inj ho
      intro s W hX hd K hK
      have d17 : (s 1) = .bool true := hd 1 (by decide) (by decide)
      clear hd
      replace hK : ∀ (v : Value) (W' : World), Ext W W' → (v = .agg RC.toArray) → _ := hK
      simp only [mkOf, List.map_cons, List.map_nil, Act.put, List.setIfInBounds_toArray, List.set_cons_succ, List.set_cons_zero, Nat.reduceAdd, Nat.zero_add] at hK ⊢
      simp only [d17] at hK ⊢
      rw [if_pos (by kernel_rfl)]
      refine wp_load_agg 31 (.tmp 6) rfl _ rfl RC _ Try.underlying31 rfl (szElTo05 HRL.out) (HBR.out.keep hX (by simp)).cells ?_
      exact hK _ _ (Ext.refl _) rfl
    | 5, _, ho =>
      obtain rfl := Option.some.inj ho
      intro s W hX hd K hK
      have d17 : (s 1) = .bool true := hd 1 (by decide) (by decide)
      clear hd
      replace hK : ∀ (v : Value) (W' : World), Ext W W' → (v = .int .i64 tall) → _ := hK
      simp only [mkOf, List.map_cons, List.map_nil, Act.put, List.setIfInBounds_toArray, List.set_cons_succ, List.set_cons_zero, Nat.reduceAdd, Nat.zero_add] at hK ⊢
      simp only [d17] at hK ⊢
      rw [if_pos (by kernel_rfl)]
      go_simp
      exact hK _ _ (Ext.refl _) rfl
    | 6, _, ho =>
      obtain rfl := Option.some.inj ho
      intro s W hX hd K hK
      have d17 : (s 1) = .bool true := hd 1 (by decide) (by decide)
      clear hd
      replace hK : ∀ (v : Value) (W' : World), Ext W W' → (v = .int .u32 (key : Int)) → _ := hK
      simp only [mkOf, List.map_cons, List.map_nil, Act.put, List.setIfInBounds_toArray, List.set_cons_succ, List.set_cons_zero, Nat.reduceAdd, Nat.zero_add] at hK ⊢
      simp only [d17] at hK ⊢
      rw [if_pos (by kernel_rfl)]
      go_simp
      exact hK _ _ (Ext.refl _) rfl
    | 7, _, ho =>
      obtain rfl := Option.some.inj ho
      intro s W hX hd K hK
      have d17 : (s 1) = .bool true := hd 1 (by decide) (by decide)
      clear hd
      replace hK : ∀ (v : Value) (W' : World), Ext W W' → (v = .agg DC.toArray) → _ := hK
      simp only [mkOf, List.map_cons, List.map_nil, Act.put, List.setIfInBounds_toArray, List.set_cons_succ, List.set_cons_zero, Nat.reduceAdd, Nat.zero_add] at hK ⊢
      simp only [d17] at hK ⊢
      rw [if_pos (by kernel_rfl)]
      refine wp_load_agg 31 (.tmp 9) rfl _ rfl DC _ Try.underlying31 rfl (szElTo05 HDL.out) (HBD.out.keep hX (by simp)).cells ?_
      exact hK _ _ (Ext.refl _) rfl
    | 8, _, ho =>
      obtain rfl := Option.some.inj ho
      intro s W hX hd K hK
      have d17 : (s 1) = .bool true := hd 1 (by decide) (by decide)
      have d19 : ∃ u', (s 3) = .agg (sigC C keyS u').toArray ∧ OwnD 55 W u' ds := hd 3 (by decide) (by decide)
      have d20 : (s 4) = .agg RC.toArray := hd 4 (by decide) (by decide)
      have d21 : (s 5) = .int .i64 tall := hd 5 (by decide) (by decide)
      have d22 : (s 6) = .int .u32 (key : Int) := hd 6 (by decide) (by decide)
      have d23 : (s 7) = .agg DC.toArray := hd 7 (by decide) (by decide)
      clear hd
      replace hK : ∀ (v : Value) (W' : World), Ext W W' → (v = .bool RB) → _ := hK
      simp only [mkOf, List.map_cons, List.map_nil, Act.put, List.setIfInBounds_toArray, List.set_cons_succ, List.set_cons_zero, Nat.reduceAdd, Nat.zero_add] at hK ⊢
      simp only [d17, d20, d21, d22, d23] at hK ⊢
      rw [if_pos (by kernel_rfl)]
      obtain ⟨u', h1, h2⟩ := d19
      simp only [h1] at hK ⊢
      go_simp
      refine (HRIGHT.out u' W h2).mono ?_
      rintro e w' ⟨rfl, hx⟩
      exact hK _ _ hx rfl
    | 9, _, ho =>
      obtain rfl := Option.some.inj ho
      intro s W hX hd K hK
      have d17 : (s 1) = .bool true := hd 1 (by decide) (by decide)
      clear hd
      replace hK : ∀ (v : Value) (W' : World), Ext W W' → (v = .agg TB.toArray) → _ := hK
      simp only [mkOf, List.map_cons, List.map_nil, Act.put, List.setIfInBounds_toArray, List.set_cons_succ, List.set_cons_zero, Nat.reduceAdd, Nat.zero_add] at hK ⊢
      simp only [d17] at hK ⊢
      rw [if_pos (by kernel_rfl)]
      go_simp
      refine (HMK.out _).mono ?_
      rintro e w' ⟨rfl, hx⟩
      exact hK _ _ hx rfl
    | 10, _, ho =>
      obtain rfl := Option.some.inj ho
      intro s W hX hd K hK
      have d17 : (s 1) = .bool true := hd 1 (by decide) (by decide)
      clear hd
      replace hK : ∀ (v : Value) (W' : World), Ext W W' → (v = .agg SC.toArray) → _ := hK
      simp only [mkOf, List.map_cons, List.map_nil, Act.put, List.setIfInBounds_toArray, List.set_cons_succ, List.set_cons_zero, Nat.reduceAdd, Nat.zero_add] at hK ⊢
      simp only [d17] at hK ⊢
      rw [if_pos (by kernel_rfl)]
      refine wp_load_agg 30 (.tmp 5) rfl _ rfl SC _ Try.underlying30 rfl (szOutFrom05 HSL.out) (HBS.out.keep hX (by simp)).cells ?_
      exact hK _ _ (Ext.refl _) rfl
    | 11, _, ho =>
      obtain rfl := Option.some.inj ho
      intro s W hX hd K hK
      have d17 : (s 1) = .bool true := hd 1 (by decide) (by decide)
      clear hd
      replace hK : ∀ (v : Value) (W' : World), Ext W W' → (v = .agg RC.toArray) → _ := hK
      simp only [mkOf, List.map_cons, List.map_nil, Act.put, List.setIfInBounds_toArray, List.set_cons_succ, List.set_cons_zero, Nat.reduceAdd, Nat.zero_add] at hK ⊢
      simp only [d17] at hK ⊢
      rw [if_pos (by kernel_rfl)]
      refine wp_load_agg 31 (.tmp 6) rfl _ rfl RC _ Try.underlying31 rfl (szElTo05 HRL.out) (HBR.out.keep hX (by simp)).cells ?_
      exact hK _ _ (Ext.refl _) rfl
    | 12, _, ho =>
      obtain rfl := Option.some.inj ho
      intro s W hX hd K hK
      have d17 : (s 1) = .bool true := hd 1 (by decide) (by decide)
      clear hd
      replace hK : ∀ (v : Value) (W' : World), Ext W W' → (v = .int .i64 tall) → _ := hK
      simp only [mkOf, List.map_cons, List.map_nil, Act.put, List.setIfInBounds_toArray, List.set_cons_succ, List.set_cons_zero, Nat.reduceAdd, Nat.zero_add] at hK ⊢
      simp only [d17] at hK ⊢
      rw [if_pos (by kernel_rfl)]
      go_simp
      exact hK _ _ (Ext.refl _) rfl
    | 13, _, ho =>
      obtain rfl := Option.some.inj ho
      intro s W hX hd K hK
      have d17 : (s 1) = .bool true := hd 1 (by decide) (by decide)
      clear hd
      replace hK : ∀ (v : Value) (W' : World), Ext W W' → (v = .int .u32 (key : Int)) → _ := hK
      simp only [mkOf, List.map_cons, List.map_nil, Act.put, List.setIfInBounds_toArray, List.set_cons_succ, List.set_cons_zero, Nat.reduceAdd, Nat.zero_add] at hK ⊢
      simp only [d17] at hK ⊢
      rw [if_pos (by kernel_rfl)]
      go_simp
      exact hK _ _ (Ext.refl _) rfl
    | 14, _, ho =>
      obtain rfl := Option.some.inj ho
      intro s W hX hd K hK
      have d17 : (s 1) = .bool true := hd 1 (by decide) (by decide)
      clear hd
      replace hK : ∀ (v : Value) (W' : World), Ext W W' → (v = .agg DC.toArray) → _ := hK
      simp only [mkOf, List.map_cons, List.map_nil, Act.put, List.setIfInBounds_toArray, List.set_cons_succ, List.set_cons_zero, Nat.reduceAdd, Nat.zero_add] at hK ⊢
      simp only [d17] at hK ⊢
      rw [if_pos (by kernel_rfl)]
      refine wp_load_agg 31 (.tmp 9) rfl _ rfl DC _ Try.underlying31 rfl (szElTo05 HDL.out) (HBD.out.keep hX (by simp)).cells ?_
      exact hK _ _ (Ext.refl _) rfl
    | 15, _, ho =>
      obtain rfl := Option.some.inj ho
      intro s W hX hd K hK
      have d17 : (s 1) = .bool true := hd 1 (by decide) (by decide)
      have d25 : (s 9) = .agg TB.toArray := hd 9 (by decide) (by decide)
      have d26 : (s 10) = .agg SC.toArray := hd 10 (by decide) (by decide)
      have d27 : (s 11) = .agg RC.toArray := hd 11 (by decide) (by decide)
      have d28 : (s 12) = .int .i64 tall := hd 12 (by decide) (by decide)
      have d29 : (s 13) = .int .u32 (key : Int) := hd 13 (by decide) (by decide)
      have d30 : (s 14) = .agg DC.toArray := hd 14 (by decide) (by decide)
      clear hd
      replace hK : ∀ (v : Value) (W' : World), Ext W W' → (v = .bool RB) → _ := hK
      simp only [mkOf, List.map_cons, List.map_nil, Act.put, List.setIfInBounds_toArray, List.set_cons_succ, List.set_cons_zero, Nat.reduceAdd, Nat.zero_add] at hK ⊢
      simp only [d17, d25, d26, d27, d28, d29, d30] at hK ⊢
      rw [if_pos (by kernel_rfl)]
      go_simp
      refine (HVER.out W hX).mono ?_
      rintro e w' ⟨rfl, hx⟩
      exact hK _ _ hx rfl
    | 16, _, ho =>
      obtain rfl := Option.some.inj ho
      intro s W hX hd K hK
      have d17 : (s 1) = .bool true := hd 1 (by decide) (by decide)
      have d24 : (s 8) = .bool RB := hd 8 (by decide) (by decide)
      have d31 : (s 15) = .bool RB := hd 15 (by decide) (by decide)
      clear hd
      replace hK : ∀ (v : Value) (W' : World), Ext W W' → (v = .bool true) → _ := hK
      simp only [mkOf, List.map_cons, List.map_nil, Act.put, List.setIfInBounds_toArray, List.set_cons_succ, List.set_cons_zero, Nat.reduceAdd, Nat.zero_add] at hK ⊢
      simp only [d17, d24, d31] at hK ⊢
      rw [if_pos (by kernel_rfl)]
      go_simp
      exact hK _ _ (Ext.refl _) (by simp)
    | 17, _, ho =>
      obtain rfl := Option.some.inj ho
      intro s W hX hd K hK
      rw [if_pos (wanted_plain rfl)]
      have d17 : (s 1) = .bool true := hd 1 (by decide) (by decide)
      have d32 : (s 16) = .bool true := hd 16 (by decide) (by decide)
      clear hd
      replace hK : ∀ (v : Value) (W' : World), Ext W W' → (v = .bool true) → _ := hK
      simp only [mkOf, List.map_cons, List.map_nil, Act.put, List.setIfInBounds_toArray, List.set_cons_succ, List.set_cons_zero, Nat.reduceAdd, Nat.zero_add] at hK ⊢
      simp only [d17, d32] at hK ⊢
      go_simp
      exact hK _ _ (Ext.refl _) rfl
    | 18, _, ho =>
      obtain rfl := Option.some.inj ho
      intro s W hX hd K hK
      rw [if_pos (wanted_plain rfl)]
      have d33 : (s 17) = .bool true := hd 17 (by decide) (by decide)
      clear hd
      replace hK : ∀ (v : Value) (W' : World), Ext W W' → (v = .bool true) → _ := hK
      simp only [mkOf, List.map_cons, List.map_nil, Act.put, List.setIfInBounds_toArray, List.set_cons_succ, List.set_cons_zero, Nat.reduceAdd, Nat.zero_add] at hK ⊢
      simp only [d33] at hK ⊢
      go_simp
      exact hK _ _ (Ext.refl _) rfl
    | i + 19, hi, _ => exact absurd hi (by simp)
  · intro s W hX hd
    have d16 : (s 0) = .bool true := hd 0 (by decide)
    have d17 : (s 1) = .bool true := hd 1 (by decide)
    have d18 : (s 2) = .agg SC.toArray := hd 2 (by decide)
    have d19 : ∃ u', (s 3) = .agg (sigC C keyS u').toArray ∧ OwnD 55 W u' ds := hd 3 (by decide)
    have d20 : (s 4) = .agg RC.toArray := hd 4 (by decide)
    have d21 : (s 5) = .int .i64 tall := hd 5 (by decide)
    have d22 : (s 6) = .int .u32 (key : Int) := hd 6 (by decide)
    have d23 : (s 7) = .agg DC.toArray := hd 7 (by decide)
    have d24 : (s 8) = .bool RB := hd 8 (by decide)
    have d25 : (s 9) = .agg TB.toArray := hd 9 (by decide)
    have d26 : (s 10) = .agg SC.toArray := hd 10 (by decide)
    have d27 : (s 11) = .agg RC.toArray := hd 11 (by decide)
    have d28 : (s 12) = .int .i64 tall := hd 12 (by decide)
    have d29 : (s 13) = .int .u32 (key : Int) := hd 13 (by decide)
    have d30 : (s 14) = .agg DC.toArray := hd 14 (by decide)
    have d31 : (s 15) = .bool RB := hd 15 (by decide)
    have d32 : (s 16) = .bool true := hd 16 (by decide)
    have d33 : (s 17) = .bool true := hd 17 (by decide)
    have d10 : (s 18) = .bool true := hd 18 (by decide)
    clear hd
    simp only [mkOf, List.map_cons, List.map_nil, Act.put, List.setIfInBounds_toArray, List.set_cons_succ, List.set_cons_zero, Nat.reduceAdd, Nat.zero_add]
    (try simp only [Exit.then])
    go_wp2_with fail
    go_ret
    exact ⟨by simp [d10], HX0.out.trans hX⟩
end
section
open Go.RowKit

def PieceT : Ty := .arr 16 .u8
def SigT : Ty := .st (.pair (.arr 32 PieceT) (.pair (.arr 32 PieceT) .unit))
def DigT4 : Ty := .arr 32 .u8
def zSigC : List Value := bv (List.replicate 1024 0)
def zDigC : List Value := bv (List.replicate 32 0)
theorem agg_cells4 (cs : List Value) : (Value.agg cs.toArray).cells.toList = cs := by simp [Value.cells]
theorem pieces_bytes {w : World} {F : Fp} : ∀ {l : List (List UInt8)} {cs : List Value}, AllH (PieceT.holds w F) cs l → ∃ B : List UInt8, cs = bv B
  | [], _, h => ⟨[], h⟩
  | p :: l, _, h => by
    obtain ⟨c1, c2, rfl, h1, h2⟩ := h
    obtain ⟨B, rfl⟩ := pieces_bytes h2
    exact ⟨p ++ B, by rw [bv_append, AllH.bytes.1 h1.2]⟩
theorem sig_open {w : World} {F : Fp} {cs : List Value} {sg : SigT.Data} (h : SigT.holds w F (Value.agg cs.toArray).cells.toList sg) : ∃ S : List UInt8, cs = bv S ∧ S.length = 1024 := by
  rw [agg_cells4] at h
  have hl := Ty.len SigT h
  obtain ⟨c1, _, rfl, ⟨_, h1⟩, c2, _, rfl, ⟨_, h2⟩, rfl⟩ := h
  obtain ⟨B1, rfl⟩ := pieces_bytes h1
  obtain ⟨B2, rfl⟩ := pieces_bytes h2
  refine ⟨B1 ++ B2, by rw [bv_append, List.append_nil], ?_⟩
  rw [List.append_nil, List.length_append, bv_length, bv_length] at hl
  rw [List.length_append]; exact hl
theorem dig_open {w : World} {F : Fp} {cs : List Value} {d : DigT4.Data} (h : DigT4.holds w F (Value.agg cs.toArray).cells.toList d) : ∃ S : List UInt8, cs = bv S ∧ S.length = 32 := by
  rw [agg_cells4] at h
  exact ⟨d, AllH.bytes.1 h.2, h.1⟩
end
section
open Go.RowKit

def SigF : Ty := .st (.pair SigT (.pair (.nat .u32) (.pair (.sl DigT) .unit)))
theorem sl_cellG {W : World} {F : Fp} {t : Ty} {cs : List Value} {x : List t.Data} (h : (Ty.sl t).holds W F cs x) : ∃ v, cs = [v] := by
  obtain ⟨A, c, xs, rfl, _⟩ := h
  exact ⟨_, rfl⟩
theorem sigf_open {W : World} {F : Fp} {cs : List Value} {x : SigF.Data} (h : SigF.holds W F (Value.agg cs.toArray).cells.toList x) :
    ∃ (S : List UInt8) (key : Nat) (u : Value) (ds : List Dg), cs = sigC (bv S) key u ∧ S.length = 1024 ∧ (Lit.int .u32 (key : Int)).wf = true ∧ Ways W F u ds := by
  rw [agg_cells4] at h
  obtain ⟨sg, key, ds, u1⟩ := x
  obtain ⟨C, _, rfl, hC, _, c4, rfl, ⟨rfl, hw⟩, c5, _, rfl, hd, rfl⟩ := h
  obtain ⟨u, rfl⟩ := sl_cellG hd
  obtain ⟨S, rfl, hS⟩ := sig_open (cs := C) (by rw [agg_cells4]; exact hC)
  exact ⟨S, key, u, ds, by simp [sigC], hS, hw, hd⟩
end
section
open Go.ChangeShapes Go.WideShapes Go.ChangeAt Go.RowKit

def okZipB (P : Program) (w : World) (t : TypeId) (cs : List Value) : Bool :=
  match P.cellTypes P.depth t with
  | some ts => (ts.length == cs.length && cs.length == P.cellsOf t) && (ts.zip cs).all fun p => Cell.okWideB P w p.1 p.2
  | none => false
theorem zip_at {α β : Type} : ∀ (xs : List α) (ys : List β) (i : Nat) (y : β), xs.length = ys.length → ys[i]? = some y → ∃ x, xs[i]? = some x ∧ (x, y) ∈ xs.zip ys
  | [], [], i, y, _, h => by simp at h
  | x :: xs, z :: ys, 0, y, _, h => by
    have e : z = y := by simpa using h
    subst e
    exact ⟨x, rfl, by simp⟩
  | x :: xs, z :: ys, i + 1, y, hl, h => by
    obtain ⟨u, h1, h2⟩ := zip_at xs ys i y (by simpa using hl) (by simpa using h)
    exact ⟨u, by simpa using h1, by simp [h2]⟩
  | [], _ :: _, _, _, h, _ => by simp at h
  | _ :: _, [], _, _, h, _ => by simp at h
theorem okWide_of_zip {P : Program} {w : World} {base : Nat} {t : TypeId} {fs : Array Field} {cs : List Value} (hu : P.underlying t = some (.struct fs)) (h : okZipB P w t cs = true) : Value.okWide P w .any base t (.agg cs.toArray) := by
  unfold okZipB at h
  split at h
  · rename_i ts hts
    simp only [Bool.and_eq_true, beq_iff_eq, List.all_eq_true] at h
    obtain ⟨⟨h1, h2⟩, h3⟩ := h
    unfold Value.okWide
    simp only [hu]
    refine ⟨_, rfl, by simpa using h2, ts, hts, ⟨1, by simp [h1]⟩, fun i v hv => ?_⟩
    have hv' : cs[i]? = some v := by simpa using hv
    have hi : i < cs.length := (List.getElem?_eq_some_iff.1 hv').1
    obtain ⟨x, hx, hm⟩ := zip_at ts cs i v h1 hv'
    rw [Nat.mod_eq_of_lt (by omega)]
    exact ⟨x, hx, Cell.okWide_of_okWideB (h3 _ hm)⟩
  · cases h
theorem witness6W {H : Type} {enc : TypeId × Value → H} {C : Checked} {os : Os} {f : FuncId} {fn : Func} {s : ChangeSpec} {conds : List PathCond} {apart : Bool} (modest : Bool) (i : Input) (fuel : Nat)
    (hv : (World.plainHolding C.prog os i).variablesB C.prog = true)
    (hr : ((World.plainHolding C.prog os i).heap.toList.drop C.prog.globals.size).take ((begin C.prog (fun _ _ => 0) default).world.heap.size - C.prog.globals.size) =
      (begin C.prog (fun _ _ => 0) default).world.heap.toList.drop C.prog.globals.size)
    (hok : ∀ base, Input.okWide C.prog (World.plainHolding C.prog os i) .any base f ⟨#[], i.args, []⟩)
    (hpre : s.preB enc C.prog fn conds apart (World.plainHolding C.prog os i).memory i.args fuel = true)
    (hsz : s.sizedB enc C.prog fn apart (World.plainHolding C.prog os i).memory i.args fuel = true) :
    ∃ (w : World) (tape : Tape) (i : Input), w.os = os ∧ (w.forCall tape i).Shaped C.prog ∧ i.vars = [] ∧ Input.okWide C.prog (w.forCall tape i) .any w.heap.size f i ∧
      s.pre6 enc C.prog fn conds apart (w.forCall tape i).memory i.args ∧ ({ modest := modest } : Assume).holds C.prog (lone (Frame.enter C.prog f i.args .normal) [] (w.forCall tape i)) :=
  ⟨World.holding C.prog os i, fun _ _ => 0, ⟨#[], i.args, []⟩, rfl, World.shaped_of_B hv hr, rfl, hok _, ⟨ChangeSpec.pre_of_preB hpre, sizedMet_of_sizedB hsz⟩, by
    simp only [Assume.holds]
    exact ⟨by simp, by simp, fun _ => Modest.zero, by simp, by simp⟩⟩
end
end Go.Proofs.Ytpdkmapogncgmaa

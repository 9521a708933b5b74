/- Walks and plain laws, put together in build order. Conditions: what each of them names. -/
import Derived.Test.YtpdkmapogncgmaaWc3bec2157f
set_option linter.unusedVariables false
set_option linter.unusedSimpArgs false
set_option linter.unnecessarySimpa false
namespace Go.Proofs.Ytpdkmapogncgmaa
section
open Go.RowKit

theorem rsz {n : Nat} (h : n = 1026) : (Try.prog.info? 39).map (·.size) = some n := by subst h; kernel_rfl
theorem tsig_size5 {n : Nat} (h : n = 1024) : (Try.prog.info? 36).map (·.size) = some n := by subst h; kernel_rfl
theorem and_one_u32 (m : Nat) (h : m < 4294967296) : bits .and .u32 (m : Int) 1 = ((m % 2 : Nat) : Int) := by
  have h1 := (bits_u32 m 1 h (by decide)).1
  rw [Nat.and_one_is_mod] at h1
  exact h1
theorem eqD_any (D E : List UInt8) (hD : D.length = 32) (hE : E.length = 32) : (∀ (x y : Operand) (w : World), (eqGuard .eql 55 x y (.agg (bv D).toArray) (.agg (bv E).toArray)).run Try.prog w = .ok () w) ∧ ∀ w, (binOp .eql 55 (.agg (bv D).toArray) (.agg (bv E).toArray)).run Try.prog w = .ok (.bool (D == E)) w :=
  ⟨fun x y w => run_eqGuard w .eql 55 x y _ _ (.inl rfl) (by kernel_rfl), fun w => run_eqD w 55 5 32 Try.underlying55 Try.underlying5 (by kernel_rfl) D E hD hE⟩
theorem shr_one (P : Program) (t : TypeId) (m : Nat) (w : World) : (binOp .shr t (.int .u32 (m : Int)) (.int .u64 1)).run P w = .ok (.int .u32 ((m / 2 : Nat) : Int)) w := by
  have h : (m : Int).fdiv (2 ^ min (Int.toNat 1) IntKind.u32.bits) = ((m / 2 : Nat) : Int) := by
    rw [Int.fdiv_eq_ediv_of_nonneg _ (by decide)]
    rfl
  show Sem.run P (Op.shift .shr .u32 (m : Int) .u64 1) w = _
  unfold Op.shift
  rw [if_neg (by decide)]
  show Sem.run P (pure (Value.int .u32 ((m : Int).fdiv (2 ^ min (Int.toNat 1) IntKind.u32.bits)))) w = _
  rw [h, Sem.run_pure]
theorem wpList_bin2 {P : Program} {w : World} {ops : Array Oper} {rest : List Oper} {o : Oper} {a : Act} {Q : Exit → Act → World → Prop} (hgd : o.guard = none) (op : BinOp) (t : TypeId) {t' : TypeId} (x y : Operand) (ho : o.op = .binOp op t x y t') (u v : Value) {r : Value} (hx : a.eval x = u) (hy : a.eval y = v)
    (hg : (eqGuard op t x y u v).run P w = .ok () w) (hb : (binOp op t u v).run P w = .ok r w) (h : wpList P ops Q rest (a.put o.dst r) w) : wpList P ops Q (o :: rest) a w :=
  wpList_plain hgd fun K hK => wp_bin2 op t x y ho u v hx hy hg hb (hK _ _ h)
set_option maxRecDepth 100000 in
set_option maxHeartbeats 8000000 in
theorem RightGood (S : List UInt8) (hS : S.length = 1024) (key : Nat) (u : Value) (ds : List Dg) (root : Dg) (hroot : List.length (α := UInt8) root = 32) (d : Dg) (hd : List.length (α := UInt8) d = 32) (F : Fp) (w : World)
    (hc : Ways w F u ds) (hF : ∀ b, F b → b < w.heap.size) (hlen : List.length (α := Dg) ds ≤ 1099511627776) (hkey : (Lit.int .u32 (key : Int)).wf = true) (hsh : List.length (α := Dg) ds < 32 → key / 2 ^ List.length (α := Dg) ds = 0) :
    Calls Try.prog 11 #[.agg (sigC (bv S) key u).toArray, .agg (bv root).toArray, .int .i64 ((List.length (α := Dg) ds : Nat) : Int), .int .u32 (key : Int), .agg (bv d).toArray] w fun e w' => e = .returned (.bool (climbM key (fromS S d) ds (List.length (α := Dg) ds) == root)) ∧ Ext w w' := by
  obtain ⟨A, c, xs, rfl, hlc, hcm, hA, hcell, hall⟩ := ways_open hc
  clear hc
  unfold maxLen at hcm
  have hk32 : key < 4294967296 := by have := bounds_u32 hkey; omega
  have hC : (bv S).length = 1024 := by rw [bv_length]; exact hS
  have hsl := sigC_way hC key (.slice A (List.length (α := Dg) ds) c)
  have hky := sigC_key hC key (.slice A (List.length (α := Dg) ds) c)
  have htk := sigC_take hC key (.slice A (List.length (α := Dg) ds) c)
  have hsl9 := sigC_len hC key (.slice A (List.length (α := Dg) ds) c)
  have hfr := fun W => From S hS d hd W
  have hcm0 := climbM_length key ds (show List.length (α := UInt8) (fromS S d) = 32 from leafOf_length _)
  generalize sigC (bv S) key (.slice A (List.length (α := Dg) ds) c) = SC at *
  have hzd := digest_zero
  have hdl : (bv (List.replicate 32 0)).length = 32 := by simp
  generalize bv (List.replicate 32 0) = Z at hzd hdl
  have hrl : (bv root).length = 32 := by rw [bv_length]; exact hroot
  have hdgl : (bv d).length = 32 := by rw [bv_length]; exact hd
  have hx0 : Ext w (((w.alloc (.cells SC.toArray 39)).alloc (.cells (bv root).toArray 55)).alloc (.cells (bv d).toArray 55)) := (((Ext.refl w).alloc _).alloc _).alloc _
  have hb0 : Blk (((w.alloc (.cells SC.toArray 39)).alloc (.cells (bv root).toArray 55)).alloc (.cells (bv d).toArray 55)) w.heap.size 39 SC := ((Blk.new _ _ _).keep ((Ext.refl _).alloc _) (by simp)).keep ((Ext.refl _).alloc _) (by simp)
  have hb1 : Blk (((w.alloc (.cells SC.toArray 39)).alloc (.cells (bv root).toArray 55)).alloc (.cells (bv d).toArray 55)) (w.heap.size + 1) 55 (bv root) := (Blk.fresh (by simp) _ _).keep ((Ext.refl _).alloc _) (by simp)
  have hb2 : Blk (((w.alloc (.cells SC.toArray 39)).alloc (.cells (bv root).toArray 55)).alloc (.cells (bv d).toArray 55)) (w.heap.size + 2) 55 (bv d) := Blk.fresh (by simp) _ _
  have c1025 : (((w.alloc (.cells SC.toArray 39)).alloc (.cells (bv root).toArray 55)).alloc (.cells (bv d).toArray 55)).cell? ⟨w.heap.size, 1025, none⟩ = some (.slice A (List.length (α := Dg) ds) c) := (hb0.cell 1025).trans hsl
  have c1024 : (((w.alloc (.cells SC.toArray 39)).alloc (.cells (bv root).toArray 55)).alloc (.cells (bv d).toArray 55)).cell? ⟨w.heap.size, 1024, none⟩ = some (.int .u32 (key : Int)) := (hb0.cell 1024).trans hky
  have hcs : Cells (((w.alloc (.cells SC.toArray 39)).alloc (.cells (bv root).toArray 55)).alloc (.cells (bv d).toArray 55)) ⟨w.heap.size, 0, none⟩ (bv S) := by have h := hb0.cells.take 1024; rw [htk] at h; exact h
  have hcd := hb2.cells
  generalize hFS : fromS S d = FS at *
  have HFR := Lib.hid hfr
  have HCM := Lib.hid hcm0
  have HX0 := Lib.hid hx0
  have HB0 := Lib.hid hb0
  have HB1 := Lib.hid hb1
  have HDL := Lib.hid hdl
  have HCL := Lib.hid hC
  have HRL := Lib.hid hrl
  have HDG := Lib.hid hdgl
  have HSL := Lib.hid hsl
  have HALL := Lib.hid hall
  have HRT := Lib.hid hroot
  clear hfr hcm0 hx0 hb0 hb1 hb2 hdl hC hrl hdgl hsl hky htk hsl9 hall hFS hroot hd
  generalize hn : List.length (α := Dg) ds = n at *
  generalize bv S = C at *
  generalize bv d = DC at *
  have HN := Lib.hid hn
  clear hn
  have hz : n < 32 → (key : Int) / 2 ^ n = 0 := fun h => by
    have e : (key : Int) / 2 ^ n = ((key / 2 ^ n : Nat) : Int) := by rw [Int.natCast_ediv, Int.natCast_pow]; rfl
    rw [e, hsh h]; rfl
  clear hsh
  obtain (⟨hz, h32⟩ | ⟨hz, h32⟩) : ((key : Int) / 2 ^ n = 0 ∧ n < 32) ∨ (True ∧ 32 ≤ n) := by
    rcases Nat.lt_or_ge n 32 with h | h
    · exact .inl ⟨hz h, h⟩
    · exact .inr ⟨trivial, h⟩
  all_goals
    go_enter Try.func11, Try.ntmps11
    go_wp2_with (first
      | (refine wpList_load_agg _ rfl 36 (.tmp 40) rfl _ rfl C _ Try.underlying36 rfl (tsig_size5 HCL.out) hcs ?_)
      | (refine wpList_load_agg _ rfl 55 (.tmp 9) rfl _ rfl DC _ Try.underlying55 rfl (digest_size HDG.out) hcd ?_)
      | fail)
  all_goals
    refine (HFR.out _).mono ?_
    rintro e w1 ⟨rfl, hx1⟩
    have hx2 : Ext _ (w1.alloc (.cells (bv FS).toArray 55)) := hx1.alloc _
    have hb0 := HB0.out.keep hx2 (by simp)
    have hb1 := HB1.out.keep hx2 (by simp)
    have hbx : Blk (w1.alloc (.cells (bv FS).toArray 55)) w1.heap.size 55 (bv FS) := Blk.new _ _ _
    have hxx := HX0.out.trans hx2
    have hfl : (bv FS).length = 32 := by rw [bv_length]; exact HCM.out 0
    have c2 : (w1.alloc (.cells (bv FS).toArray 55)).cell? ⟨w.heap.size, 1025, none⟩ = some (.slice A n c) := (hb0.cell 1025).trans HSL.out
    have hxg : w.heap.size + 2 < w1.heap.size := by have := hx1.size; simp at this; omega
    have HFL := Lib.hid hfl
    have HB1b := Lib.hid hb1
    have HBX := Lib.hid hbx
    have HXX := Lib.hid hxx
    clear hx1 hx2 hb0 hb1 hbx hxx hfl c1024 c1025 hcs hcd HB0 HB1 HX0
    go_wp2_with (first
      | (refine wpList_alloc _ rfl 55 rfl _ hzd ?_)
      | ((with_reducible refine wpSto 11 43 rfl ?_); refine wpList_storeN rfl 55 (.tmp 11) (.tmp 43) rfl w1 rfl Z (bv FS) 55 rfl rfl (digest_size HFL.out) (by rw [HFL.out, HDL.out]) (bv_one _) ?_)
      | fail)
    generalize w1.alloc (.cells (bv FS).toArray 55) = w2 at *
    go_loopw [12, 14, 48] (fun at_ y i wr => ∃ k : Nat, k ≤ n ∧ i = .int .i64 k ∧ at_ = .int .u32 ((key / 2 ^ k : Nat) : Int) ∧ Ext w wr ∧ Blk wr w1.heap.size 55 (bv (climbM key FS ds k)) ∧ Blk wr (w.heap.size + 1) 55 (bv root) ∧ ∃ q, y = q) (fun _ _ i _ => n - (intOf i).toNat)
    case atStart => exact ⟨0, by omega, rfl, by simp, HXX.out, HBX.out, HB1b.out, _, rfl⟩
    case round =>
      clear HXX HBX HB1b c2
      obtain ⟨k, hk, rfl, rfl, hx, hbx, hb1, q, rfl⟩ := hrel
      by_cases hlt : k < n
      · obtain ⟨ad, rfl, hf, hcells⟩ := hcell (by omega)
        have hkl : k < List.length (α := Dg) ds := by rw [HN.out]; exact hlt
        obtain ⟨hcc, hdl⟩ := digs_at HALL.out (hcells.keep (hx.same hF _ hf)) hkl
        have hst : climbM key FS ds (k + 1) = if key / 2 ^ k % 2 = 1 then aboveM ds[k] (climbM key FS ds k) else aboveM (climbM key FS ds k) ds[k] := by
          rw [climbM, show ds.getD k [] = ds[k] by simp [List.getD, hkl]]
        have hxl := HCM.out k
        have hm1 : key / 2 ^ k < 4294967296 := Nat.lt_of_le_of_lt (Nat.div_le_self _ _) hk32
        have hm2 : key / 2 ^ (k + 1) = key / 2 ^ k / 2 := by rw [Nat.pow_succ, Nat.div_div_eq_div_mul]
        obtain ⟨X1, hX1e⟩ : ∃ X1, X1 = climbM key FS ds (k + 1) := ⟨_, rfl⟩
        rw [← hX1e] at hst
        generalize climbM key FS ds k = X at *
        generalize ds[k] = Y at *
        obtain ⟨m2, hm2e⟩ : ∃ m2, m2 = key / 2 ^ (k + 1) := ⟨_, rfl⟩
        rw [← hm2e] at hm2
        have HX1E := Lib.hid hX1e
        have HM2E := Lib.hid hm2e
        clear hX1e hm2e
        generalize key / 2 ^ k = m at *
        have hyl : (bv Y).length = 32 := by rw [bv_length]; exact hdl
        have hxxl : (bv X).length = 32 := by rw [bv_length]; exact hxl
        have hby : Blk (wr.alloc (.cells (bv Y).toArray 55)) wr.heap.size 55 (bv Y) := Blk.new _ _ _
        have hbx2 := hbx.keep ((Ext.refl wr).alloc (.cells (bv Y).toArray 55)) (by simp)
        have hxy := hbx.lt
        have hx2 := hx.alloc (.cells (bv Y).toArray 55)
        have hb12 := hb1.keep ((Ext.refl wr).alloc (.cells (bv Y).toArray 55)) (by simp)
        have hand := and_one_u32 m hm1
        have HYL := Lib.hid hyl
        have HXL := Lib.hid hxxl
        have HBY := Lib.hid hby
        have HX2 := Lib.hid hx2
        have HB12 := Lib.hid hb12
        have HST := Lib.hid hst
        have HM2 := Lib.hid hm2
        have HYD := Lib.hid hdl
        have HXD := Lib.hid hxl
        have hcy := hby.cells
        have hcx := hbx2.cells
        clear hyl hxxl hby hx2 hb12 hst hm2 hx hbx hb1 hdl hxl
        have hne : w1.heap.size ≠ wr.heap.size := by omega
        have hw1 : w.heap.size + 2 < w1.heap.size := hxg
        have hx1l : (bv X1).length = 32 := by
          rw [bv_length, HST.out]
          split <;> exact aboveM_length _ _
        have HX1L := Lib.hid hx1l
        clear hx1l
        obtain hm | hm : m % 2 = 1 ∨ m % 2 = 0 := by omega
        · rw [hm] at hand
          rw [if_pos hm] at HST
          have hb5x : Blk ((wr.alloc (.cells (bv Y).toArray 55)).setRow w1.heap.size (bv Y).toArray) w1.heap.size 55 (bv Y) := setRow_at hbx2
          have hb5y : Blk ((wr.alloc (.cells (bv Y).toArray 55)).setRow w1.heap.size (bv Y).toArray) wr.heap.size 55 (bv Y) := HBY.out.keep (setRow_only _) (by simp; omega)
          have hb6x : Blk (((wr.alloc (.cells (bv Y).toArray 55)).setRow w1.heap.size (bv Y).toArray).setRow wr.heap.size (bv X).toArray) w1.heap.size 55 (bv Y) := Blk.keep hb5x (setRow_only _) (by simp; omega)
          have hb6y : Blk (((wr.alloc (.cells (bv Y).toArray 55)).setRow w1.heap.size (bv Y).toArray).setRow wr.heap.size (bv X).toArray) wr.heap.size 55 (bv X) := setRow_at hb5y
          have hb61 : Blk (((wr.alloc (.cells (bv Y).toArray 55)).setRow w1.heap.size (bv Y).toArray).setRow wr.heap.size (bv X).toArray) (w.heap.size + 1) 55 (bv root) := (HB12.out.keep (setRow_only (g := w1.heap.size) (bv Y).toArray) (by simp; omega)).keep (setRow_only _) (by have := HX2.out.size; simp; omega)
          have hx6 : Ext w (((wr.alloc (.cells (bv Y).toArray 55)).setRow w1.heap.size (bv Y).toArray).setRow wr.heap.size (bv X).toArray) := setRow_grown (setRow_grown HX2.out _ _ (by omega)) _ _ (by omega)
          have HC6X := Lib.hid hb6x.cells
          have HC6Y := Lib.hid hb6y.cells
          have HX6 := Lib.hid hx6
          have HB61 := Lib.hid hb61
          have HB6X := Lib.hid hb6x
          have HCC := Lib.hid hcc
          have HCY := Lib.hid hcy
          have HCX := Lib.hid hcx
          have HBX2 := Lib.hid hbx2
          have HB5Y := Lib.hid hb5y
          clear hb61 hx6 hb6x hb6y hcc hcy hcx hbx2 hb5y hb5x
          go_wp2_with (first
            | ((with_reducible refine wpDst 51 rfl ?_); refine wpList_load_agg _ rfl 55 (.tmp 50) rfl _ rfl (bv Y) _ Try.underlying55 rfl (digest_size HYL.out) (by exact HCC.out) ?_)
            | ((with_reducible refine wpDst 14 rfl ?_); refine wpList_alloc _ rfl 55 rfl _ hzd ?_)
            | ((with_reducible refine wpSto 14 51 rfl ?_); refine wpList_storeN rfl 55 (.tmp 14) (.tmp 51) rfl wr rfl Z (bv Y) 55 rfl rfl (digest_size HYL.out) (by rw [HYL.out, HDL.out]) (bv_one _) ?_)
            | ((with_reducible refine wpDst 55 rfl ?_); refine wpList_load_agg _ rfl 55 (.tmp 14) rfl _ rfl (bv Y) _ Try.underlying55 rfl (digest_size HYL.out) (by exact HCY.out) ?_)
            | ((with_reducible refine wpDst 56 rfl ?_); refine wpList_load_agg _ rfl 55 (.tmp 11) rfl _ rfl (bv X) _ Try.underlying55 rfl (digest_size HXL.out) (by exact HCX.out) ?_)
            | ((with_reducible refine wpSto 11 55 rfl ?_); refine wpList_store_row _ rfl 55 (.tmp 11) (.tmp 55) rfl w1.heap.size rfl (bv X) (bv Y) 55 rfl (by exact HBX2.out) (digest_size HYL.out) (by rw [HYL.out, HXL.out]) (bv_one _) ?_)
            | ((with_reducible refine wpSto 14 56 rfl ?_); refine wpList_store_row _ rfl 55 (.tmp 14) (.tmp 56) rfl wr.heap.size rfl (bv Y) (bv X) 55 rfl (by exact HB5Y.out) (digest_size HXL.out) (by rw [HYL.out, HXL.out]) (bv_one _) ?_)
            | ((with_reducible refine wpDst 57 rfl ?_); refine wpList_load_agg _ rfl 55 (.tmp 11) rfl _ rfl (bv Y) _ Try.underlying55 rfl (digest_size HYL.out) (by exact HC6X.out) ?_)
            | ((with_reducible refine wpDst 58 rfl ?_); refine wpList_load_agg _ rfl 55 (.tmp 14) rfl _ rfl (bv X) _ Try.underlying55 rfl (digest_size HXL.out) (by exact HC6Y.out) ?_)
            | (go_at_call 38; refine (Above Y X HYD.out HXD.out _).mono ?_; rintro e w6 ⟨rfl, hx6⟩; rw [← HST.out]; have hb6 := HB6X.out.keep hx6 (by simp))
            | ((with_reducible refine wpSto 11 59 rfl ?_); refine wpList_store_row _ rfl 55 (.tmp 11) (.tmp 59) rfl w1.heap.size rfl (bv Y) (bv X1) 55 rfl (by exact hb6) (digest_size HX1L.out) (by rw [HX1L.out, HYL.out]) (bv_one _) ?_)
            | ((with_reducible refine wpDst 61 rfl ?_); refine wpList_bin2 rfl .shr 27 (.tmp 60) _ rfl _ _ rfl rfl rfl (shr_one _ _ m _) ?_)
            | fail)
          go_roundw
          case rel =>
            have hx7 : Ext w (w6.setRow w1.heap.size (bv X1).toArray) := setRow_grown (HX6.out.trans hx6) _ _ (by omega)
            exact ⟨k + 1, by omega, by go_num, by rw [← HM2E.out, HM2.out]; rfl, hx7, (by rw [← HX1E.out]; exact setRow_at hb6), (HB61.out.keep hx6 (by simp)).keep (setRow_only _) (by simp; omega), _, rfl⟩
          case measure => simp [intOf]; omega

        · rw [hm] at hand
          rw [if_neg (by omega)] at HST
          have HCC := Lib.hid hcc
          have HCY := Lib.hid hcy
          have HCX := Lib.hid hcx
          have HBX2 := Lib.hid hbx2
          clear hcc hcy hcx hbx2
          go_wp2_with (first
            | ((with_reducible refine wpDst 51 rfl ?_); refine wpList_load_agg _ rfl 55 (.tmp 50) rfl _ rfl (bv Y) _ Try.underlying55 rfl (digest_size HYL.out) (by exact HCC.out) ?_)
            | ((with_reducible refine wpDst 14 rfl ?_); refine wpList_alloc _ rfl 55 rfl _ hzd ?_)
            | ((with_reducible refine wpSto 14 51 rfl ?_); refine wpList_storeN rfl 55 (.tmp 14) (.tmp 51) rfl wr rfl Z (bv Y) 55 rfl rfl (digest_size HYL.out) (by rw [HYL.out, HDL.out]) (bv_one _) ?_)
            | ((with_reducible refine wpDst 57 rfl ?_); refine wpList_load_agg _ rfl 55 (.tmp 11) rfl _ rfl (bv X) _ Try.underlying55 rfl (digest_size HXL.out) (by exact HCX.out) ?_)
            | ((with_reducible refine wpDst 58 rfl ?_); refine wpList_load_agg _ rfl 55 (.tmp 14) rfl _ rfl (bv Y) _ Try.underlying55 rfl (digest_size HYL.out) (by exact HCY.out) ?_)
            | (go_at_call 38; refine (Above X Y HXD.out HYD.out _).mono ?_; rintro e w6 ⟨rfl, hx6⟩; rw [← HST.out]; have hb6 := HBX2.out.keep hx6 (by simp))
            | ((with_reducible refine wpSto 11 59 rfl ?_); refine wpList_store_row _ rfl 55 (.tmp 11) (.tmp 59) rfl w1.heap.size rfl (bv X) (bv X1) 55 rfl (by exact hb6) (digest_size HX1L.out) (by rw [HX1L.out, HXL.out]) (bv_one _) ?_)
            | ((with_reducible refine wpDst 61 rfl ?_); refine wpList_bin2 rfl .shr 27 (.tmp 60) _ rfl _ _ rfl rfl rfl (shr_one _ _ m _) ?_)
            | fail)
          go_roundw
          case rel =>
            have hx7 : Ext w (w6.setRow w1.heap.size (bv X1).toArray) := setRow_grown (HX2.out.trans hx6) _ _ (by omega)
            exact ⟨k + 1, by omega, by go_num, by rw [← HM2E.out, HM2.out]; rfl, hx7, (by rw [← HX1E.out]; exact setRow_at hb6), (HB12.out.keep hx6 (by simp)).keep (setRow_only _) (by simp; omega), _, rfl⟩
          case measure => simp [intOf]; omega

      · obtain rfl : k = n := by omega
        have hcx := hbx.cells
        have hcr := hb1.cells
        have hxl : (bv (climbM key FS ds k)).length = 32 := by rw [bv_length]; exact HCM.out k
        have heq := eqD_any (climbM key FS ds k) root (HCM.out k) HRT.out
        obtain ⟨X, hXe⟩ : ∃ X, X = climbM key FS ds k := ⟨_, rfl⟩
        rw [← hXe] at hcx hxl heq
        have HXE := Lib.hid hXe
        clear hXe
        have HX := Lib.hid hx
        have HXL := Lib.hid hxl
        have HCX := Lib.hid hcx
        have HCR := Lib.hid hcr
        have HEQ := Lib.hid heq
        clear hx hxl hcx hcr heq hbx hb1
        go_wp2_with (first
          | ((with_reducible refine wpDst 63 rfl ?_); refine wpList_load_agg _ rfl 55 (.tmp 11) rfl _ rfl (bv X) _ Try.underlying55 rfl (digest_size HXL.out) (by exact HCX.out) ?_)
          | ((with_reducible refine wpDst 64 rfl ?_); refine wpList_load_agg _ rfl 55 (.tmp 6) rfl _ rfl (bv root) _ Try.underlying55 rfl (digest_size HRL.out) (by exact HCR.out) ?_)
          | ((with_reducible refine wpDst 65 rfl ?_); refine wpList_bin2 rfl .eql 55 (.tmp 63) (.tmp 64) rfl _ _ rfl rfl (HEQ.out.1 _ _ _) (HEQ.out.2 _) ?_)
          | fail)
        go_ret
        exact ⟨by rw [HXE.out]; rfl, HX.out⟩
end
section
open Go.RowKit

set_option maxRecDepth 100000 in
set_option maxHeartbeats 8000000 in
theorem RightBad (S : List UInt8) (hS : S.length = 1024) (keyS : Nat) (A : Option Addr) (n c : Nat) (hnm : n ≤ 1099511627776) (R D : List Value) (tall : Int) (htall : (Lit.int .i64 tall).wf = true) (key : Nat) (hkey : (Lit.int .u32 (key : Int)).wf = true) (hkeyS : (Lit.int .u32 (keyS : Int)).wf = true) (w : World)
    (hbad : tall < 0 ∨ (n : Int) ≠ tall ∨ keyS ≠ key ∨ (tall < 32 ∧ key / 2 ^ tall.toNat ≠ 0)) :
    Calls Try.prog 11 #[.agg (sigC (bv S) keyS (.slice A n c)).toArray, .agg R.toArray, .int .i64 tall, .int .u32 (key : Int), .agg D.toArray] w fun e w' => e = .returned (.bool false) ∧ Ext w w' := by
  have hC : (bv S).length = 1024 := by rw [bv_length]; exact hS
  have hsl := sigC_way hC keyS (.slice A n c)
  have hky := sigC_key hC keyS (.slice A n c)
  generalize sigC (bv S) keyS (.slice A n c) = SC at *
  have hx0 : Ext w (((w.alloc (.cells SC.toArray 39)).alloc (.cells R.toArray 55)).alloc (.cells D.toArray 55)) := (((Ext.refl w).alloc _).alloc _).alloc _
  have hb0 : Blk (((w.alloc (.cells SC.toArray 39)).alloc (.cells R.toArray 55)).alloc (.cells D.toArray 55)) w.heap.size 39 SC := ((Blk.new _ _ _).keep ((Ext.refl _).alloc _) (by simp)).keep ((Ext.refl _).alloc _) (by simp)
  have c1025 : (((w.alloc (.cells SC.toArray 39)).alloc (.cells R.toArray 55)).alloc (.cells D.toArray 55)).cell? ⟨w.heap.size, 1025, none⟩ = some (.slice A n c) := (hb0.cell 1025).trans hsl
  have c1024 : (((w.alloc (.cells SC.toArray 39)).alloc (.cells R.toArray 55)).alloc (.cells D.toArray 55)).cell? ⟨w.heap.size, 1024, none⟩ = some (.int .u32 (keyS : Int)) := (hb0.cell 1024).trans hky
  have HX0 := Lib.hid hx0
  clear hx0 hb0 hsl hky hC hS
  have hk32 : key < 4294967296 := by have := bounds_u32 hkey; omega
  by_cases h1 : tall < 0
  · clear hbad
    go_enter Try.func11, Try.ntmps11
    go_wp2_with fail
    go_ret
    exact ⟨rfl, HX0.out⟩
  obtain ⟨m, rfl⟩ : ∃ m : Nat, tall = m := ⟨tall.toNat, by omega⟩
  by_cases h2 : n = m
  case neg =>
    have h2' : (n : Int) ≠ (m : Int) := by omega
    clear hbad h2
    go_enter Try.func11, Try.ntmps11
    go_wp2_with fail
    go_ret
    exact ⟨rfl, HX0.out⟩
  subst h2
  by_cases h3 : keyS = key
  case neg =>
    have h3' : (keyS : Int) ≠ (key : Int) := by omega
    clear hbad h3
    go_enter Try.func11, Try.ntmps11
    go_wp2_with fail
    go_ret
    exact ⟨rfl, HX0.out⟩
  subst h3
  obtain ⟨h32, h4⟩ : n < 32 ∧ keyS / 2 ^ n ≠ 0 := by
    rcases hbad with h | h | h | ⟨h, h4⟩
    · exact absurd h h1
    · exact absurd rfl h
    · exact absurd rfl h
    · exact ⟨by omega, by rwa [Int.toNat_natCast] at h4⟩
  have h4' : (keyS : Int) / 2 ^ n ≠ 0 := by
    have e : (keyS : Int) / 2 ^ n = ((keyS / 2 ^ n : Nat) : Int) := by rw [Int.natCast_ediv, Int.natCast_pow]; rfl
    rw [e]; omega
  clear hbad h4
  go_enter Try.func11, Try.ntmps11
  go_wp2_with fail
  go_ret
  exact ⟨rfl, HX0.out⟩
theorem Right (S : List UInt8) (hS : S.length = 1024) (keyS : Nat) (u : Value) (ds : List Dg) (root : Dg) (hroot : List.length (α := UInt8) root = 32) (d : Dg) (hd : List.length (α := UInt8) d = 32) (F : Fp) (w : World)
    (hc : Ways w F u ds) (hF : ∀ b, F b → b < w.heap.size) (hlen : List.length (α := Dg) ds ≤ 1099511627776) (hkeyS : (Lit.int .u32 (keyS : Int)).wf = true) (tall : Int) (htall : (Lit.int .i64 tall).wf = true) (key : Nat) (hkey : (Lit.int .u32 (key : Int)).wf = true) :
    Calls Try.prog 11 #[.agg (sigC (bv S) keyS u).toArray, .agg (bv root).toArray, .int .i64 tall, .int .u32 (key : Int), .agg (bv d).toArray] w fun e w' => e = .returned (.bool (rightM S keyS ds root tall key d)) ∧ Ext w w' := by
  by_cases hbad : tall < 0 ∨ ((List.length (α := Dg) ds : Nat) : Int) ≠ tall ∨ keyS ≠ key ∨ (tall < 32 ∧ key / 2 ^ tall.toNat ≠ 0)
  · obtain ⟨A, c, xs, rfl, -⟩ := ways_open hc
    have h := RightBad S hS keyS A _ c hlen (bv root) (bv d) tall htall key hkey hkeyS w hbad
    rw [rightM, if_pos hbad]
    exact h
  · rw [rightM, if_neg hbad]
    have h1 : ((List.length (α := Dg) ds : Nat) : Int) = tall := Classical.byContradiction fun h => hbad (.inr (.inl h))
    have h2 : keyS = key := Classical.byContradiction fun h => hbad (.inr (.inr (.inl h)))
    have h3 : List.length (α := Dg) ds < 32 → key / 2 ^ List.length (α := Dg) ds = 0 := fun h => Classical.byContradiction fun h' => hbad (.inr (.inr (.inr (by
      refine ⟨by omega, ?_⟩
      rw [← h1, Int.toNat_natCast]; exact h'))))
    subst h2
    rw [← h1]
    have h := RightGood S hS keyS u ds root hroot d hd F w hc hF hlen hkey h3
    rw [show (climbM keyS (fromS S d) ds (List.length (α := Dg) ds) == root) = decide (climbM keyS (fromS S d) ds (List.length (α := Dg) ds) = root) from Bool.eq_iff_iff.2 (by simp)] at h
    exact h
end
section
open Go.RowKit

/-- A ring's cells. -/
def ringC (seed : List UInt8) (tall : Nat) (R T : Value) : List Value := bv seed ++ [.int .i64 (tall : Int), R, T]
theorem ringC_len {seed : List UInt8} (h : seed.length = 32) (tall : Nat) (R T : Value) : (ringC seed tall R T).length = 35 := by simp [ringC, h]
theorem ringC_take {seed : List UInt8} (h : seed.length = 32) (tall : Nat) (R T : Value) : (ringC seed tall R T).take 32 = bv seed := List.take_left' (by rw [bv_length]; exact h)
theorem ringC_tall {seed : List UInt8} (h : seed.length = 32) (tall : Nat) (R T : Value) : (ringC seed tall R T)[32]? = some (.int .i64 (tall : Int)) := by rw [ringC, List.getElem?_append_right (by rw [bv_length]; omega), bv_length, h]; rfl
theorem ringC_rows {seed : List UInt8} (h : seed.length = 32) (tall : Nat) (R T : Value) : (ringC seed tall R T)[33]? = some R := by rw [ringC, List.getElem?_append_right (by rw [bv_length]; omega), bv_length, h]; rfl
theorem ringC_taken {seed : List UInt8} (h : seed.length = 32) (tall : Nat) (R T : Value) : (ringC seed tall R T)[34]? = some T := by rw [ringC, List.getElem?_append_right (by rw [bv_length]; omega), bv_length, h]; rfl
def boolsC (tk : List Bool) : List Value := tk.map .bool
abbrev Levs (w : World) (F : Fp) (v : Value) (ls : List (List Dg)) := (Ty.sl (.sl DigT)).holds w F [v] ls
/-- The ring lies in block g, what was taken in block tb, its rows in F's blocks. -/
structure RingAt (w : World) (g tb : Nat) (F : Fp) (R : Value) (seed : List UInt8) (tall : Nat) (tk : List Bool) : Prop where
  blk : Blk w g 94 (ringC seed tall R (.slice (some ⟨tb, 0, none⟩) (2 ^ tall) (2 ^ tall)))
  tak : Blk w tb 4 (boolsC tk)
  rows : Levs w F R (levsM seed tall)
  ne : tb ≠ g
  fp : ∀ b, F b → b < w.heap.size ∧ b ≠ g ∧ b ≠ tb
  len : tk.length = 2 ^ tall
  low : tall ≤ 8
  seedl : seed.length = 32
theorem RingAt.keep {w w' : World} {g tb : Nat} {F : Fp} {R : Value} {seed : List UInt8} {tall : Nat} {tk : List Bool} {row : Option Nat} (h : RingAt w g tb F R seed tall tk) (hg : w.grownBy w' row) (h1 : some g ≠ row) (h2 : some tb ≠ row) (h3 : ∀ b, F b → some b ≠ row) : RingAt w' g tb F R seed tall tk :=
  ⟨h.blk.keep hg h1, h.tak.keep hg h2, Ty.keep (fun b hb => hg.block b (h.fp b hb).1 (h3 b hb)) (fun _ h => h) _ h.rows, h.ne, fun b hb => ⟨Nat.lt_of_lt_of_le (h.fp b hb).1 hg.size, (h.fp b hb).2⟩, h.len, h.low, h.seedl⟩
theorem RingAt.ext {w w' : World} {g tb : Nat} {F : Fp} {R : Value} {seed : List UInt8} {tall : Nat} {tk : List Bool} (h : RingAt w g tb F R seed tall tk) (hx : Ext w w') : RingAt w' g tb F R seed tall tk := h.keep hx (by simp) (by simp) (by simp)
theorem pow_low {tall : Nat} (h : tall ≤ 8) : 0 < 2 ^ tall ∧ 2 ^ tall ≤ 256 := ⟨Nat.two_pow_pos _, Nat.pow_le_pow_right (n := 2) (by decide) h⟩
section
variable {w : World} {g tb : Nat} {F : Fp} {R : Value} {seed : List UInt8} {tall : Nat} {tk : List Bool}
set_option maxRecDepth 100000 in
set_option maxHeartbeats 4000000 in
theorem Ring_in (h : RingAt w g tb F R seed tall tk) (key : Nat) (hkey : (Lit.int .u32 (key : Int)).wf = true) :
    Calls Try.prog 43 #[.pointer (some ⟨g, 0, none⟩), .int .u32 (key : Int)] w fun e w' => e = .returned (.bool (decide (key < 2 ^ tall))) ∧ Ext w w' := by
  have hk32 : key < 4294967296 := by have := bounds_u32 hkey; omega
  have c34 := (h.blk.cell 34).trans (ringC_taken h.seedl tall R _)
  have hp := pow_low h.low
  have HX : Hid (Ext w w) := Lib.hid (Ext.refl w)
  have HE : Hid (decide ((key : Int) < ((2 ^ tall : Nat) : Int)) = decide (key < 2 ^ tall)) := Lib.hid (by rw [decide_eq_decide]; omega)
  clear h
  generalize 2 ^ tall = n at *
  go_enter Try.func43, Try.ntmps43
  go_wp2
  go_ret
  exact ⟨by rw [← HE.out]; rfl, HX.out⟩
set_option maxRecDepth 100000 in
set_option maxHeartbeats 4000000 in
theorem Ring_Tall (h : RingAt w g tb F R seed tall tk) :
    Calls Try.prog 24 #[.pointer (some ⟨g, 0, none⟩)] w fun e w' => e = .returned (.int .i64 (tall : Int)) ∧ Ext w w' := by
  have c32 := (h.blk.cell 32).trans (ringC_tall h.seedl tall R _)
  have HX : Hid (Ext w w) := Lib.hid (Ext.refl w)
  clear h
  go_enter Try.func24, Try.ntmps24
  go_wp2
  go_ret
  exact ⟨rfl, HX.out⟩
/-- .. is a key taken? -/
def takenM (tk : List Bool) (key : Nat) : Bool := tk.getD key false
theorem bools_at (h : RingAt w g tb F R seed tall tk) {key : Nat} (hk : key < 2 ^ tall) : w.cell? ⟨tb, key, none⟩ = some (.bool (takenM tk key)) := by
  refine (h.tak.cell key).trans ?_
  have hl := h.len
  simp [boolsC, takenM, List.getD, show key < tk.length by omega]
theorem taken_out (h : RingAt w g tb F R seed tall tk) {key : Nat} (hk : ¬ key < 2 ^ tall) : takenM tk key = false := by
  have hl := h.len
  simp [takenM, List.getD, List.getElem?_eq_none (show tk.length ≤ key by omega)]
set_option maxRecDepth 100000 in
set_option maxHeartbeats 4000000 in
theorem Ring_Taken (h : RingAt w g tb F R seed tall tk) (key : Nat) (hkey : (Lit.int .u32 (key : Int)).wf = true) :
    Calls Try.prog 20 #[.pointer (some ⟨g, 0, none⟩), .int .u32 (key : Int)] w fun e w' => e = .returned (.bool (takenM tk key)) ∧ Ext w w' := by
  have hk32 : key < 4294967296 := by have := bounds_u32 hkey; omega
  have hin := Ring_in h key hkey
  have hp := pow_low h.low
  have HIN := Lib.hid hin
  by_cases hk : key < 2 ^ tall
  · have hdk : decide (key < 2 ^ tall) = true := decide_eq_true hk
    rw [hdk] at HIN
    have HH := Lib.hid h
    have HK := Lib.hid hk
    clear h hin hdk
    generalize hn : 2 ^ tall = n at *
    have HN := Lib.hid hn
    clear hn
    go_enter Try.func20, Try.ntmps20
    go_wp2_with (first
      | (go_at_call 43; refine HIN.out.mono ?_; rintro e w1 ⟨rfl, hx1⟩
         have c34 := ((HH.out.ext hx1).blk.cell 34).trans (ringC_taken HH.out.seedl tall R _)
         have ck := bools_at (HH.out.ext hx1) (key := key) (by rw [HN.out]; exact HK.out)
         rw [HN.out] at c34
         have hk := HK.out)
      | fail)
    go_ret
    exact ⟨by simp, hx1⟩
  · have hdk : decide (key < 2 ^ tall) = false := decide_eq_false hk
    rw [hdk] at HIN
    have HT := Lib.hid (taken_out h hk)
    clear h hin hdk hk
    go_enter Try.func20, Try.ntmps20
    go_wp2_with (first
      | (go_at_call 43; refine HIN.out.mono ?_; rintro e w1 ⟨rfl, hx1⟩)
      | fail)
    go_ret
    exact ⟨by rw [HT.out]; rfl, hx1⟩
theorem same_add (ad : Addr) (i : Nat) : (ad.add i).block = ad.block := add_block ad i
/-- The rows, each with its sums, in every world that has kept them. -/
theorem ring_rows (h : RingAt w g tb F R seed tall tk) : ∃ ad c, R = .slice (some ad) (tall + 1) c ∧ tall + 1 ≤ c ∧ c ≤ maxLen ∧ F ad.block ∧ ∀ j, j ≤ tall → ∃ ad2 c2, 2 ^ (tall - j) ≤ c2 ∧ c2 ≤ maxLen ∧ F ad2.block ∧
    ∀ W : World, (∀ b, F b → W.heap[b]? = w.heap[b]?) → W.cell? (ad.add j) = some (.slice (some ad2) (2 ^ (tall - j)) c2) ∧ ∀ i, i < 2 ^ (tall - j) → Cells W (ad2.add (i * 32)) (bv ((levM seed tall j).getD i [])) := by
  have hll0 : (levsM seed tall).length = tall + 1 := by simp [levsM]
  have hll : List.length (α := (Ty.sl DigT).Data) (levsM seed tall) = tall + 1 := hll0
  obtain ⟨A, c, xs, hv, h1, h2, h3, h4, h5⟩ := h.rows
  cases hv
  obtain ⟨ad, rfl, hF, hc⟩ := h4 (by intro e; rw [e] at hll; simp at hll)
  rw [hll] at h1 ⊢
  refine ⟨ad, c, rfl, h1, h2, hF, fun j hj => ?_⟩
  have hlj : j < List.length (α := (Ty.sl DigT).Data) (levsM seed tall) := by omega
  obtain ⟨v, hv, hw⟩ := AllH.sl_at h5 hlj
  have hel : (levsM seed tall)[j]'(by rw [hll0]; omega) = levM seed tall j := by simp [levsM]
  have hw' : (Ty.sl DigT).holds w F [v] (levM seed tall j) := by rw [← hel]; exact hw
  obtain ⟨A2, c2, ys, hv2, k1, k2, k3, k4, k5⟩ := hw'
  obtain rfl : v = _ := by simpa using hv2
  have hl := levM_length seed tall j hj
  have hpos : 0 < 2 ^ (tall - j) := Nat.two_pow_pos _
  obtain ⟨ad2, rfl, hF2, hc2⟩ := k4 (by
    intro e
    have e' : List.length (α := Dg) (levM seed tall j) = 0 := by rw [e]; rfl
    omega)
  replace k1 : List.length (α := Dg) (levM seed tall j) ≤ c2 := k1
  replace hv : xs[j]? = some (.slice (some ad2) (List.length (α := Dg) (levM seed tall j)) c2) := hv
  rw [hl] at k1 hv
  refine ⟨ad2, c2, k1, k2, hF2, fun W hW => ⟨?_, fun i hi => ?_⟩⟩
  · exact (hc.keep (hW _ hF)) j _ hv
  · have hi' : i < List.length (α := Dg) (levM seed tall j) := by rw [hl]; exact hi
    have := digs_at (w' := W) k5 (hc2.keep (hW _ hF2)) hi'
    rw [show (levM seed tall j).getD i [] = (levM seed tall j)[i] by simp [List.getD, hi']]
    exact this.1
end
end
section
open Go.RowKit

set_option maxRecDepth 100000 in
set_option maxHeartbeats 4000000 in
theorem Ring_Root {w : World} {g tb : Nat} {F : Fp} {R : Value} {seed : List UInt8} {tall : Nat} {tk : List Bool} (h : RingAt w g tb F R seed tall tk) :
    Calls Try.prog 19 #[.pointer (some ⟨g, 0, none⟩)] w fun e w' => e = .returned (.agg (bv (rootM seed tall)).toArray) ∧ Ext w w' := by
  have hzd := digest_zero
  have hdl : (bv (List.replicate 32 0)).length = 32 := by simp
  generalize bv (List.replicate 32 0) = D at hzd hdl
  have hx0 : Ext w (w.alloc (.cells D.toArray 55)).drew := ((Ext.refl w).alloc _).trans (Ext.refl _).drew
  have hz : Blk (w.alloc (.cells D.toArray 55)).drew w.heap.size 55 D := (Blk.new _ _ _).keep (Ext.refl _).drew (by simp)
  have hb := h.blk.keep hx0 (by simp)
  obtain ⟨ad, c, rfl, hc1, hc2, hFa, hrows⟩ := ring_rows h
  obtain ⟨ad2, c2, hk1, hk2, hF2, hrow⟩ := hrows tall (Nat.le_refl _)
  rw [Nat.sub_self, Nat.pow_zero] at hrow hk1
  have hro := bv_one (rootM seed tall)
  have hrl : (bv (rootM seed tall)).length = 32 := by rw [bv_length]; exact rootM_length _ _
  have hrow2 : ∀ W, Ext (w.alloc (.cells D.toArray 55)).drew W → W.cell? (ad.add tall) = some (.slice (some ad2) 1 c2) ∧ Cells W ad2 (bv (rootM seed tall)) := fun W hX => by
    have h1 := hrow W (fun b hb => (hx0.trans hX).block b (h.fp b hb).1 (by simp))
    refine ⟨h1.1, ?_⟩
    have h2 := h1.2 0 (by decide)
    rw [Nat.zero_mul] at h2
    exact h2
  have hcr := ringC_rows h.seedl tall (.slice (some ad) (tall + 1) c) (.slice (some ⟨tb, 0, none⟩) (2 ^ tall) (2 ^ tall))
  have hct := ringC_tall h.seedl tall (.slice (some ad) (tall + 1) c) (.slice (some ⟨tb, 0, none⟩) (2 ^ tall) (2 ^ tall))
  have hlow := h.low
  generalize bv (rootM seed tall) = RT at *
  generalize ringC seed tall (.slice (some ad) (tall + 1) c) (.slice (some ⟨tb, 0, none⟩) (2 ^ tall) (2 ^ tall)) = RC at *
  have HDL := Lib.hid hdl
  have HX0 := Lib.hid hx0
  have HZ := Lib.hid hz
  have HB := Lib.hid hb
  have HROW := Lib.hid hrow2
  have HRL := Lib.hid hrl
  have HCR := Lib.hid hcr
  have HCT := Lib.hid hct
  clear hdl hx0 hz hb hrow2 hrl hcr hct hrows hrow h
  unfold maxLen at hc2 hk2
  go_enter Try.func19, Try.ntmps19
  go_wp2_with (first
    | ((with_reducible refine wpDst 2 rfl ?_); refine wpList_alloc _ rfl 55 rfl _ hzd ?_)
    | fail)
  refine stab_store Ext ext_refl ext_trans [[0], [0, 1], [0, 1, 2], [0, 1, 2, 3], [4], [4, 5], [4, 5, 6], [4, 5, 6, 7], [0, 1, 2, 3, 4, 5, 6, 7, 8], [0, 1, 2, 3, 4, 5, 6, 7, 8, 9], [0, 1, 2, 3, 4, 5, 6, 7, 8, 9, 10], [0, 1, 2, 3, 4, 5, 6, 7, 8, 9, 10, 11], [0, 1, 2, 3, 4, 5, 6, 7, 8, 9, 10, 11, 12]] (fun i v wv => match i with | 0 => v = .pointer (some ⟨g, 0, none⟩) | 1 => v = .pointer (some ⟨g, 0, none⟩) | 2 => v = .pointer (some ⟨g, 33, none⟩) | 3 => v = .slice (some ad) (tall + 1) c | 4 => v = .pointer (some ⟨g, 0, none⟩) | 5 => v = .pointer (some ⟨g, 0, none⟩) | 6 => v = .pointer (some ⟨g, 32, none⟩) | 7 => v = .int .i64 (tall : Int) | 8 => v = .pointer (some (ad.add tall)) | 9 => v = .slice (some ad2) 1 c2 | 10 => v = .pointer (some ad2) | 11 => v = .agg RT.toArray | _ => True) (by kernel_rfl) (by kernel_rfl) (by kernel_rfl) (by kernel_rfl) (by simp) ?_ ?_ ?_
  · intro i v w1 w2 h hx
    match i, h with
    | 0, h => exact h
    | 1, h => exact h
    | 2, h => exact h
    | 3, h => exact h
    | 4, h => exact h
    | 5, h => exact h
    | 6, h => exact h
    | 7, h => exact h
    | 8, h => exact h
    | 9, h => exact h
    | 10, h => exact h
    | 11, h => exact h
    | i + 12, h => trivial
  · intro i hi o ho
    match i, hi, ho with
    | 0, _, ho =>
      obtain rfl := Option.some.inj ho
      intro s W hX hd K hK
      rw [if_pos (wanted_plain rfl)]
      clear hd
      replace hK : ∀ (v : Value) (W' : World), Ext W W' → (v = .pointer (some ⟨g, 0, none⟩)) → _ := hK
      simp only [mkOf, List.map_cons, List.map_nil, Act.put, List.setIfInBounds_toArray, List.set_cons_succ, List.set_cons_zero, Nat.reduceAdd, Nat.zero_add] at hK ⊢
      go_simp
      exact hK _ _ (Ext.refl _) rfl
    | 1, _, ho =>
      obtain rfl := Option.some.inj ho
      intro s W hX hd K hK
      rw [if_pos (wanted_plain rfl)]
      have d6 : (s 0) = .pointer (some ⟨g, 0, none⟩) := hd 0 (by decide) (by decide)
      clear hd
      replace hK : ∀ (v : Value) (W' : World), Ext W W' → (v = .pointer (some ⟨g, 0, none⟩)) → _ := hK
      simp only [mkOf, List.map_cons, List.map_nil, Act.put, List.setIfInBounds_toArray, List.set_cons_succ, List.set_cons_zero, Nat.reduceAdd, Nat.zero_add] at hK ⊢
      simp only [d6] at hK ⊢
      go_simp
      exact hK _ _ (Ext.refl _) rfl
    | 2, _, ho =>
      obtain rfl := Option.some.inj ho
      intro s W hX hd K hK
      rw [if_pos (wanted_plain rfl)]
      have d7 : (s 1) = .pointer (some ⟨g, 0, none⟩) := hd 1 (by decide) (by decide)
      clear hd
      replace hK : ∀ (v : Value) (W' : World), Ext W W' → (v = .pointer (some ⟨g, 33, none⟩)) → _ := hK
      simp only [mkOf, List.map_cons, List.map_nil, Act.put, List.setIfInBounds_toArray, List.set_cons_succ, List.set_cons_zero, Nat.reduceAdd, Nat.zero_add] at hK ⊢
      simp only [d7] at hK ⊢
      go_simp
      exact hK _ _ (Ext.refl _) rfl
    | 3, _, ho =>
      obtain rfl := Option.some.inj ho
      intro s W hX hd K hK
      rw [if_pos (wanted_plain rfl)]
      have d8 : (s 2) = .pointer (some ⟨g, 33, none⟩) := hd 2 (by decide) (by decide)
      clear hd
      replace hK : ∀ (v : Value) (W' : World), Ext W W' → (v = .slice (some ad) (tall + 1) c) → _ := hK
      simp only [mkOf, List.map_cons, List.map_nil, Act.put, List.setIfInBounds_toArray, List.set_cons_succ, List.set_cons_zero, Nat.reduceAdd, Nat.zero_add] at hK ⊢
      simp only [d8] at hK ⊢
      have c33 := (HB.out.keep hX (by simp)).cell 33
      rw [HCR.out] at c33
      go_simp
      exact hK _ _ (Ext.refl _) rfl
    | 4, _, ho =>
      obtain rfl := Option.some.inj ho
      intro s W hX hd K hK
      rw [if_pos (wanted_plain rfl)]
      clear hd
      replace hK : ∀ (v : Value) (W' : World), Ext W W' → (v = .pointer (some ⟨g, 0, none⟩)) → _ := hK
      simp only [mkOf, List.map_cons, List.map_nil, Act.put, List.setIfInBounds_toArray, List.set_cons_succ, List.set_cons_zero, Nat.reduceAdd, Nat.zero_add] at hK ⊢
      go_simp
      exact hK _ _ (Ext.refl _) rfl
    | 5, _, ho =>
      obtain rfl := Option.some.inj ho
      intro s W hX hd K hK
      rw [if_pos (wanted_plain rfl)]
      have d10 : (s 4) = .pointer (some ⟨g, 0, none⟩) := hd 4 (by decide) (by decide)
      clear hd
      replace hK : ∀ (v : Value) (W' : World), Ext W W' → (v = .pointer (some ⟨g, 0, none⟩)) → _ := hK
      simp only [mkOf, List.map_cons, List.map_nil, Act.put, List.setIfInBounds_toArray, List.set_cons_succ, List.set_cons_zero, Nat.reduceAdd, Nat.zero_add] at hK ⊢
      simp only [d10] at hK ⊢
      go_simp
      exact hK _ _ (Ext.refl _) rfl
    | 6, _, ho =>
      obtain rfl := Option.some.inj ho
      intro s W hX hd K hK
      rw [if_pos (wanted_plain rfl)]
      have d11 : (s 5) = .pointer (some ⟨g, 0, none⟩) := hd 5 (by decide) (by decide)
      clear hd
      replace hK : ∀ (v : Value) (W' : World), Ext W W' → (v = .pointer (some ⟨g, 32, none⟩)) → _ := hK
      simp only [mkOf, List.map_cons, List.map_nil, Act.put, List.setIfInBounds_toArray, List.set_cons_succ, List.set_cons_zero, Nat.reduceAdd, Nat.zero_add] at hK ⊢
      simp only [d11] at hK ⊢
      go_simp
      exact hK _ _ (Ext.refl _) rfl
    | 7, _, ho =>
      obtain rfl := Option.some.inj ho
      intro s W hX hd K hK
      rw [if_pos (wanted_plain rfl)]
      have d12 : (s 6) = .pointer (some ⟨g, 32, none⟩) := hd 6 (by decide) (by decide)
      clear hd
      replace hK : ∀ (v : Value) (W' : World), Ext W W' → (v = .int .i64 (tall : Int)) → _ := hK
      simp only [mkOf, List.map_cons, List.map_nil, Act.put, List.setIfInBounds_toArray, List.set_cons_succ, List.set_cons_zero, Nat.reduceAdd, Nat.zero_add] at hK ⊢
      simp only [d12] at hK ⊢
      have c32 := (HB.out.keep hX (by simp)).cell 32
      rw [HCT.out] at c32
      go_simp
      exact hK _ _ (Ext.refl _) rfl
    | 8, _, ho =>
      obtain rfl := Option.some.inj ho
      intro s W hX hd K hK
      rw [if_pos (wanted_plain rfl)]
      have d9 : (s 3) = .slice (some ad) (tall + 1) c := hd 3 (by decide) (by decide)
      have d13 : (s 7) = .int .i64 (tall : Int) := hd 7 (by decide) (by decide)
      clear hd
      replace hK : ∀ (v : Value) (W' : World), Ext W W' → (v = .pointer (some (ad.add tall))) → _ := hK
      simp only [mkOf, List.map_cons, List.map_nil, Act.put, List.setIfInBounds_toArray, List.set_cons_succ, List.set_cons_zero, Nat.reduceAdd, Nat.zero_add] at hK ⊢
      simp only [d9, d13] at hK ⊢
      have hlt : (tall : Int) < (tall : Int) + 1 := by omega
      go_simp
      exact hK _ _ (Ext.refl _) rfl
    | 9, _, ho =>
      obtain rfl := Option.some.inj ho
      intro s W hX hd K hK
      rw [if_pos (wanted_plain rfl)]
      have d14 : (s 8) = .pointer (some (ad.add tall)) := hd 8 (by decide) (by decide)
      clear hd
      replace hK : ∀ (v : Value) (W' : World), Ext W W' → (v = .slice (some ad2) 1 c2) → _ := hK
      simp only [mkOf, List.map_cons, List.map_nil, Act.put, List.setIfInBounds_toArray, List.set_cons_succ, List.set_cons_zero, Nat.reduceAdd, Nat.zero_add] at hK ⊢
      simp only [d14] at hK ⊢
      have cr := (HROW.out W hX).1
      go_simp
      exact hK _ _ (Ext.refl _) rfl
    | 10, _, ho =>
      obtain rfl := Option.some.inj ho
      intro s W hX hd K hK
      rw [if_pos (wanted_plain rfl)]
      have d15 : (s 9) = .slice (some ad2) 1 c2 := hd 9 (by decide) (by decide)
      clear hd
      replace hK : ∀ (v : Value) (W' : World), Ext W W' → (v = .pointer (some ad2)) → _ := hK
      simp only [mkOf, List.map_cons, List.map_nil, Act.put, List.setIfInBounds_toArray, List.set_cons_succ, List.set_cons_zero, Nat.reduceAdd, Nat.zero_add] at hK ⊢
      simp only [d15] at hK ⊢
      go_simp
      exact hK _ _ (Ext.refl _) rfl
    | 11, _, ho =>
      obtain rfl := Option.some.inj ho
      intro s W hX hd K hK
      rw [if_pos (wanted_plain rfl)]
      have d16 : (s 10) = .pointer (some ad2) := hd 10 (by decide) (by decide)
      clear hd
      replace hK : ∀ (v : Value) (W' : World), Ext W W' → (v = .agg RT.toArray) → _ := hK
      simp only [mkOf, List.map_cons, List.map_nil, Act.put, List.setIfInBounds_toArray, List.set_cons_succ, List.set_cons_zero, Nat.reduceAdd, Nat.zero_add] at hK ⊢
      simp only [d16] at hK ⊢
      refine wp_load_agg 55 (.tmp 16) rfl ad2 (by simp [Act.eval]) RT _ Try.underlying55 rfl (digest_size HRL.out) (HROW.out W hX).2 ?_
      exact hK _ _ (Ext.refl _) rfl
    | i + 12, hi, _ => exact absurd hi (by simp)
  · intro o ho
    obtain rfl := Option.some.inj ho
    intro s W hX hd K hK
    rw [if_pos (wanted_plain rfl)]
    have d6 : (s 0) = .pointer (some ⟨g, 0, none⟩) := hd 0 (by decide)
    have d7 : (s 1) = .pointer (some ⟨g, 0, none⟩) := hd 1 (by decide)
    have d8 : (s 2) = .pointer (some ⟨g, 33, none⟩) := hd 2 (by decide)
    have d9 : (s 3) = .slice (some ad) (tall + 1) c := hd 3 (by decide)
    have d10 : (s 4) = .pointer (some ⟨g, 0, none⟩) := hd 4 (by decide)
    have d11 : (s 5) = .pointer (some ⟨g, 0, none⟩) := hd 5 (by decide)
    have d12 : (s 6) = .pointer (some ⟨g, 32, none⟩) := hd 6 (by decide)
    have d13 : (s 7) = .int .i64 (tall : Int) := hd 7 (by decide)
    have d14 : (s 8) = .pointer (some (ad.add tall)) := hd 8 (by decide)
    have d15 : (s 9) = .slice (some ad2) 1 c2 := hd 9 (by decide)
    have d16 : (s 10) = .pointer (some ad2) := hd 10 (by decide)
    have d17 : (s 11) = .agg RT.toArray := hd 11 (by decide)
    clear hd
    simp only [mkOf, List.map_cons, List.map_nil, Act.put, List.setIfInBounds_toArray, List.set_cons_succ, List.set_cons_zero, Nat.reduceAdd, Nat.zero_add]
    have hB := HZ.out.keep hX (by simp)
    refine wp_store_row 55 (.tmp 2) (.tmp 17) rfl w.heap.size (by simp [Act.eval]) D RT _ (by simpa [Act.eval] using d17) hB (digest_size HRL.out) (by rw [HRL.out, HDL.out]) hro ?_
    refine hK _ _ ?_
    have hxw : Ext w (W.setRow w.heap.size RT.toArray) := setRow_grown (HX0.out.trans hX) _ _ (Nat.le_refl _)
    have hc : Cells (W.setRow w.heap.size RT.toArray) ⟨w.heap.size, 0, none⟩ RT := Blk.cells (t := 55) (setRow_at hB)
    (try simp only [Exit.then])
    go_wp2_with fail
    (try simp only [Exit.inBlock, Exit.then])
    refine bodyPost_ret (results_agg rfl _ _ _ _ _ rfl Try.underlying55 rfl (digest_size HRL.out) hc) rfl ?_
    exact ⟨rfl, hxw⟩
end
section
open Go.RowKit

def GrB (g : Nat) (w w' : World) : Prop := w.grownBy w' (some g)
theorem GrB.of {g : Nat} {w w' : World} (h : GrB g w w') : w.grownBy w' (some g) := h
theorem GrB.rf (g : Nat) (a : World) : GrB g a a := World.grownBy.refl _ _
theorem GrB.tr (g : Nat) (a b c : World) (h : GrB g a b) (k : GrB g b c) : GrB g a c := World.grownBy.trans h k
section
variable {P : Program} {md : Region.Mode} {ops : Array Oper} {Q : Exit → Act → World → Prop} {B : Nat}
theorem takeG (i : Nat) {oi : Oper} {fuel : Nat} {listed : Array Bool} {a : Act} {w : World} (hi : (ops.toList.drop i).head? = some oi)
    (hs : Region.noSelect ops = true) (hf : Region.free md ops listed i = true) (hr : (Region.ready md ops listed).contains i = true) (hc : valB oi.op = true)
    (hQ : ∀ v c a w, Q (.panic c) (a.put oi.dst v) w → Q (.panic c) a w) (hw : Region.wanted oi (yielded ops a.tmps) = true)
    (h : ∀ K : Act → Prop, (∀ a', wpAnyM P md ops Q (GrB B) fuel (listed.setIfInBounds i true) a' w → K a') → oi.quiet P a (GrB B w) K) : wpAnyM P md ops Q (GrB B) (fuel + 1) listed a w :=
  takeM (GrB.rf B) (GrB.tr B) i (op_at hi) hs hf hr hQ hw fun K hK => quiet_val hc (h K hK)
theorem skipG (i : Nat) {oi : Oper} {fuel : Nat} {listed : Array Bool} {a : Act} {w : World} (hi : (ops.toList.drop i).head? = some oi)
    (hs : Region.noSelect ops = true) (hf : Region.free md ops listed i = true) (hr : (Region.ready md ops listed).contains i = true)
    (hQ : ∀ v c a w, Q (.panic c) (a.put oi.dst v) w → Q (.panic c) a w) (hw : Region.wanted oi (yielded ops a.tmps) = false)
    (h : wpAnyM P md ops Q (GrB B) fuel (listed.setIfInBounds i true) (a.put oi.dst undef) w) : wpAnyM P md ops Q (GrB B) (fuel + 1) listed a w :=
  skipM (GrB.rf B) (GrB.tr B) i (op_at hi) hs hf hr hQ hw h
theorem nilG (i : Nat) {oi : Oper} {fuel : Nat} {listed : Array Bool} {a : Act} {w : World} (hi : (ops.toList.drop i).head? = some oi)
    (hs : Region.noSelect ops = true) (hf : Region.free md ops listed i = true) (hr : (Region.ready md ops listed).contains i = true) (x : Operand) (ho : oi.op = .nilCheck x) (ad : Addr) (hx : a.eval x = .pointer (some ad))
    (hQ : ∀ v c a w, Q (.panic c) (a.put oi.dst v) w → Q (.panic c) a w) (hw : Region.wanted oi (yielded ops a.tmps) = true)
    (h : wpAnyM P md ops Q (GrB B) fuel (listed.setIfInBounds i true) (a.put oi.dst (.pointer (some ad))) w) : wpAnyM P md ops Q (GrB B) (fuel + 1) listed a w :=
  takeM (GrB.rf B) (GrB.tr B) i (op_at hi) hs hf hr hQ hw fun K hK => ⟨_, fun w' _ => by unfold execOp; simp only [ho, hx]; rfl, hK _ h⟩
end
section
variable {P : Program} {C : World → Prop} {o : Oper} {a : Act} {K : Act → Prop}
/-- A comparison whose run is known. -/
theorem quiet_bin2 (op : BinOp) (t : TypeId) {t' : TypeId} (x y : Operand) (ho : o.op = .binOp op t x y t') (u v : Value) {r : Value} (hx : a.eval x = u) (hy : a.eval y = v)
    (hg : ∀ w, (eqGuard op t x y u v).run P w = .ok () w) (hb : ∀ w, (binOp op t u v).run P w = .ok r w) (hk : K (a.put o.dst r)) : o.quiet P a C K :=
  quiet_run r (fun w _ => by
    unfold execOp
    simp only [ho, hx, hy, Sem.run_bind, hg, hb, Result.andThen_ok, Sem.run_pure]) hk
end
end
end Go.Proofs.Ytpdkmapogncgmaa

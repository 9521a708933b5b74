/- Walks and plain laws, put together in build order. Conditions: what each of them names. -/
import Derived.Test.YtmicjaiiinaipaaW0a312707b8
set_option linter.unusedVariables false
set_option linter.unusedSimpArgs false
set_option linter.unnecessarySimpa false
namespace Go.Proofs.Ytmicjaiiinaipaa
section
open Go.RowKit

theorem own1_cells {w : World} {b : Addr} {x : UInt8} {e : TypeId} (h : Own w e 1 (.slice (some b) 1 1) 1 [.int .u8 (x.toNat : Int)]) : ∀ j v, [Value.int .u8 (x.toNat : Int)][j]? = some v → w.cell? (b.add j) = some v := by
  rcases h.2 with ⟨h1, _⟩ | ⟨g, cap, cur, hv, _⟩
  · cases h1
  · cases hv
    exact World.ownsRow.cells h rfl
section
variable {P : Program}
/-- .. appended to a full slice of one: a new array. -/
theorem wpList_app1_full {w : World} {ops : Array Oper} {rest : List Oper} {o : Oper} {a : Act} {Q : Exit → Act → World → Prop} (hgd : o.guard = none) (s p : Operand) (t t' : TypeId)
    (ho : o.op = .call { callee := .builtin .append, args := #[s, p], argTypes := #[t, t'] })
    (e e' : TypeId) (i : TypeInfo) (z : Value) (ht : P.underlying t = some (.slice e)) (ht' : P.underlying t' = some (.slice e')) (hi : P.info? e = some i) (hz : i.zero = some z)
    (hsize : i.size = 1) (hby : i.bytes = 1) (hzs : z.cells.size = 1)
    (b : Addr) (x : UInt8) (u : Value) (ad : Addr) (c : Nat) (hs : a.eval s = .slice (some b) 1 1) (hown : Own w e 1 (.slice (some b) 1 1) 1 [.int .u8 (x.toNat : Int)])
    (hx : a.eval p = .slice (some ad) 1 c) (hc : Cells w ad [u]) (h1 : u.oneCell' = true)
    (h : ∀ v' w', Own w' e 1 v' 2 [.int .u8 (x.toNat : Int), u] → Ext w w' → (∀ g, v'.ownBlock = some g → w.heap.size ≤ g) → wpList P ops Q rest (a.put o.dst v') w') : wpList P ops Q (o :: rest) a w := by
  obtain ⟨v', w', hr, h2, h3⟩ := run_app (P := P) w t t' o.type e e' i z 1 1 ht ht' hi hz hsize hby hzs (by decide) _ 1 [.int .u8 (x.toNat : Int)] hown (some ad) 1 c [u] rfl (fun _ => ⟨_, rfl, hc⟩) (by simpa using h1) (by decide) (by decide)
  have hg := run_append_grow (P := P) (w := w) t o.type e i z ht hi hz b 1 1 [.int .u8 (x.toNat : Int)] (by rw [hsize]; rfl) (own1_cells hown) ad 1 c [u] (by rw [hsize]; rfl) (fun j v hj => hc j v hj) (by omega) (by omega)
    (by rw [hby, show Builtin.nextslicecap (1 + 1) 1 = 2 from by decide]; omega)
  rw [← append_types w ht ht'] at hg
  rw [hr] at hg
  have hq := hg
  simp only [Result.ok.injEq] at hq
  obtain ⟨hv, hw⟩ := hq
  refine wpList_plain hgd fun K hK => ?_
  unfold Oper.wp execOp
  simp only [ho, resolve, invoke, builtin, Sem.run_bind, Sem.run_pure, Result.andThen_ok, List.map_toArray, List.map_cons, List.map_nil, hs, hx, hr]
  refine hK _ _ (h v' w' (by simpa using h2) ?_ ?_)
  · rw [hw]; exact (Ext.refl _).drew.alloc _
  · intro g hgb
    rw [hv] at hgb
    simp [Value.ownBlock] at hgb
    omega
end
set_option maxRecDepth 100000 in
set_option maxHeartbeats 400000 in
theorem numF (b : Addr) (x : UInt8) (n size : Nat) (w : World) (ho : OwnB w (.slice (some b) 1 1) [x]) (_hn : n < 18446744073709551616) (hs : size ≤ 8) (hs0 : 0 < size) :
    Calls Try.prog 47 #[.slice (some b) 1 1, .int .u64 n, .int .i64 size] w fun e w' => ∃ v', e = .returned v' ∧ OwnB w' v' ([x] ++ be size n) ∧ Ext w w' ∧ ∀ g, v'.ownBlock = some g → w.heap.size ≤ g := by
  obtain ⟨i0, hi, hz0, hz1, hz2⟩ := info_parts u8_info
  have HO := Lib.hid ho
  clear ho
  go_enter Try.func47, Try.ntmps47
  go_wp2
  go_loopw [0, 7] (fun vr i wr => ∃ j : Nat, j ≤ size ∧ i = .int .i64 ((j : Int) - 1) ∧ Ext w wr ∧ ((j = size ∧ vr = .slice (some b) 1 1) ∨ (j < size ∧ OwnB wr vr ([x] ++ beTop size j n) ∧ ∀ g, vr.ownBlock = some g → w.heap.size ≤ g))) (fun _ i _ => (intOf i + 1).toNat)
  case atStart => exact ⟨size, by omega, rfl, Ext.refl _, .inl ⟨rfl, rfl⟩⟩
  case round =>
    obtain ⟨j, hj, rfl, hxr, hst⟩ := hrel
    rcases hst with ⟨rfl, rfl⟩ | ⟨hjs, hor, hnr⟩
    · have hxa : Ext wr (wr.alloc (.cells #[.int .u8 ((n : Int) / 2 ^ (8 * (j - 1)) % 256)] 5)) := (Ext.refl wr).alloc _
      have hor := (HO.out.ext hxr).ext hxa
      have hca : Cells (wr.alloc (.cells #[.int .u8 ((n : Int) / 2 ^ (8 * (j - 1)) % 256)] 5)) ⟨wr.heap.size, 0, none⟩ [.int .u8 ((n : Int) / 2 ^ (8 * (j - 1)) % 256)] := by have h := Cells.of_block (heap_alloc_new wr (.cells #[.int .u8 ((n : Int) / 2 ^ (8 * (j - 1)) % 256)] 5)); simpa using h
      go_wp2_with (at_builtin; refine wpList_app1_full rfl (.tmp 14) (.tmp 20) _ _ rfl _ _ i0 _ Try.underlying36 Try.underlying36 hi hz0 hz1 hz2 rfl b x (.int .u8 ((n : Int) / 2 ^ (8 * (j - 1)) % 256)) _ _ rfl hor rfl hca rfl ?_; intro v' w1 ho1 hx1 hn1)
      go_roundw
      case rel =>
        refine ⟨j - 1, by omega, by rw [show ((j - 1 : Nat) : Int) = (j : Int) - 1 by omega], (hxr.trans hxa).trans hx1, .inr ⟨by omega, ?_, fun g hg => Nat.le_trans hxr.size (Nat.le_trans hxa.size (hn1 g hg))⟩⟩
        rw [beTop_step j j n hs0 (Nat.le_refl j)]
        have e : beTop j j n = [] := by simp [beTop]
        rw [e]
        have h3 : Own w1 5 1 v' ([x].length + 1) (bv [x] ++ [.int .u8 ((n : Int) / 2 ^ (8 * (j - 1)) % 256)]) := ho1
        have h4 := OwnB.snoc h3 (be_byte n j)
        simpa using h4
      case measure => simp [intOf]; omega
    · have hl := beTop_length size j n
      have hl2 : ([x] ++ beTop size j n).length = size - j + 1 := by rw [List.length_append, hl]; simp; omega
      by_cases hlt : 0 < j
      · go_wp2_with (at_builtin; refine wpList_app1 wr rfl (.tmp 14) (.tmp 20) _ _ rfl _ _ 5 i0 _ 1 1 Try.underlying36 Try.underlying36 hi hz0 hz1 hz2 rfl (by decide) _ _ _ [.int .u8 ((n : Int) / 2 ^ (8 * (j - 1)) % 256)] rfl hor rfl rfl (by simp [Value.oneCell']) (by unfold maxLen; omega) (by omega) ?_; intro v' w1 ho1 hm1)
        go_roundw
        case rel =>
          refine ⟨j - 1, by omega, by rw [show ((j - 1 : Nat) : Int) = (j : Int) - 1 by omega], grown_then hxr hm1.grown (.inr hnr), .inr ⟨by omega, ?_, fun g hg => ?_⟩⟩
          · rw [beTop_step size j n hlt hj, ← List.append_assoc]
            exact OwnB.snoc ho1 (be_byte n j)
          · rcases hm1.at_ with e | hn
            · exact hnr g (e.symm.trans hg)
            · exact Nat.le_trans hxr.size (hn g hg)
        case measure => simp [intOf]; omega
      · obtain rfl : j = 0 := by omega
        go_wp2
        go_ret
        exact ⟨_, rfl, by simpa [beTop, List.take_of_length_le, be_length] using hor, hxr, hnr⟩
set_option maxRecDepth 100000 in
set_option maxHeartbeats 400000 in
theorem fourF (b : Addr) (x : UInt8) (vl : Value) (n : Nat) (w : World) (F : Fp) (ho : OwnB w (.slice (some b) 1 1) [x]) (hl : (Ty.sl (.nat .u32)).holds w F [vl] [n]) (hF : ∀ b, F b → b < w.heap.size) :
    Calls Try.prog 26 #[.slice (some b) 1 1, vl] w fun e w' => ∃ v', e = .returned v' ∧ OwnB w' v' ([x] ++ be 4 n) ∧ Ext w w' ∧ ∀ g, v'.ownBlock = some g → w.heap.size ≤ g := by
  obtain ⟨A, c, xs, hv, hlc, hc, _, hcell, hall⟩ := hl
  cases hv
  unfold maxLen at hc
  obtain ⟨ad, rfl, hf, hcells⟩ := hcell (by simp)
  obtain ⟨hx, hwf⟩ := AllH.nat_at hall (show 0 < [n].length by simp)
  have hcx := hcells 0 _ hx
  have hbd := bounds_u32 hwf
  have hfl := hF _ hf
  have HO := Lib.hid ho
  clear hwf hx hall hcells hcell ho
  simp only [List.getElem_cons_zero] at hcx hbd
  replace hcx : w.cell? ad = some (.int .u32 (n : Int)) := hcx
  go_enter Try.func26, Try.ntmps26
  go_wp2
  go_loopw [0, 9] (fun vr i wr => Ext w wr ∧ ((i = .int .i64 0 ∧ vr = .slice (some b) 1 1) ∨ (i = .int .i64 1 ∧ OwnB wr vr ([x] ++ be 4 n) ∧ ∀ g, vr.ownBlock = some g → w.heap.size ≤ g))) (fun _ i _ => 1 - (intOf i).toNat)
  case atStart => exact ⟨Ext.refl _, .inl ⟨rfl, rfl⟩⟩
  case round =>
    obtain ⟨hxr, hst⟩ := hrel
    rcases hst with ⟨rfl, rfl⟩ | ⟨rfl, hor, hnr⟩
    · have hor := HO.out.ext hxr
      have hcr := World.grownBy.cell hxr hcx (by simp)
      go_wp2_with fail
      refine (numF b x n 4 _ hor (by omega) (by omega) (by omega)).mono ?_
      rintro e w1 ⟨v1, rfl, ho1, hx1, hn1⟩
      go_wp2
      go_roundw
      case rel => exact ⟨hxr.trans hx1, .inr ⟨rfl, ho1, fun g hg => Nat.le_trans hxr.size (hn1 g hg)⟩⟩
      case measure => simp [intOf]
    · go_wp2
      go_ret
      exact ⟨_, rfl, hor, hxr, hnr⟩
set_option maxRecDepth 100000 in
set_option maxHeartbeats 400000 in
theorem oneF (b : Addr) (x y : UInt8) (vl : Value) (w : World) (F : Fp) (ho : OwnB w (.slice (some b) 1 1) [x]) (hl : (Ty.sl .u8).holds w F [vl] [y]) :
    Calls Try.prog 28 #[.slice (some b) 1 1, vl] w fun e w' => ∃ v', e = .returned v' ∧ OwnB w' v' ([x] ++ [y]) ∧ Ext w w' ∧ ∀ g, v'.ownBlock = some g → w.heap.size ≤ g := by
  obtain ⟨i0, hi, hz0, hz1, hz2⟩ := info_parts u8_info
  obtain ⟨A, c, xs, hv, hlc, hc, _, hcell, hall⟩ := hl
  cases hv
  unfold maxLen at hc
  obtain ⟨ad, rfl, hf, hcells⟩ := hcell (by simp)
  rw [AllH.bytes.1 hall] at hcells
  have hca : Cells w ad [.int .u8 (y.toNat : Int)] := hcells
  have HO := Lib.hid ho
  have HCA := Lib.hid hca
  clear hall hcells hcell ho hca
  go_enter Try.func28, Try.ntmps28
  go_wp2_with (at_builtin; refine wpList_app1_full rfl _ _ _ _ rfl _ _ i0 _ Try.underlying36 Try.underlying35 hi hz0 hz1 hz2 rfl b x (.int .u8 (y.toNat : Int)) _ _ rfl HO.out rfl HCA.out rfl ?_; intro v' w1 ho1 hx1 hn1)
  go_ret
  exact ⟨_, rfl, ho1, hx1, hn1⟩
section
variable {g : Nat} {w0 w : World} {cur : Value} {xs : List Item}
theorem CJ.four1 (h : CJ g w0 (.slice none 0 0) cur [] xs w) (b : Addr) (x : UInt8) (hb : OwnB w0 (.slice (some b) 1 1) [x]) {n : Nat} {vl : Value} (hx : (⟨.nat .u32, [n], vl⟩ : Item) ∈ xs) :
    Calls Try.prog 26 #[.slice (some b) 1 1, vl] w fun e w' => ∃ v', e = .returned v' ∧ CJ g w0 (.slice none 0 0) v' ([x] ++ be 4 n) xs w' ∧ KeepB (fun b => b = g) w w' := by
  refine (fourF b x vl n w _ (hb.ext h.mv.grown) (h.it _ hx).1.1 (h.it _ hx).1.2).mono ?_
  rintro e w' ⟨v', rfl, ho, hxt, hn⟩
  exact ⟨v', rfl, h.call ho ⟨hxt.any _, .inr hn⟩⟩
theorem CJ.one1 (h : CJ g w0 (.slice none 0 0) cur [] xs w) (b : Addr) (x y : UInt8) (hb : OwnB w0 (.slice (some b) 1 1) [x]) {vl : Value} (hx : (⟨.u8, [y], vl⟩ : Item) ∈ xs) :
    Calls Try.prog 28 #[.slice (some b) 1 1, vl] w fun e w' => ∃ v', e = .returned v' ∧ CJ g w0 (.slice none 0 0) v' ([x] ++ [y]) xs w' ∧ KeepB (fun b => b = g) w w' := by
  refine (oneF b x y vl w _ (hb.ext h.mv.grown) (h.it _ hx).1.1).mono ?_
  rintro e w' ⟨v', rfl, ho, hxt, hn⟩
  exact ⟨v', rfl, h.call ho ⟨hxt.any _, .inr hn⟩⟩
end
end
section
open Go.RowKit

set_option maxRecDepth 100000 in
set_option maxHeartbeats 8000000 in
theorem DLayF (s : St) (hw : StWf s) (u : Value) (F : Fp) (b : Addr) (x : UInt8) (w : World) (hc : Conds w F u s.cs) (hF : ∀ b, F b → b < w.heap.size) (ho : OwnB w (.slice (some b) 1 1) [x]) (hlen : List.length (α := Cd) s.cs ≤ 1099511627776) :
    Calls Try.prog 7 #[.slice (some b) 1 1, stv s u] w fun e w' => ∃ v', e = .returned v' ∧ OwnB w' v' ([x] ++ stateB s) ∧ Fresh w w' v' := by
  have hoks := conds_ok hc
  obtain ⟨A, c, xs, rfl, hlc, hcm, hA, hcell, hall⟩ := conds_open hc
  unfold maxLen at hcm
  clear hc
  obtain ⟨SC, hSC⟩ : ∃ SC, SC = stc s (.slice A (List.length (α := Cd) s.cs) c) := ⟨_, rfl⟩
  have hst : stv s (.slice A (List.length (α := Cd) s.cs) c) = .agg SC.toArray := by rw [hSC]; rfl
  rw [hst]
  have s0 : SC[0]? = some (.int .u32 (s.chan : Int)) := by rw [hSC]; rfl
  have s1 : SC[1]? = some (.int .u64 (s.round : Int)) := by rw [hSC]; rfl
  have s2 : SC[2]? = some (.int .u64 (s.m0 : Int)) := by rw [hSC]; rfl
  have s3 : SC[3]? = some (.int .u64 (s.m1 : Int)) := by rw [hSC]; rfl
  have s4 : SC[4]? = some (.int .u64 (s.t0 : Int)) := by rw [hSC]; rfl
  have s5 : SC[5]? = some (.int .u64 (s.t1 : Int)) := by rw [hSC]; rfl
  have s6 : SC[6]? = some (.slice A (List.length (α := Cd) s.cs) c) := by rw [hSC]; rfl
  obtain ⟨cs, hcs⟩ : ∃ cs, cs = s.cs := ⟨_, rfl⟩
  have hb0 : Blk (w.alloc (.cells SC.toArray 40)) w.heap.size 40 SC := Blk.new _ _ _
  have hx0 : Ext w (w.alloc (.cells SC.toArray 40)) := (Ext.refl w).alloc _
  have HW0 := Lib.hid hw.chan
  have HW1 := Lib.hid hw.round
  have HW2 := Lib.hid hw.m0
  have HW3 := Lib.hid hw.m1
  have HW4 := Lib.hid hw.t0
  have HW5 := Lib.hid hw.t1
  have HB0 := Lib.hid hb0
  have HX0 := Lib.hid hx0
  have HO := Lib.hid ho
  have HFW := Lib.hid hF
  have HALL := Lib.hid hall
  have HCELL := Lib.hid hcell
  have HOKS := Lib.hid hoks
  have HS6 := Lib.hid s6
  clear hb0 hx0 ho hw hF hall hcell hst hSC hoks hcs
  go_enter Try.func7, Try.ntmps7
  go_wp2
  have hb0 : Blk (w.alloc (.cells SC.toArray 40)).drew w.heap.size 40 SC := HB0.out
  have hx : Ext w (w.alloc (.cells SC.toArray 40)).drew := HX0.out.drew
  refine startM (KeepB fun b => b = w.heap.size) (by kernel_rfl) ?_
  (try simp only [Act.put, List.setIfInBounds_toArray, List.set_cons_succ, List.set_cons_zero])
  generalize (w.alloc (.cells SC.toArray 40)).drew = w0 at *
  have HK0 := Lib.hid ((hb0.cell 0).trans s0)
  have HK1 := Lib.hid ((hb0.cell 1).trans s1)
  have HK2 := Lib.hid ((hb0.cell 2).trans s2)
  have HK3 := Lib.hid ((hb0.cell 3).trans s3)
  have HK4 := Lib.hid ((hb0.cell 4).trans s4)
  have HK5 := Lib.hid ((hb0.cell 5).trans s5)
  have HK6 := Lib.hid ((hb0.cell 6).trans s6)
  have hJ0 : CJ w.heap.size w0 (Value.slice none 0 0) (Value.slice none 0 0) [] [] w0 := CJ.start hb0.lt (Own.nil _ _ _) (by simp [Value.ownBlock])
  have HOB := Lib.hid (HO.out.ext hx)
  have HX := Lib.hid hx
  have HBB := Lib.hid hb0
  clear hb0 hx s0 s1 s2 s3 s4 s5 s6 HB0 HX0
  refine takeK 0 rfl (by kernel_rfl) (by kernel_rfl) (by kernel_rfl) rfl (fun _ _ _ _ h => h) rfl (fun K hK => ?_)
  go_big_quiet_op
  first | refine hK _ ?_ | refine ⟨_, fun _ _ => rfl, hK _ ?_⟩
  clear hK K
  refine takeK 1 rfl (by kernel_rfl) (by kernel_rfl) (by kernel_rfl) rfl (fun _ _ _ _ h => h) rfl (fun K hK => ?_)
  go_big_quiet_op
  first | refine hK _ ?_ | refine ⟨_, fun _ _ => rfl, hK _ ?_⟩
  clear hK K
  refine takeK 2 rfl (by kernel_rfl) (by kernel_rfl) (by kernel_rfl) rfl (fun _ _ _ _ h => h) rfl (fun K hK => ?_)
  refine quiet_cell _ _ rfl _ rfl _ _ Try.underlying22 rfl (fun W' h => KeepB.cell h HK0.out rfl) ?_
  refine hK _ ?_
  simp only [Act.put, List.setIfInBounds_toArray, List.set_cons_succ, List.set_cons_zero]
  clear hK K
  refine takeK 5 rfl (by kernel_rfl) (by kernel_rfl) (by kernel_rfl) rfl (fun _ _ _ _ h => h) rfl (fun K hK => ?_)
  go_big_quiet_op
  first | refine hK _ ?_ | refine ⟨_, fun _ _ => rfl, hK _ ?_⟩
  clear hK K
  refine takeK 6 rfl (by kernel_rfl) (by kernel_rfl) (by kernel_rfl) rfl (fun _ _ _ _ h => h) rfl (fun K hK => ?_)
  refine quiet_cell _ _ rfl _ rfl _ _ Try.underlying23 rfl (fun W' h => KeepB.cell h HK1.out rfl) ?_
  refine hK _ ?_
  simp only [Act.put, List.setIfInBounds_toArray, List.set_cons_succ, List.set_cons_zero]
  clear hK K
  refine takeK 7 rfl (by kernel_rfl) (by kernel_rfl) (by kernel_rfl) rfl (fun _ _ _ _ h => h) rfl (fun K hK => ?_)
  go_big_quiet_op
  first | refine hK _ ?_ | refine ⟨_, fun _ _ => rfl, hK _ ?_⟩
  clear hK K
  refine takeK 8 rfl (by kernel_rfl) (by kernel_rfl) (by kernel_rfl) rfl (fun _ _ _ _ h => h) rfl (fun K hK => ?_)
  go_big_quiet_op
  first | refine hK _ ?_ | refine ⟨_, fun _ _ => rfl, hK _ ?_⟩
  clear hK K
  refine takeK 9 rfl (by kernel_rfl) (by kernel_rfl) (by kernel_rfl) rfl (fun _ _ _ _ h => h) rfl (fun K hK => ?_)
  refine quiet_cell _ _ rfl _ rfl _ _ Try.underlying23 rfl (fun W' h => KeepB.cell h HK2.out rfl) ?_
  refine hK _ ?_
  simp only [Act.put, List.setIfInBounds_toArray, List.set_cons_succ, List.set_cons_zero]
  clear hK K
  refine takeK 10 rfl (by kernel_rfl) (by kernel_rfl) (by kernel_rfl) rfl (fun _ _ _ _ h => h) rfl (fun K hK => ?_)
  go_big_quiet_op
  first | refine hK _ ?_ | refine ⟨_, fun _ _ => rfl, hK _ ?_⟩
  clear hK K
  refine takeK 11 rfl (by kernel_rfl) (by kernel_rfl) (by kernel_rfl) rfl (fun _ _ _ _ h => h) rfl (fun K hK => ?_)
  go_big_quiet_op
  first | refine hK _ ?_ | refine ⟨_, fun _ _ => rfl, hK _ ?_⟩
  clear hK K
  refine takeK 12 rfl (by kernel_rfl) (by kernel_rfl) (by kernel_rfl) rfl (fun _ _ _ _ h => h) rfl (fun K hK => ?_)
  refine quiet_cell _ _ rfl _ rfl _ _ Try.underlying23 rfl (fun W' h => KeepB.cell h HK3.out rfl) ?_
  refine hK _ ?_
  simp only [Act.put, List.setIfInBounds_toArray, List.set_cons_succ, List.set_cons_zero]
  clear hK K
  refine takeK 13 rfl (by kernel_rfl) (by kernel_rfl) (by kernel_rfl) rfl (fun _ _ _ _ h => h) rfl (fun K hK => ?_)
  go_big_quiet_op
  first | refine hK _ ?_ | refine ⟨_, fun _ _ => rfl, hK _ ?_⟩
  clear hK K
  refine takeK 14 rfl (by kernel_rfl) (by kernel_rfl) (by kernel_rfl) rfl (fun _ _ _ _ h => h) rfl (fun K hK => ?_)
  go_big_quiet_op
  first | refine hK _ ?_ | refine ⟨_, fun _ _ => rfl, hK _ ?_⟩
  clear hK K
  refine takeK 15 rfl (by kernel_rfl) (by kernel_rfl) (by kernel_rfl) rfl (fun _ _ _ _ h => h) rfl (fun K hK => ?_)
  refine quiet_cell _ _ rfl _ rfl _ _ Try.underlying23 rfl (fun W' h => KeepB.cell h HK4.out rfl) ?_
  refine hK _ ?_
  simp only [Act.put, List.setIfInBounds_toArray, List.set_cons_succ, List.set_cons_zero]
  clear hK K
  refine takeK 16 rfl (by kernel_rfl) (by kernel_rfl) (by kernel_rfl) rfl (fun _ _ _ _ h => h) rfl (fun K hK => ?_)
  go_big_quiet_op
  first | refine hK _ ?_ | refine ⟨_, fun _ _ => rfl, hK _ ?_⟩
  clear hK K
  refine takeK 17 rfl (by kernel_rfl) (by kernel_rfl) (by kernel_rfl) rfl (fun _ _ _ _ h => h) rfl (fun K hK => ?_)
  go_big_quiet_op
  first | refine hK _ ?_ | refine ⟨_, fun _ _ => rfl, hK _ ?_⟩
  clear hK K
  refine takeK 18 rfl (by kernel_rfl) (by kernel_rfl) (by kernel_rfl) rfl (fun _ _ _ _ h => h) rfl (fun K hK => ?_)
  refine quiet_cell _ _ rfl _ rfl _ _ Try.underlying23 rfl (fun W' h => KeepB.cell h HK5.out rfl) ?_
  refine hK _ ?_
  simp only [Act.put, List.setIfInBounds_toArray, List.set_cons_succ, List.set_cons_zero]
  clear hK K
  refine takeK 21 rfl (by kernel_rfl) (by kernel_rfl) (by kernel_rfl) rfl (fun _ _ _ _ h => h) rfl (fun K hK => ?_)
  go_big_quiet_op
  first | refine hK _ ?_ | refine ⟨_, fun _ _ => rfl, hK _ ?_⟩
  clear hK K
  refine takeK 22 rfl (by kernel_rfl) (by kernel_rfl) (by kernel_rfl) rfl (fun _ _ _ _ h => h) rfl (fun K hK => ?_)
  refine quiet_cell _ _ rfl _ rfl _ _ Try.underlying38 rfl (fun W' h => KeepB.cell h HK6.out rfl) ?_
  refine hK _ ?_
  simp only [Act.put, List.setIfInBounds_toArray, List.set_cons_succ, List.set_cons_zero]
  clear hK K
  refine takeK 23 rfl (by kernel_rfl) (by kernel_rfl) (by kernel_rfl) rfl (fun _ _ _ _ h => h) rfl (fun K hK => ?_)
  go_big_quiet_op
  first | refine hK _ ?_ | refine ⟨_, fun _ _ => rfl, hK _ ?_⟩
  clear hK K
  refine takeK 24 rfl (by kernel_rfl) (by kernel_rfl) (by kernel_rfl) rfl (fun _ _ _ _ h => h) rfl (fun K hK => ?_)
  go_big_quiet_op
  first | refine hK _ ?_ | refine ⟨_, fun _ _ => rfl, hK _ ?_⟩
  clear hK K
  apply lat5 (fun v10 v11 v26 v27 v32 W => CJ w.heap.size w0 (Value.slice none 0 0) v27 (([x] ++ be 4 s.chan) ++ [s.round, s.m0, s.m1, s.t0, s.t1].flatMap (be 8)) [⟨.u8, [byteOf ((List.length (α := Cd) s.cs : Nat) : Int)], v32⟩] W)
  intro hM12
  apply lat4 (fun v10 v11 v26 v32 W => CJ w.heap.size w0 (Value.slice none 0 0) v11 ([x] ++ be 4 s.chan) [⟨.nat .u64, [s.round, s.m0, s.m1, s.t0, s.t1], v26⟩, ⟨.u8, [byteOf ((List.length (α := Cd) s.cs : Nat) : Int)], v32⟩] W)
  intro hM11
  apply lat4 (fun v10 v11 v26 v27 W => CJ w.heap.size w0 (Value.slice none 0 0) v27 (([x] ++ be 4 s.chan) ++ [s.round, s.m0, s.m1, s.t0, s.t1].flatMap (be 8)) [] W)
  intro hM10
  apply lat3 (fun v10 v26 v32 W => CJ w.heap.size w0 (Value.slice none 0 0) (Value.slice none 0 0) [] [⟨.nat .u32, [s.chan], v10⟩, ⟨.nat .u64, [s.round, s.m0, s.m1, s.t0, s.t1], v26⟩, ⟨.u8, [byteOf ((List.length (α := Cd) s.cs : Nat) : Int)], v32⟩] W)
  intro hM9
  apply lat3 (fun v10 v11 v32 W => CJ w.heap.size w0 (Value.slice none 0 0) v11 ([x] ++ be 4 s.chan) [⟨.u8, [byteOf ((List.length (α := Cd) s.cs : Nat) : Int)], v32⟩] W)
  intro hM8
  apply lat3 (fun v10 v11 v26 W => CJ w.heap.size w0 (Value.slice none 0 0) v11 ([x] ++ be 4 s.chan) [⟨.nat .u64, [s.round, s.m0, s.m1, s.t0, s.t1], v26⟩] W)
  intro hM7
  apply lat2 (fun v26 v32 W => CJ w.heap.size w0 (Value.slice none 0 0) (Value.slice none 0 0) [] [⟨.nat .u64, [s.round, s.m0, s.m1, s.t0, s.t1], v26⟩, ⟨.u8, [byteOf ((List.length (α := Cd) s.cs : Nat) : Int)], v32⟩] W)
  intro hM6
  apply lat2 (fun v10 v32 W => CJ w.heap.size w0 (Value.slice none 0 0) (Value.slice none 0 0) [] [⟨.nat .u32, [s.chan], v10⟩, ⟨.u8, [byteOf ((List.length (α := Cd) s.cs : Nat) : Int)], v32⟩] W)
  intro hM5
  apply lat2 (fun v10 v26 W => CJ w.heap.size w0 (Value.slice none 0 0) (Value.slice none 0 0) [] [⟨.nat .u32, [s.chan], v10⟩, ⟨.nat .u64, [s.round, s.m0, s.m1, s.t0, s.t1], v26⟩] W)
  intro hM4
  apply lat2 (fun v10 v11 W => CJ w.heap.size w0 (Value.slice none 0 0) v11 ([x] ++ be 4 s.chan) [] W)
  intro hM3
  apply lat1 (fun v32 W => CJ w.heap.size w0 (Value.slice none 0 0) (Value.slice none 0 0) [] [⟨.u8, [byteOf ((List.length (α := Cd) s.cs : Nat) : Int)], v32⟩] W)
  intro hM2
  apply lat1 (fun v26 W => CJ w.heap.size w0 (Value.slice none 0 0) (Value.slice none 0 0) [] [⟨.nat .u64, [s.round, s.m0, s.m1, s.t0, s.t1], v26⟩] W)
  intro hM1
  apply lat1 (fun v10 W => CJ w.heap.size w0 (Value.slice none 0 0) (Value.slice none 0 0) [] [⟨.nat .u32, [s.chan], v10⟩] W)
  intro hM0
  · have HJ := Lib.hid hJ0
    refine anyofM 3 [19, 25] (by kernel_rfl) ⟨oneM rfl rfl (fun K hK => ?_), oneM rfl rfl (fun K hK => ?_), oneM rfl rfl (fun K hK => ?_), trivial⟩
    · refine HJ.out.mk1 119 (.tmp 9) rfl 22 Try.underlying119 (.nat .u32) s.chan _ [Value.int .u32 (s.chan : Int)] rfl rfl (fun _ _ => ⟨rfl, HW0.out⟩) u32_sizeD u32_zeroD (show 1 ≤ 16777216 by decide) (show 0 < 1 by decide) ?_
      intro v10 W hJ hkb
      have HJ := Lib.hid hJ
      clear hJ
      refine hK _ _ hkb ?_
      clear hK K
      (try simp only [Act.put, List.setIfInBounds_toArray, List.set_cons_succ, List.set_cons_zero])
      exact hM0 v10 _ (HJ.out.sub (by intro x hx; simp only [List.mem_cons, List.not_mem_nil, or_false] at hx; rcases hx with rfl <;> first | exact (.head _)))
    · refine HJ.out.mk5 121 (.tmp 13) (.tmp 16) (.tmp 19) (.tmp 22) (.tmp 25) rfl Try.underlying121 s.round s.m0 s.m1 s.t0 s.t1 rfl rfl rfl rfl rfl HW1.out HW2.out HW3.out HW4.out HW5.out u64_size1 u64_zero1 ?_
      intro v26 W hJ hkb
      have HJ := Lib.hid hJ
      clear hJ
      refine hK _ _ hkb ?_
      clear hK K
      (try simp only [Act.put, List.setIfInBounds_toArray, List.set_cons_succ, List.set_cons_zero])
      exact hM1 v26 _ (HJ.out.sub (by intro x hx; simp only [List.mem_cons, List.not_mem_nil, or_false] at hx; rcases hx with rfl <;> first | exact (.head _)))
    · refine HJ.out.mk1 35 (.tmp 31) rfl 5 Try.underlying35 .u8 (byteOf ((List.length (α := Cd) s.cs : Nat) : Int)) _ [Value.int .u8 ((byteOf ((List.length (α := Cd) s.cs : Nat) : Int)).toNat : Int)] rfl (by rw [byteOf_eq]; rfl) (fun _ _ => rfl) u8_sizeU u8_zeroU (show 1 ≤ 16777216 by decide) (show 0 < 1 by decide) ?_
      intro v32 W hJ hkb
      have HJ := Lib.hid hJ
      clear hJ
      refine hK _ _ hkb ?_
      clear hK K
      (try simp only [Act.put, List.setIfInBounds_toArray, List.set_cons_succ, List.set_cons_zero])
      exact hM2 v32 _ (HJ.out.sub (by intro x hx; simp only [List.mem_cons, List.not_mem_nil, or_false] at hx; rcases hx with rfl <;> first | exact (.head _)))
  · intro v10 W hJ
    have HJ := Lib.hid hJ
    clear hJ
    refine anyofM 4 [19, 25] (by kernel_rfl) ⟨oneM rfl rfl (fun K hK => ?_), oneM rfl rfl (fun K hK => ?_), oneM rfl rfl (fun K hK => ?_), trivial⟩
    · go_simp
      refine (HJ.out.four1 b x HOB.out (.head _)).mono ?_
      rintro e W ⟨v11, rfl, hJ, hkb⟩
      have HJ := Lib.hid hJ
      clear hJ
      refine hK _ _ hkb ?_
      clear hK K
      exact hM3 v10 v11 _ (HJ.out.sub (by intro x hx; cases hx))
    · refine HJ.out.mk5 121 (.tmp 13) (.tmp 16) (.tmp 19) (.tmp 22) (.tmp 25) rfl Try.underlying121 s.round s.m0 s.m1 s.t0 s.t1 rfl rfl rfl rfl rfl HW1.out HW2.out HW3.out HW4.out HW5.out u64_size1 u64_zero1 ?_
      intro v26 W hJ hkb
      have HJ := Lib.hid hJ
      clear hJ
      refine hK _ _ hkb ?_
      clear hK K
      (try simp only [Act.put, List.setIfInBounds_toArray, List.set_cons_succ, List.set_cons_zero])
      exact hM4 v10 v26 _ (HJ.out.sub (by intro x hx; simp only [List.mem_cons, List.not_mem_nil, or_false] at hx; rcases hx with rfl | rfl <;> first | exact (.tail _ (.head _)) | exact (.head _)))
    · refine HJ.out.mk1 35 (.tmp 31) rfl 5 Try.underlying35 .u8 (byteOf ((List.length (α := Cd) s.cs : Nat) : Int)) _ [Value.int .u8 ((byteOf ((List.length (α := Cd) s.cs : Nat) : Int)).toNat : Int)] rfl (by rw [byteOf_eq]; rfl) (fun _ _ => rfl) u8_sizeU u8_zeroU (show 1 ≤ 16777216 by decide) (show 0 < 1 by decide) ?_
      intro v32 W hJ hkb
      have HJ := Lib.hid hJ
      clear hJ
      refine hK _ _ hkb ?_
      clear hK K
      (try simp only [Act.put, List.setIfInBounds_toArray, List.set_cons_succ, List.set_cons_zero])
      exact hM5 v10 v32 _ (HJ.out.sub (by intro x hx; simp only [List.mem_cons, List.not_mem_nil, or_false] at hx; rcases hx with rfl | rfl <;> first | exact (.tail _ (.head _)) | exact (.head _)))
  · intro v26 W hJ
    have HJ := Lib.hid hJ
    clear hJ
    refine anyofM 3 [25] (by kernel_rfl) ⟨oneM rfl rfl (fun K hK => ?_), oneM rfl rfl (fun K hK => ?_), trivial⟩
    · refine HJ.out.mk1 119 (.tmp 9) rfl 22 Try.underlying119 (.nat .u32) s.chan _ [Value.int .u32 (s.chan : Int)] rfl rfl (fun _ _ => ⟨rfl, HW0.out⟩) u32_sizeD u32_zeroD (show 1 ≤ 16777216 by decide) (show 0 < 1 by decide) ?_
      intro v10 W hJ hkb
      have HJ := Lib.hid hJ
      clear hJ
      refine hK _ _ hkb ?_
      clear hK K
      (try simp only [Act.put, List.setIfInBounds_toArray, List.set_cons_succ, List.set_cons_zero])
      exact relist (by kernel_rfl) (hM4 v10 v26 _ (HJ.out.sub (by intro x hx; simp only [List.mem_cons, List.not_mem_nil, or_false] at hx; rcases hx with rfl | rfl <;> first | exact (.head _) | exact (.tail _ (.head _)))))
    · refine HJ.out.mk1 35 (.tmp 31) rfl 5 Try.underlying35 .u8 (byteOf ((List.length (α := Cd) s.cs : Nat) : Int)) _ [Value.int .u8 ((byteOf ((List.length (α := Cd) s.cs : Nat) : Int)).toNat : Int)] rfl (by rw [byteOf_eq]; rfl) (fun _ _ => rfl) u8_sizeU u8_zeroU (show 1 ≤ 16777216 by decide) (show 0 < 1 by decide) ?_
      intro v32 W hJ hkb
      have HJ := Lib.hid hJ
      clear hJ
      refine hK _ _ hkb ?_
      clear hK K
      (try simp only [Act.put, List.setIfInBounds_toArray, List.set_cons_succ, List.set_cons_zero])
      exact hM6 v26 v32 _ (HJ.out.sub (by intro x hx; simp only [List.mem_cons, List.not_mem_nil, or_false] at hx; rcases hx with rfl | rfl <;> first | exact (.tail _ (.head _)) | exact (.head _)))
  · intro v32 W hJ
    have HJ := Lib.hid hJ
    clear hJ
    refine anyofM 3 [19] (by kernel_rfl) ⟨oneM rfl rfl (fun K hK => ?_), oneM rfl rfl (fun K hK => ?_), trivial⟩
    · refine HJ.out.mk1 119 (.tmp 9) rfl 22 Try.underlying119 (.nat .u32) s.chan _ [Value.int .u32 (s.chan : Int)] rfl rfl (fun _ _ => ⟨rfl, HW0.out⟩) u32_sizeD u32_zeroD (show 1 ≤ 16777216 by decide) (show 0 < 1 by decide) ?_
      intro v10 W hJ hkb
      have HJ := Lib.hid hJ
      clear hJ
      refine hK _ _ hkb ?_
      clear hK K
      (try simp only [Act.put, List.setIfInBounds_toArray, List.set_cons_succ, List.set_cons_zero])
      exact relist (by kernel_rfl) (hM5 v10 v32 _ (HJ.out.sub (by intro x hx; simp only [List.mem_cons, List.not_mem_nil, or_false] at hx; rcases hx with rfl | rfl <;> first | exact (.head _) | exact (.tail _ (.head _)))))
    · refine HJ.out.mk5 121 (.tmp 13) (.tmp 16) (.tmp 19) (.tmp 22) (.tmp 25) rfl Try.underlying121 s.round s.m0 s.m1 s.t0 s.t1 rfl rfl rfl rfl rfl HW1.out HW2.out HW3.out HW4.out HW5.out u64_size1 u64_zero1 ?_
      intro v26 W hJ hkb
      have HJ := Lib.hid hJ
      clear hJ
      refine hK _ _ hkb ?_
      clear hK K
      (try simp only [Act.put, List.setIfInBounds_toArray, List.set_cons_succ, List.set_cons_zero])
      exact relist (by kernel_rfl) (hM6 v26 v32 _ (HJ.out.sub (by intro x hx; simp only [List.mem_cons, List.not_mem_nil, or_false] at hx; rcases hx with rfl | rfl <;> first | exact (.head _) | exact (.tail _ (.head _)))))
  · intro v10 v11 W hJ
    have HJ := Lib.hid hJ
    clear hJ
    refine anyofM 19 [25] (by kernel_rfl) ⟨oneM rfl rfl (fun K hK => ?_), oneM rfl rfl (fun K hK => ?_), trivial⟩
    · refine HJ.out.mk5 121 (.tmp 13) (.tmp 16) (.tmp 19) (.tmp 22) (.tmp 25) rfl Try.underlying121 s.round s.m0 s.m1 s.t0 s.t1 rfl rfl rfl rfl rfl HW1.out HW2.out HW3.out HW4.out HW5.out u64_size1 u64_zero1 ?_
      intro v26 W hJ hkb
      have HJ := Lib.hid hJ
      clear hJ
      refine hK _ _ hkb ?_
      clear hK K
      (try simp only [Act.put, List.setIfInBounds_toArray, List.set_cons_succ, List.set_cons_zero])
      exact hM7 v10 v11 v26 _ (HJ.out.sub (by intro x hx; simp only [List.mem_cons, List.not_mem_nil, or_false] at hx; rcases hx with rfl <;> first | exact (.head _)))
    · refine HJ.out.mk1 35 (.tmp 31) rfl 5 Try.underlying35 .u8 (byteOf ((List.length (α := Cd) s.cs : Nat) : Int)) _ [Value.int .u8 ((byteOf ((List.length (α := Cd) s.cs : Nat) : Int)).toNat : Int)] rfl (by rw [byteOf_eq]; rfl) (fun _ _ => rfl) u8_sizeU u8_zeroU (show 1 ≤ 16777216 by decide) (show 0 < 1 by decide) ?_
      intro v32 W hJ hkb
      have HJ := Lib.hid hJ
      clear hJ
      refine hK _ _ hkb ?_
      clear hK K
      (try simp only [Act.put, List.setIfInBounds_toArray, List.set_cons_succ, List.set_cons_zero])
      exact hM8 v10 v11 v32 _ (HJ.out.sub (by intro x hx; simp only [List.mem_cons, List.not_mem_nil, or_false] at hx; rcases hx with rfl <;> first | exact (.head _)))
  · intro v10 v26 W hJ
    have HJ := Lib.hid hJ
    clear hJ
    refine anyofM 4 [25] (by kernel_rfl) ⟨oneM rfl rfl (fun K hK => ?_), oneM rfl rfl (fun K hK => ?_), trivial⟩
    · go_simp
      refine (HJ.out.four1 b x HOB.out (.head _)).mono ?_
      rintro e W ⟨v11, rfl, hJ, hkb⟩
      have HJ := Lib.hid hJ
      clear hJ
      refine hK _ _ hkb ?_
      clear hK K
      exact relist (by kernel_rfl) (hM7 v10 v11 v26 _ (HJ.out.sub (by intro x hx; simp only [List.mem_cons, List.not_mem_nil, or_false] at hx; rcases hx with rfl <;> first | exact (.tail _ (.head _)))))
    · refine HJ.out.mk1 35 (.tmp 31) rfl 5 Try.underlying35 .u8 (byteOf ((List.length (α := Cd) s.cs : Nat) : Int)) _ [Value.int .u8 ((byteOf ((List.length (α := Cd) s.cs : Nat) : Int)).toNat : Int)] rfl (by rw [byteOf_eq]; rfl) (fun _ _ => rfl) u8_sizeU u8_zeroU (show 1 ≤ 16777216 by decide) (show 0 < 1 by decide) ?_
      intro v32 W hJ hkb
      have HJ := Lib.hid hJ
      clear hJ
      refine hK _ _ hkb ?_
      clear hK K
      (try simp only [Act.put, List.setIfInBounds_toArray, List.set_cons_succ, List.set_cons_zero])
      exact hM9 v10 v26 v32 _ (HJ.out.sub (by intro x hx; simp only [List.mem_cons, List.not_mem_nil, or_false] at hx; rcases hx with rfl | rfl | rfl <;> first | exact (.tail _ (.head _)) | exact (.tail _ (.tail _ (.head _))) | exact (.head _)))
  · intro v10 v32 W hJ
    have HJ := Lib.hid hJ
    clear hJ
    refine anyofM 4 [19] (by kernel_rfl) ⟨oneM rfl rfl (fun K hK => ?_), oneM rfl rfl (fun K hK => ?_), trivial⟩
    · go_simp
      refine (HJ.out.four1 b x HOB.out (.head _)).mono ?_
      rintro e W ⟨v11, rfl, hJ, hkb⟩
      have HJ := Lib.hid hJ
      clear hJ
      refine hK _ _ hkb ?_
      clear hK K
      exact relist (by kernel_rfl) (hM8 v10 v11 v32 _ (HJ.out.sub (by intro x hx; simp only [List.mem_cons, List.not_mem_nil, or_false] at hx; rcases hx with rfl <;> first | exact (.tail _ (.head _)))))
    · refine HJ.out.mk5 121 (.tmp 13) (.tmp 16) (.tmp 19) (.tmp 22) (.tmp 25) rfl Try.underlying121 s.round s.m0 s.m1 s.t0 s.t1 rfl rfl rfl rfl rfl HW1.out HW2.out HW3.out HW4.out HW5.out u64_size1 u64_zero1 ?_
      intro v26 W hJ hkb
      have HJ := Lib.hid hJ
      clear hJ
      refine hK _ _ hkb ?_
      clear hK K
      (try simp only [Act.put, List.setIfInBounds_toArray, List.set_cons_succ, List.set_cons_zero])
      exact relist (by kernel_rfl) (hM9 v10 v26 v32 _ (HJ.out.sub (by intro x hx; simp only [List.mem_cons, List.not_mem_nil, or_false] at hx; rcases hx with rfl | rfl | rfl <;> first | exact (.tail _ (.head _)) | exact (.head _) | exact (.tail _ (.tail _ (.head _))))))
  · intro v26 v32 W hJ
    have HJ := Lib.hid hJ
    clear hJ
    refine stepM 3 rfl (by kernel_rfl) rfl (fun K hK => ?_)
    refine HJ.out.mk1 119 (.tmp 9) rfl 22 Try.underlying119 (.nat .u32) s.chan _ [Value.int .u32 (s.chan : Int)] rfl rfl (fun _ _ => ⟨rfl, HW0.out⟩) u32_sizeD u32_zeroD (show 1 ≤ 16777216 by decide) (show 0 < 1 by decide) ?_
    intro v10 W hJ hkb
    have HJ := Lib.hid hJ
    clear hJ
    refine hK _ _ hkb ?_
    clear hK K
    (try simp only [Act.put, List.setIfInBounds_toArray, List.set_cons_succ, List.set_cons_zero])
    exact relist (by kernel_rfl) (hM9 v10 v26 v32 _ (HJ.out.sub (by intro x hx; simp only [List.mem_cons, List.not_mem_nil, or_false] at hx; rcases hx with rfl | rfl | rfl <;> first | exact (.head _) | exact (.tail _ (.head _)) | exact (.tail _ (.tail _ (.head _))))))
  · intro v10 v11 v26 W hJ
    have HJ := Lib.hid hJ
    clear hJ
    refine anyofM 20 [25] (by kernel_rfl) ⟨oneM rfl rfl (fun K hK => ?_), oneM rfl rfl (fun K hK => ?_), trivial⟩
    · go_simp
      refine (HJ.out.eight (.head _) (by simp only [List.length_append, List.length_cons, List.length_nil, List.flatMap_cons, List.flatMap_nil, be_length]; omega)).mono ?_
      rintro e W ⟨v27, rfl, hJ, hkb⟩
      have HJ := Lib.hid hJ
      clear hJ
      refine hK _ _ hkb ?_
      clear hK K
      exact hM10 v10 v11 v26 v27 _ (HJ.out.sub (by intro x hx; cases hx))
    · refine HJ.out.mk1 35 (.tmp 31) rfl 5 Try.underlying35 .u8 (byteOf ((List.length (α := Cd) s.cs : Nat) : Int)) _ [Value.int .u8 ((byteOf ((List.length (α := Cd) s.cs : Nat) : Int)).toNat : Int)] rfl (by rw [byteOf_eq]; rfl) (fun _ _ => rfl) u8_sizeU u8_zeroU (show 1 ≤ 16777216 by decide) (show 0 < 1 by decide) ?_
      intro v32 W hJ hkb
      have HJ := Lib.hid hJ
      clear hJ
      refine hK _ _ hkb ?_
      clear hK K
      (try simp only [Act.put, List.setIfInBounds_toArray, List.set_cons_succ, List.set_cons_zero])
      exact hM11 v10 v11 v26 v32 _ (HJ.out.sub (by intro x hx; simp only [List.mem_cons, List.not_mem_nil, or_false] at hx; rcases hx with rfl | rfl <;> first | exact (.tail _ (.head _)) | exact (.head _)))
  · intro v10 v11 v32 W hJ
    have HJ := Lib.hid hJ
    clear hJ
    refine stepM 19 rfl (by kernel_rfl) rfl (fun K hK => ?_)
    refine HJ.out.mk5 121 (.tmp 13) (.tmp 16) (.tmp 19) (.tmp 22) (.tmp 25) rfl Try.underlying121 s.round s.m0 s.m1 s.t0 s.t1 rfl rfl rfl rfl rfl HW1.out HW2.out HW3.out HW4.out HW5.out u64_size1 u64_zero1 ?_
    intro v26 W hJ hkb
    have HJ := Lib.hid hJ
    clear hJ
    refine hK _ _ hkb ?_
    clear hK K
    (try simp only [Act.put, List.setIfInBounds_toArray, List.set_cons_succ, List.set_cons_zero])
    exact relist (by kernel_rfl) (hM11 v10 v11 v26 v32 _ (HJ.out.sub (by intro x hx; simp only [List.mem_cons, List.not_mem_nil, or_false] at hx; rcases hx with rfl | rfl <;> first | exact (.head _) | exact (.tail _ (.head _)))))
  · intro v10 v26 v32 W hJ
    have HJ := Lib.hid hJ
    clear hJ
    refine stepM 4 rfl (by kernel_rfl) rfl (fun K hK => ?_)
    go_simp
    refine (HJ.out.four1 b x HOB.out (.head _)).mono ?_
    rintro e W ⟨v11, rfl, hJ, hkb⟩
    have HJ := Lib.hid hJ
    clear hJ
    refine hK _ _ hkb ?_
    clear hK K
    exact relist (by kernel_rfl) (hM11 v10 v11 v26 v32 _ (HJ.out.sub (by intro x hx; simp only [List.mem_cons, List.not_mem_nil, or_false] at hx; rcases hx with rfl | rfl <;> first | exact (.tail _ (.head _)) | exact (.tail _ (.tail _ (.head _))))))
  · intro v10 v11 v26 v27 W hJ
    have HJ := Lib.hid hJ
    clear hJ
    refine stepM 25 rfl (by kernel_rfl) rfl (fun K hK => ?_)
    refine HJ.out.mk1 35 (.tmp 31) rfl 5 Try.underlying35 .u8 (byteOf ((List.length (α := Cd) s.cs : Nat) : Int)) _ [Value.int .u8 ((byteOf ((List.length (α := Cd) s.cs : Nat) : Int)).toNat : Int)] rfl (by rw [byteOf_eq]; rfl) (fun _ _ => rfl) u8_sizeU u8_zeroU (show 1 ≤ 16777216 by decide) (show 0 < 1 by decide) ?_
    intro v32 W hJ hkb
    have HJ := Lib.hid hJ
    clear hJ
    refine hK _ _ hkb ?_
    clear hK K
    (try simp only [Act.put, List.setIfInBounds_toArray, List.set_cons_succ, List.set_cons_zero])
    exact hM12 v10 v11 v26 v27 v32 _ (HJ.out.sub (by intro x hx; simp only [List.mem_cons, List.not_mem_nil, or_false] at hx; rcases hx with rfl <;> first | exact (.head _)))
  · intro v10 v11 v26 v32 W hJ
    have HJ := Lib.hid hJ
    clear hJ
    refine stepM 20 rfl (by kernel_rfl) rfl (fun K hK => ?_)
    go_simp
    refine (HJ.out.eight (.head _) (by simp only [List.length_append, List.length_cons, List.length_nil, List.flatMap_cons, List.flatMap_nil, be_length]; omega)).mono ?_
    rintro e W ⟨v27, rfl, hJ, hkb⟩
    have HJ := Lib.hid hJ
    clear hJ
    refine hK _ _ hkb ?_
    clear hK K
    exact relist (by kernel_rfl) (hM12 v10 v11 v26 v27 v32 _ (HJ.out.sub (by intro x hx; simp only [List.mem_cons, List.not_mem_nil, or_false] at hx; rcases hx with rfl <;> first | exact (.tail _ (.head _)))))
  intro v10 v11 v26 v27 v32 W hJ
  have HJ := Lib.hid hJ
  clear hJ
  refine stepM 26 rfl (by kernel_rfl) rfl (fun K hK => ?_)
  go_simp
  refine (HJ.out.one (.head _) (by simp only [List.length_append, List.length_cons, List.length_nil, List.flatMap_cons, List.flatMap_nil, be_length]; omega)).mono ?_
  rintro e W ⟨v33, rfl, hJ, hkb⟩
  have HJ := Lib.hid hJ
  clear hJ
  refine hK _ _ hkb ?_
  clear hK K
  refine takeK 27 rfl (by kernel_rfl) (by kernel_rfl) (by kernel_rfl) rfl (fun _ _ _ _ h => h) rfl (fun K hK => ?_)
  go_big_quiet_op
  first | refine hK _ ?_ | refine ⟨_, fun _ _ => rfl, hK _ ?_⟩
  clear hK K
  refine doneM (by kernel_rfl) ?_ _
  have ho33 := HJ.out.own
  have hm33 := Moved.pre HX.out HJ.out.mv
  have hb33 : Blk W w.heap.size 40 SC := (HJ.out.mv.grown.block _ HJ.out.lt (by simp [Value.ownBlock])).trans HBB.out
  have hn33 := HJ.out.ne
  have e33 : ((([x] ++ be 4 s.chan) ++ List.flatMap (be 8) [s.round, s.m0, s.m1, s.t0, s.t1]) ++ [byteOf ((List.length (α := Cd) s.cs : Nat) : Int)]) = [x] ++ headB s := by simp [headB]
  rw [e33] at ho33
  have c6 := (hb33.cell 6).trans HS6.out
  have HOV := Lib.hid ho33
  have HMV := Lib.hid hm33
  have HB33 := Lib.hid hb33
  have HN33 := Lib.hid hn33
  clear HJ ho33 hm33 hb33 hn33 e33 HK0 HK1 HK2 HK3 HK4 HK5 HK6 HX HBB
  have hzc := cond_zero
  have hzcl : (condCells (0, 0, 0, List.replicate 32 0, 0, ())).length = 36 := rfl
  generalize condCells (0, 0, 0, List.replicate 32 0, 0, ()) = ZC at hzc hzcl
  have HZCL := Lib.hid hzcl
  clear hzcl
  obtain ⟨nc, hnc⟩ : ∃ nc, nc = List.length (α := Cd) s.cs := ⟨_, rfl⟩
  rw [← hnc] at c6 hlen hlc HCELL
  have HNC := Lib.hid hnc
  clear hnc
  go_wp2
  go_loopw [0, 37] (fun cur i wr => ∃ k : Nat, k ≤ nc ∧ i = .int .i64 k ∧ OwnB wr cur ([x] ++ headB s ++ (s.cs.take k).flatMap condB) ∧ Moved w wr (Value.slice none 0 0) cur ∧ ∀ b, cur.ownBlock = some b → b ≠ w.heap.size) (fun _ i _ => nc - (intOf i).toNat)
  case atStart => exact ⟨0, by omega, rfl, by simpa using HOV.out, HMV.out, HN33.out⟩
  case round =>
    clear HOV HMV HB33 HN33
    obtain ⟨k, hk, rfl, hov, hmv, hnn⟩ := hrel
    by_cases hlt : k < nc
    · obtain ⟨ad, rfl, hf, hcells⟩ := HCELL.out (by omega)
      have hlt2 : k < List.length (α := Cd) s.cs := by rw [← HNC.out]; exact hlt
      have hfar : ∀ b, F b → wr.heap[b]? = w.heap[b]? := fun b hb => hmv.grown.block b (HFW.out b hb) (by simp [Value.ownBlock])
      obtain ⟨hcc, hok⟩ := conds_at HALL.out (hcells.keep (hfar _ hf)) hlt2
      have htk : s.cs.take (k + 1) = s.cs.take k ++ [s.cs[k]] := List.take_succ_eq_append_getElem hlt2
      have hfl := conds_flat (s.cs.take k) (fun x hx => HOKS.out x (List.mem_of_mem_take hx))
      have hltk : List.length (α := Cd) (s.cs.take k) = k := by simp; omega
      rw [hltk] at hfl
      generalize s.cs[k] = ck at *
      have hcl := condCells_len hok
      have hone := condCells_one ck
      have hbl : ([x] ++ headB s ++ (s.cs.take k).flatMap condB).length ≤ 140737488354304 := by rw [List.length_append, List.length_append, hfl, headB_len]; simp; omega
      have hxa : Ext wr (wr.alloc (.cells (condCells ck).toArray 47)) := (Ext.refl wr).alloc _
      have hlay := LayCond ck u0 _ (wr.alloc (.cells (condCells ck).toArray 47)) hok (hov.ext hxa) hbl
      have hb6 : Blk (wr.alloc (.cells (condCells ck).toArray 47)) wr.heap.size 47 (condCells ck) := Blk.new _ _ _
      obtain ⟨CC, hCC⟩ : ∃ CC, CC = condCells ck := ⟨_, rfl⟩
      rw [← hCC] at hcc hcl hone hlay hb6 hxa
      have HTK := Lib.hid htk
      have HCL := Lib.hid hcl
      have HLAY := Lib.hid hlay
      have HB6 := Lib.hid hb6
      have HXA := Lib.hid hxa
      have HMV := Lib.hid hmv
      have HNN := Lib.hid hnn
      have HCC := Lib.hid hcc
      clear htk hcl hlay hb6 hxa hmv hnn hov hok hfl hltk hbl hfar hcells hCC hcc
      go_wp2_with (first
        | ((with_reducible refine wpList_load_agg _ rfl 47 (.tmp 39) rfl _ rfl CC _ Try.underlying47 rfl (cond_size HCL.out) (by exact HCC.out) ?_))
        | (refine wpList_load_agg _ rfl 47 (.tmp 39) rfl _ rfl CC _ Try.underlying47 rfl (cond_size HCL.out) (by exact HCC.out) ?_)
        | (refine wpList_alloc _ rfl 47 rfl _ hzc ?_)
        | (refine wpList_store_new _ rfl 47 (.tmp 6) (.tmp 40) rfl rfl ZC CC _ rfl (cond_size HCL.out) (by rw [HCL.out, HZCL.out]) hone ?_)
        | (refine wpList_load_agg _ rfl 47 (.tmp 6) rfl _ rfl CC _ Try.underlying47 rfl (cond_size HCL.out) (by exact HB6.out.cells) ?_)
        | fail)
      refine HLAY.out.mono ?_
      rintro e w' ⟨v', rfl, ho', hm'⟩
      have ho9 : OwnB w' v' ([x] ++ headB s ++ (s.cs.take (k + 1)).flatMap condB) := by rw [HTK.out, List.flatMap_append, ← List.append_assoc]; simpa using ho'
      have hm9 : Moved w w' (Value.slice none 0 0) v' := HMV.out.trans (Moved.pre HXA.out hm')
      have hn9 : ∀ b, v'.ownBlock = some b → b ≠ w.heap.size := fun b hb => by
        rcases hm'.at_ with e | hn
        · exact HNN.out b (e.symm.trans hb)
        · have h1 := hn b hb
          have h2 := HMV.out.grown.size
          simp at h1
          omega
      have HO9 := Lib.hid ho9
      have HM9 := Lib.hid hm9
      have HN9 := Lib.hid hn9
      clear ho9 hm9 hn9 ho' hm'
      go_wp2_with fail
      go_roundw
      case rel => exact ⟨k + 1, by omega, by go_num, HO9.out, HM9.out, HN9.out⟩
      case measure => simp [intOf]; omega
    · obtain rfl : k = nc := by omega
      have htk : s.cs.take k = s.cs := List.take_of_length_le (by rw [HNC.out]; exact Nat.le_refl _)
      rw [htk] at hov
      have HO9 := Lib.hid hov
      have HM9 := Lib.hid hmv
      clear hov hmv htk
      go_wp2_with fail
      go_ret
      exact ⟨_, rfl, by have h := HO9.out; simp only [List.append_assoc] at h; simpa [stateB] using h, HM9.out⟩
set_option maxRecDepth 100000 in
set_option maxHeartbeats 8000000 in
theorem LayOpF (o : Wish) (b : Addr) (x : UInt8) (w : World) (hok : CondOk o.c) (ham : (Lit.int .u64 (o.am : Int)).wf = true) (hid : (Lit.int .u64 (o.id : Int)).wf = true) (ho : OwnB w (.slice (some b) 1 1) [x]) :
    Calls Try.prog 10 #[.slice (some b) 1 1, .agg (wishCells o).toArray] w fun e w' => ∃ v', e = .returned v' ∧ OwnB w' v' ([x] ++ opB o) ∧ Fresh w w' v' := by
  have hb0 : Blk (w.alloc (.cells (wishCells o).toArray 49)) w.heap.size 49 (wishCells o) := Blk.new _ _ _
  have hx0 : Ext w (w.alloc (.cells (wishCells o).toArray 49)) := (Ext.refl w).alloc _
  have c38 := wish_38 hok
  have cc : ((wishCells o).drop 2).take 36 = condCells o.c := List.take_left' (condCells_len hok)
  have c0 : (wishCells o)[0]? = some (.int .i64 o.kind) := rfl
  have c1 : (wishCells o)[1]? = some (.int .u64 (o.am : Int)) := rfl
  have hco := fun (g : Nat) (w0 w : World) (v0 cur : Value) (bs : List UInt8) (xs : List Item) (h : CJ g w0 v0 cur bs xs w) hb => CJ.cond o.c hok h hb
  have hcl := condCells_len hok
  generalize condCells o.c = CC at *
  generalize wishCells o = OC at *
  have HCO := Lib.hid hco
  have HCL := Lib.hid hcl
  have HB0 := Lib.hid hb0
  have HX0 := Lib.hid hx0
  have HO := Lib.hid ho
  clear hb0 hx0 ho hco hcl
  go_enter Try.func10, Try.ntmps10
  go_wp2
  have hb0 : Blk (w.alloc (.cells OC.toArray 49)).drew w.heap.size 49 OC := HB0.out
  have hx : Ext w (w.alloc (.cells OC.toArray 49)).drew := HX0.out.drew
  refine startM (KeepB fun b => b = w.heap.size) (by kernel_rfl) ?_
  (try simp only [Act.put, List.setIfInBounds_toArray, List.set_cons_succ, List.set_cons_zero])
  generalize (w.alloc (.cells OC.toArray 49)).drew = w0 at *
  have HK0 := Lib.hid ((hb0.cell 0).trans c0)
  have HK1 := Lib.hid ((hb0.cell 1).trans c1)
  have HK38 := Lib.hid ((hb0.cell 38).trans c38)
  have hkc : Cells w0 ⟨w.heap.size, 2, none⟩ CC := by have h := (hb0.cells.drop 2).take 36; rw [cc, addr_at] at h; exact h
  have HKC := Lib.hid hkc
  have hJ0 : CJ w.heap.size w0 (Value.slice none 0 0) (Value.slice none 0 0) [] [] w0 := CJ.start hb0.lt (Own.nil _ _ _) (by simp [Value.ownBlock])
  have HOB := Lib.hid (HO.out.ext hx)
  have HX := Lib.hid hx
  clear hb0 hx hkc c0 c1 c38 cc
  refine takeK 0 rfl (by kernel_rfl) (by kernel_rfl) (by kernel_rfl) rfl (fun _ _ _ _ h => h) rfl (fun K hK => ?_)
  go_big_quiet_op
  first | refine hK _ ?_ | refine ⟨_, fun _ _ => rfl, hK _ ?_⟩
  clear hK K
  refine takeK 1 rfl (by kernel_rfl) (by kernel_rfl) (by kernel_rfl) rfl (fun _ _ _ _ h => h) rfl (fun K hK => ?_)
  go_big_quiet_op
  first | refine hK _ ?_ | refine ⟨_, fun _ _ => rfl, hK _ ?_⟩
  clear hK K
  refine takeK 2 rfl (by kernel_rfl) (by kernel_rfl) (by kernel_rfl) rfl (fun _ _ _ _ h => h) rfl (fun K hK => ?_)
  refine quiet_cell _ _ rfl _ rfl _ _ Try.underlying3 rfl (fun W' h => KeepB.cell h HK0.out rfl) ?_
  refine hK _ ?_
  simp only [Act.put, List.setIfInBounds_toArray, List.set_cons_succ, List.set_cons_zero]
  clear hK K
  refine takeK 3 rfl (by kernel_rfl) (by kernel_rfl) (by kernel_rfl) rfl (fun _ _ _ _ h => h) rfl (fun K hK => ?_)
  go_big_quiet_op
  first | refine hK _ ?_ | refine ⟨_, fun _ _ => rfl, hK _ ?_⟩
  clear hK K
  refine takeK 6 rfl (by kernel_rfl) (by kernel_rfl) (by kernel_rfl) rfl (fun _ _ _ _ h => h) rfl (fun K hK => ?_)
  go_big_quiet_op
  first | refine hK _ ?_ | refine ⟨_, fun _ _ => rfl, hK _ ?_⟩
  clear hK K
  refine takeK 7 rfl (by kernel_rfl) (by kernel_rfl) (by kernel_rfl) rfl (fun _ _ _ _ h => h) rfl (fun K hK => ?_)
  refine quiet_cell _ _ rfl _ rfl _ _ Try.underlying23 rfl (fun W' h => KeepB.cell h HK1.out rfl) ?_
  refine hK _ ?_
  simp only [Act.put, List.setIfInBounds_toArray, List.set_cons_succ, List.set_cons_zero]
  clear hK K
  refine takeK 8 rfl (by kernel_rfl) (by kernel_rfl) (by kernel_rfl) rfl (fun _ _ _ _ h => h) rfl (fun K hK => ?_)
  go_big_quiet_op
  first | refine hK _ ?_ | refine ⟨_, fun _ _ => rfl, hK _ ?_⟩
  clear hK K
  refine takeK 9 rfl (by kernel_rfl) (by kernel_rfl) (by kernel_rfl) rfl (fun _ _ _ _ h => h) rfl (fun K hK => ?_)
  refine quiet_cell _ _ rfl _ rfl _ _ Try.underlying23 rfl (fun W' h => KeepB.cell h HK38.out rfl) ?_
  refine hK _ ?_
  simp only [Act.put, List.setIfInBounds_toArray, List.set_cons_succ, List.set_cons_zero]
  clear hK K
  refine takeK 12 rfl (by kernel_rfl) (by kernel_rfl) (by kernel_rfl) rfl (fun _ _ _ _ h => h) rfl (fun K hK => ?_)
  go_big_quiet_op
  first | refine hK _ ?_ | refine ⟨_, fun _ _ => rfl, hK _ ?_⟩
  clear hK K
  refine takeK 13 rfl (by kernel_rfl) (by kernel_rfl) (by kernel_rfl) rfl (fun _ _ _ _ h => h) rfl (fun K hK => ?_)
  refine quiet_agg 47 (.tmp 17) rfl _ rfl CC _ Try.underlying47 rfl (cond_size HCL.out) (fun W' h => KeepB.cells h HKC.out rfl) ?_
  refine hK _ ?_
  simp only [Act.put, List.setIfInBounds_toArray, List.set_cons_succ, List.set_cons_zero]
  clear hK K
  apply lat4 (fun v9 v10 v15 v16 W => CJ w.heap.size w0 (Value.slice none 0 0) v16 (([x] ++ [byteOf o.kind]) ++ [o.am, o.id].flatMap (be 8)) [] W)
  intro hM5
  apply lat3 (fun v9 v10 v15 W => CJ w.heap.size w0 (Value.slice none 0 0) v10 ([x] ++ [byteOf o.kind]) [⟨.nat .u64, [o.am, o.id], v15⟩] W)
  intro hM4
  apply lat2 (fun v9 v15 W => CJ w.heap.size w0 (Value.slice none 0 0) (Value.slice none 0 0) [] [⟨.u8, [byteOf o.kind], v9⟩, ⟨.nat .u64, [o.am, o.id], v15⟩] W)
  intro hM3
  apply lat2 (fun v9 v10 W => CJ w.heap.size w0 (Value.slice none 0 0) v10 ([x] ++ [byteOf o.kind]) [] W)
  intro hM2
  apply lat1 (fun v15 W => CJ w.heap.size w0 (Value.slice none 0 0) (Value.slice none 0 0) [] [⟨.nat .u64, [o.am, o.id], v15⟩] W)
  intro hM1
  apply lat1 (fun v9 W => CJ w.heap.size w0 (Value.slice none 0 0) (Value.slice none 0 0) [] [⟨.u8, [byteOf o.kind], v9⟩] W)
  intro hM0
  · have HJ := Lib.hid hJ0
    refine anyofM 4 [10] (by kernel_rfl) ⟨oneM rfl rfl (fun K hK => ?_), oneM rfl rfl (fun K hK => ?_), trivial⟩
    · refine HJ.out.mk1 35 (.tmp 8) rfl 5 Try.underlying35 .u8 (byteOf o.kind) _ [Value.int .u8 ((byteOf o.kind).toNat : Int)] rfl (by rw [byteOf_eq]; rfl) (fun _ _ => rfl) u8_sizeU u8_zeroU (show 1 ≤ 16777216 by decide) (show 0 < 1 by decide) ?_
      intro v9 W hJ hkb
      have HJ := Lib.hid hJ
      clear hJ
      refine hK _ _ hkb ?_
      clear hK K
      (try simp only [Act.put, List.setIfInBounds_toArray, List.set_cons_succ, List.set_cons_zero])
      exact hM0 v9 _ (HJ.out.sub (by intro x hx; simp only [List.mem_cons, List.not_mem_nil, or_false] at hx; rcases hx with rfl <;> first | exact (.head _)))
    · refine HJ.out.mk2 121 (.tmp 12) (.tmp 14) rfl Try.underlying121 o.am o.id rfl rfl ham hid u64_size1 u64_zero1 ?_
      intro v15 W hJ hkb
      have HJ := Lib.hid hJ
      clear hJ
      refine hK _ _ hkb ?_
      clear hK K
      (try simp only [Act.put, List.setIfInBounds_toArray, List.set_cons_succ, List.set_cons_zero])
      exact hM1 v15 _ (HJ.out.sub (by intro x hx; simp only [List.mem_cons, List.not_mem_nil, or_false] at hx; rcases hx with rfl <;> first | exact (.head _)))
  · intro v9 W hJ
    have HJ := Lib.hid hJ
    clear hJ
    refine anyofM 5 [10] (by kernel_rfl) ⟨oneM rfl rfl (fun K hK => ?_), oneM rfl rfl (fun K hK => ?_), trivial⟩
    · go_simp
      refine (HJ.out.one1 b x (byteOf o.kind) HOB.out (.head _)).mono ?_
      rintro e W ⟨v10, rfl, hJ, hkb⟩
      have HJ := Lib.hid hJ
      clear hJ
      refine hK _ _ hkb ?_
      clear hK K
      exact hM2 v9 v10 _ (HJ.out.sub (by intro x hx; cases hx))
    · refine HJ.out.mk2 121 (.tmp 12) (.tmp 14) rfl Try.underlying121 o.am o.id rfl rfl ham hid u64_size1 u64_zero1 ?_
      intro v15 W hJ hkb
      have HJ := Lib.hid hJ
      clear hJ
      refine hK _ _ hkb ?_
      clear hK K
      (try simp only [Act.put, List.setIfInBounds_toArray, List.set_cons_succ, List.set_cons_zero])
      exact hM3 v9 v15 _ (HJ.out.sub (by intro x hx; simp only [List.mem_cons, List.not_mem_nil, or_false] at hx; rcases hx with rfl | rfl <;> first | exact (.tail _ (.head _)) | exact (.head _)))
  · intro v15 W hJ
    have HJ := Lib.hid hJ
    clear hJ
    refine stepM 4 rfl (by kernel_rfl) rfl (fun K hK => ?_)
    refine HJ.out.mk1 35 (.tmp 8) rfl 5 Try.underlying35 .u8 (byteOf o.kind) _ [Value.int .u8 ((byteOf o.kind).toNat : Int)] rfl (by rw [byteOf_eq]; rfl) (fun _ _ => rfl) u8_sizeU u8_zeroU (show 1 ≤ 16777216 by decide) (show 0 < 1 by decide) ?_
    intro v9 W hJ hkb
    have HJ := Lib.hid hJ
    clear hJ
    refine hK _ _ hkb ?_
    clear hK K
    (try simp only [Act.put, List.setIfInBounds_toArray, List.set_cons_succ, List.set_cons_zero])
    exact relist (by kernel_rfl) (hM3 v9 v15 _ (HJ.out.sub (by intro x hx; simp only [List.mem_cons, List.not_mem_nil, or_false] at hx; rcases hx with rfl | rfl <;> first | exact (.head _) | exact (.tail _ (.head _)))))
  · intro v9 v10 W hJ
    have HJ := Lib.hid hJ
    clear hJ
    refine stepM 10 rfl (by kernel_rfl) rfl (fun K hK => ?_)
    refine HJ.out.mk2 121 (.tmp 12) (.tmp 14) rfl Try.underlying121 o.am o.id rfl rfl ham hid u64_size1 u64_zero1 ?_
    intro v15 W hJ hkb
    have HJ := Lib.hid hJ
    clear hJ
    refine hK _ _ hkb ?_
    clear hK K
    (try simp only [Act.put, List.setIfInBounds_toArray, List.set_cons_succ, List.set_cons_zero])
    exact hM4 v9 v10 v15 _ (HJ.out.sub (by intro x hx; simp only [List.mem_cons, List.not_mem_nil, or_false] at hx; rcases hx with rfl <;> first | exact (.head _)))
  · intro v9 v15 W hJ
    have HJ := Lib.hid hJ
    clear hJ
    refine stepM 5 rfl (by kernel_rfl) rfl (fun K hK => ?_)
    go_simp
    refine (HJ.out.one1 b x (byteOf o.kind) HOB.out (.head _)).mono ?_
    rintro e W ⟨v10, rfl, hJ, hkb⟩
    have HJ := Lib.hid hJ
    clear hJ
    refine hK _ _ hkb ?_
    clear hK K
    exact relist (by kernel_rfl) (hM4 v9 v10 v15 _ (HJ.out.sub (by intro x hx; simp only [List.mem_cons, List.not_mem_nil, or_false] at hx; rcases hx with rfl <;> first | exact (.tail _ (.head _)))))
  · intro v9 v10 v15 W hJ
    have HJ := Lib.hid hJ
    clear hJ
    refine stepM 11 rfl (by kernel_rfl) rfl (fun K hK => ?_)
    go_simp
    refine (HJ.out.eight (.head _) (by simp only [List.length_append, List.length_cons, List.length_nil, List.flatMap_cons, List.flatMap_nil, be_length, id]; omega)).mono ?_
    rintro e W ⟨v16, rfl, hJ, hkb⟩
    have HJ := Lib.hid hJ
    clear hJ
    refine hK _ _ hkb ?_
    clear hK K
    exact hM5 v9 v10 v15 v16 _ (HJ.out.sub (by intro x hx; cases hx))
  intro v9 v10 v15 v16 W hJ
  have HJ := Lib.hid hJ
  clear hJ
  refine stepM 14 rfl (by kernel_rfl) rfl (fun K hK => ?_)
  go_simp
  refine (HCO.out _ _ _ _ _ _ _ HJ.out (by simp only [List.length_append, List.length_cons, List.length_nil, List.flatMap_cons, List.flatMap_nil, be_length, id]; omega)).mono ?_
  rintro e W ⟨v19, rfl, hJ, hkb⟩
  have HJ := Lib.hid hJ
  clear hJ
  refine hK _ _ hkb ?_
  clear hK K
  refine takeK 15 rfl (by kernel_rfl) (by kernel_rfl) (by kernel_rfl) rfl (fun _ _ _ _ h => h) rfl (fun K hK => ?_)
  go_big_quiet_op
  first | refine hK _ ?_ | refine ⟨_, fun _ _ => rfl, hK _ ?_⟩
  clear hK K
  refine doneM (by kernel_rfl) ?_ _
  have ho9 := HJ.out.own
  have hm9 := Moved.pre HX.out HJ.out.mv
  clear HJ
  go_wp2
  go_ret
  exact ⟨_, rfl, by simpa [opB] using ho9, hm9⟩
end
section
open Go.RowKit

set_option maxHeartbeats 400000 in
set_option maxRecDepth 100000 in
theorem Ref_Num (vb : Value) (bs : List UInt8) (n size : Nat) (w : World) (F : Fp) (hb : (Ty.sl .u8).holds w F [vb] bs) (hF : ∀ b, F b → b < w.heap.size) (hn : n < 18446744073709551616) (hs : size ≤ 8) (hbb : bs.length + size ≤ 140737488355328) :
    Calls Try.prog 31 #[vb, .int .u64 n, .int .i64 size] w fun e w' => ∃ v', e = .returned v' ∧ OwnB w' v' (bs ++ be size n) ∧ Fresh w w' v' := by
  obtain ⟨i0, hi, hz0, hz1, hz2⟩ := info_parts u8_info
  obtain ⟨A, c, xs, hv, hlc, hc, hA, hcell, hall⟩ := hb
  cases hv
  go_enter Try.func31, Try.ntmps31
  go_wp2_with (at_make; refine wpList_make_full _ rfl _ _ _ rfl 0 _ i0 _ 1 Try.underlying35 hi hz0 hz1 .i64 .i64 size size size rfl rfl rfl rfl (by rw [hz2]; omega) (by unfold maxLen; omega) (Nat.zero_le _) ?_; intro w1 ho1 hg1)
  have hg1 : Ext w w1 := hg1
  have ho1 : Own w1 5 1 (.slice (some ⟨w.heap.size, 0, none⟩) size size) size (bv (beFill size size n)) := by
    have e : bv (beFill size size n) = (madeCells (Value.int .u8 0).cells (size * 1)).toList := by
      rw [show (Value.int .u8 0).cells = #[.int .u8 0] from rfl, toList_madeCells_one, Nat.mul_one]
      simp [beFill, bv, be_length]
    rw [e]; exact ho1
  go_loopw [1, 8] (fun nn i wr => ∃ j : Nat, j ≤ size ∧ i = .int .i64 ((j : Int) - 1) ∧ nn = .int .u64 ((n / 256 ^ (size - j) : Nat) : Int) ∧ Own wr 5 1 (.slice (some ⟨w.heap.size, 0, none⟩) size size) size (bv (beFill size j n)) ∧ Ext w wr) (fun _ i _ => (intOf i + 1).toNat)
  case atStart => exact ⟨size, by omega, rfl, by simp, ho1, hg1⟩
  case round =>
    obtain ⟨j, hj, rfl, rfl, hor, hxr⟩ := hrel
    by_cases hlt : 0 < j
    · have hcell0 := World.ownsRow.cellAt hor (j - 1) (by omega)
      obtain ⟨u0, hu0⟩ : ∃ u0, (bv (beFill size j n))[j - 1]? = some u0 := ⟨_, List.getElem?_eq_getElem (by rw [bv_length, beFill_length _ _ _ hj]; omega)⟩
      rw [hu0] at hcell0
      have hfr := World.ownsRow.frozenAt hor (j - 1)
      have hst := World.ownsRow.stored hor (j - 1) (.int .u8 ((UInt8.ofNat (n / 256 ^ (size - j))).toNat : Int))
      have hm : ((n / 256 ^ (size - j) : Nat) : Int) % 256 = ((UInt8.ofNat (n / 256 ^ (size - j))).toNat : Int) := by rw [UInt8.toNat_ofNat']; omega
      have hlow : n / 256 ^ (size - j) < 18446744073709551616 := Nat.lt_of_le_of_lt (Nat.div_le_self _ _) hn
      have hq := be_rest n size j hlt hj
      generalize hN : n / 256 ^ (size - j) = N at *
      have HM := Lib.hid hm
      have HQ := Lib.hid hq
      have HN := Lib.hid hN
      clear hm hq hN hu0
      go_wp2
      go_roundw
      case rel =>
        rw [HM.out]
        refine ⟨j - 1, by omega, by rw [show ((j - 1 : Nat) : Int) = (j : Int) - 1 by omega], by rw [← HQ.out, Int.natCast_ediv]; rfl, ?_, hxr.setCell (Nat.le_refl _) _⟩
        rw [← beFill_step size j n hlt hj, HN.out, bv_set]
        exact hst.1
      case measure => simp [intOf]; omega
    · obtain rfl : j = 0 := by omega
      have hb' : (Ty.sl .u8).holds wr F [.slice A bs.length c] bs := hxr.holds hF ⟨A, c, xs, rfl, hlc, hc, hA, hcell, hall⟩
      have hsrc := src_bytes hb'
      have hbe : beFill size 0 n = be size n := by simp [beFill]
      rw [hbe] at hor
      clear hbe
      go_wp2_with (first
        | (at_builtin; refine wpList_app _ rfl (.tmp 25) (.tmp 26) _ _ rfl _ _ i0 _ 1 1 Try.underlying35 Try.underlying35 hi hz0 hz1 hz2 rfl (by decide) _ _ _ rfl (own_empty rfl) _ _ _ (bv bs) rfl (by simp) (hsrc.alloc (bv_ne bs) _) (bv_one _) (by unfold maxLen; omega) (by omega) ?_; intro v2 w2 ho2 hm2; have hm3 : Fresh wr w2 v2 := (fresh_empty wr _).trans hm2; have hor2 := Own.ext hor hm3.ext)
        | (at_builtin; refine wpList_app _ rfl (.tmp 27) (.tmp 28) _ _ rfl _ _ i0 _ 1 1 Try.underlying35 Try.underlying35 hi hz0 hz1 hz2 rfl (by decide) _ _ _ rfl ho2 _ _ _ (bv (be size n)) rfl (by simp [be_length]) (own_src hor2) (bv_one _) (by unfold maxLen; omega) (by omega) ?_; intro v4 w4 ho4 hm4))
      go_ret
      refine ⟨_, rfl, ?_, Moved.pre hxr (hm3.trans hm4)⟩
      unfold OwnB
      rw [bv_append, List.length_append, be_length]
      simpa using ho4
end
section
open Go.RowKit

section
variable {g : Nat} {w0 w : World} {v0 cur : Value} {bs : List UInt8} {xs : List Item}
theorem CJ.appS (h : CJ g w0 v0 cur bs xs w) {o : Oper} {a : Act} {K : Act → World → Prop} {Q : Exit → Act → World → Prop} (s p : Operand) (t t' : TypeId) (ho : o.op = .call { callee := .builtin .append, args := #[s, p], argTypes := #[t, t'] })
    (ht : Try.prog.underlying t = some (.slice 5)) (ht' : Try.prog.underlying t' = some (.slice 5)) (hs : a.eval s = cur) (A : Option Addr) (m c : Nat) (l : List UInt8) (hp : a.eval p = .slice A m c) (hm : l.length = m) (hsrc : Src w A m (bv l)) (hb : bs.length + m ≤ 140737488355328)
    (hk : ∀ v' W', CJ g w0 v0 v' (bs ++ l) xs W' → KeepB (fun b => b = g) w W' → K (a.put o.dst v') W') : o.wp Try.prog a w K Q := by
  obtain ⟨i0, hi, hz0, hz1, hz2⟩ := info_parts u8_info
  refine wp_app w s p t t' ho 5 5 i0 _ 1 1 ht ht' hi hz0 hz1 hz2 rfl (by decide) cur _ _ hs h.own A m c (bv l) hp (by rw [bv_length, hm]; omega) hsrc (bv_one _) (by unfold maxLen; omega) (by omega) ?_
  intro v' w' ho' hm'
  subst hm
  have h1 := h.call (OwnB.app ho') hm'
  exact hk v' w' h1.1 h1.2
theorem CJ.appI (h : CJ g w0 v0 cur bs xs w) {o : Oper} {a : Act} {K : Act → World → Prop} {Q : Exit → Act → World → Prop} (s p : Operand) (t t' : TypeId) (ho : o.op = .call { callee := .builtin .append, args := #[s, p], argTypes := #[t, t'] })
    (ht : Try.prog.underlying t = some (.slice 5)) (ht' : Try.prog.underlying t' = some (.slice 5)) (hs : a.eval s = cur) {l : List UInt8} {vl : Value} (hx : (⟨.u8, l, vl⟩ : Item) ∈ xs) (hp : a.eval p = vl) (hb : bs.length + l.length ≤ 140737488355328)
    (hk : ∀ v' W', CJ g w0 v0 v' (bs ++ l) xs W' → KeepB (fun b => b = g) w W' → K (a.put o.dst v') W') : o.wp Try.prog a w K Q := by
  have h1 : (Ty.sl .u8).holds w (fun b => vl.ownBlock = some b) [vl] l := (h.it _ hx).1.1
  obtain ⟨A, c, hv⟩ : ∃ A c, vl = .slice A l.length c := by
    obtain ⟨A, c, xs', hv, _⟩ := h1
    exact ⟨A, c, by simpa using hv⟩
  rw [hv] at hp h1
  exact h.appS s p t t' ho ht ht' hs A _ c l hp rfl (src_bytes h1) hb hk
theorem CJ.num (h : CJ g w0 v0 cur bs xs w) (n size : Nat) (hn : n < 18446744073709551616) (hs : size ≤ 8) (hb : bs.length + size ≤ 140737488355328) :
    Calls Try.prog 31 #[cur, .int .u64 (n : Int), .int .i64 (size : Int)] w fun e w' => ∃ v', e = .returned v' ∧ CJ g w0 v0 v' (bs ++ be size n) xs w' ∧ KeepB (fun b => b = g) w w' := by
  refine (Ref_Num cur bs n size w _ (OwnB.holds h.own) (OwnB.lt h.own) hn hs hb).mono ?_
  rintro e w' ⟨v', rfl, ho, hf⟩
  exact ⟨v', rfl, h.call ho (Fresh.moved hf cur)⟩
theorem CJ.num0 (h : CJ g w0 v0 cur [] xs w) (vb : Value) (ds : List UInt8) (F : Fp) (hd : (Ty.sl .u8).holds w F [vb] ds) (hF : ∀ b, F b → b < w.heap.size) (n size : Nat) (hn : n < 18446744073709551616) (hs : size ≤ 8) (hb : ds.length + size ≤ 140737488355328) :
    Calls Try.prog 31 #[vb, .int .u64 (n : Int), .int .i64 (size : Int)] w fun e w' => ∃ v', e = .returned v' ∧ CJ g w0 v0 v' (ds ++ be size n) xs w' ∧ KeepB (fun b => b = g) w w' := by
  refine (Ref_Num vb ds n size w F hd hF hn hs hb).mono ?_
  rintro e w' ⟨v', rfl, ho, hf⟩
  exact ⟨v', rfl, h.call ho (Fresh.moved hf cur)⟩
theorem CJ.blk (h : CJ g w0 v0 cur bs xs w) (hv : ∀ b, v0.ownBlock = some b → b ≠ g) : w.heap[g]? = w0.heap[g]? := h.mv.grown.block g h.lt (fun e => hv _ e.symm rfl)
theorem CJ.ext (h : CJ g w0 (.slice none 0 0) cur bs xs w) : Ext w0 w := h.mv.grown
end
end
section
open Go.RowKit

theorem wf_lt {n : Nat} (h : (Lit.int .u64 (n : Int)).wf = true) : n < 18446744073709551616 := by have := bounds_u64 h; omega
set_option maxRecDepth 100000 in
set_option maxHeartbeats 8000000 in
theorem RCond (c : Cd) (vb : Value) (bs : List UInt8) (w : World) (F : Fp) (hok : CondOk c) (hv : (Ty.sl .u8).holds w F [vb] bs) (hF : ∀ b, F b → b < w.heap.size) (hb : bs.length ≤ 140737488354304) :
    Calls Try.prog 32 #[vb, .agg (condCells c).toArray] w fun e w' => ∃ v', e = .returned v' ∧ OwnB w' v' (bs ++ condB c) ∧ Fresh w w' v' := by
  have HH := Lib.hid hok.hash
  have hid := wf_lt hok.id
  have ham := wf_lt hok.am
  have hex := wf_lt hok.exp
  have hb0 : Blk (w.alloc (.cells (condCells c).toArray 30)) w.heap.size 30 (condCells c) := Blk.new _ _ _
  have hx0 : Ext w (w.alloc (.cells (condCells c).toArray 30)) := (Ext.refl w).alloc _
  have c35 : (condCells c)[35]? = some (.int .u64 (c.2.2.2.2.1 : Int)) := by
    show (bv c.2.2.2.1 ++ [Value.int .u64 (c.2.2.2.2.1 : Int)])[32]? = _
    rw [List.getElem?_append_right (by rw [bv_length, HH.out]; omega), bv_length, HH.out]
    rfl
  have ch : ((condCells c).drop 3).take 32 = bv c.2.2.2.1 := List.take_left' (by rw [bv_length, HH.out])
  have c0 : (condCells c)[0]? = some (.int .u64 (c.1 : Int)) := rfl
  have c1 : (condCells c)[1]? = some (.int .i64 c.2.1) := rfl
  have c2 : (condCells c)[2]? = some (.int .u64 (c.2.2.1 : Int)) := rfl
  generalize condCells c = CC at *
  have HB0 := Lib.hid hb0
  have HX0 := Lib.hid hx0
  have HW := Lib.hid hv
  have HFW := Lib.hid hF
  have HC2 := Lib.hid c2
  have HC35 := Lib.hid c35
  have HCH := Lib.hid ch
  clear hb0 hx0 hv hF c2 c35 ch
  go_enter Try.func32, Try.ntmps32
  go_wp2
  have hb0 : Blk (w.alloc (.cells CC.toArray 30)).drew w.heap.size 30 CC := HB0.out
  have hx : Ext w (w.alloc (.cells CC.toArray 30)).drew := HX0.out.drew
  refine startM (KeepB fun b => b = w.heap.size) (by kernel_rfl) ?_
  (try simp only [Act.put, List.setIfInBounds_toArray, List.set_cons_succ, List.set_cons_zero])
  generalize (w.alloc (.cells CC.toArray 30)).drew = w0 at *
  have HK0 := Lib.hid ((hb0.cell 0).trans c0)
  have HK1 := Lib.hid ((hb0.cell 1).trans c1)
  have hJ0 : CJ w.heap.size w0 (Value.slice none 0 0) (Value.slice none 0 0) [] [] w0 := CJ.start hb0.lt (Own.nil _ _ _) (by simp [Value.ownBlock])
  have HX := Lib.hid hx
  have HBB := Lib.hid hb0
  have HV : Hid (∀ {cur : Value} {l : List UInt8} {xs : List Item} {W : World}, CJ w.heap.size w0 (Value.slice none 0 0) cur l xs W → (Ty.sl .u8).holds W F [vb] bs) := Lib.hid (fun h => (HX.out.trans h.ext).holds HFW.out HW.out)
  have HVF : Hid (∀ {cur : Value} {l : List UInt8} {xs : List Item} {W : World}, CJ w.heap.size w0 (Value.slice none 0 0) cur l xs W → ∀ b, F b → b < W.heap.size) := Lib.hid (fun h b hb => Nat.lt_of_lt_of_le (HFW.out b hb) (HX.out.trans h.ext).size)
  clear hb0 hx c0 c1
  refine takeK 0 rfl (by kernel_rfl) (by kernel_rfl) (by kernel_rfl) rfl (fun _ _ _ _ h => h) rfl (fun K hK => ?_)
  go_big_quiet_op
  first | refine hK _ ?_ | refine ⟨_, fun _ _ => rfl, hK _ ?_⟩
  clear hK K
  refine takeK 1 rfl (by kernel_rfl) (by kernel_rfl) (by kernel_rfl) rfl (fun _ _ _ _ h => h) rfl (fun K hK => ?_)
  go_big_quiet_op
  first | refine hK _ ?_ | refine ⟨_, fun _ _ => rfl, hK _ ?_⟩
  clear hK K
  refine takeK 2 rfl (by kernel_rfl) (by kernel_rfl) (by kernel_rfl) rfl (fun _ _ _ _ h => h) rfl (fun K hK => ?_)
  refine quiet_cell _ _ rfl _ rfl _ _ Try.underlying23 rfl (fun W' h => KeepB.cell h HK0.out rfl) ?_
  refine hK _ ?_
  simp only [Act.put, List.setIfInBounds_toArray, List.set_cons_succ, List.set_cons_zero]
  clear hK K
  refine takeK 4 rfl (by kernel_rfl) (by kernel_rfl) (by kernel_rfl) rfl (fun _ _ _ _ h => h) rfl (fun K hK => ?_)
  go_big_quiet_op
  first | refine hK _ ?_ | refine ⟨_, fun _ _ => rfl, hK _ ?_⟩
  clear hK K
  refine takeK 5 rfl (by kernel_rfl) (by kernel_rfl) (by kernel_rfl) rfl (fun _ _ _ _ h => h) rfl (fun K hK => ?_)
  refine quiet_cell _ _ rfl _ rfl _ _ Try.underlying3 rfl (fun W' h => KeepB.cell h HK1.out rfl) ?_
  refine hK _ ?_
  simp only [Act.put, List.setIfInBounds_toArray, List.set_cons_succ, List.set_cons_zero]
  clear hK K
  refine takeK 6 rfl (by kernel_rfl) (by kernel_rfl) (by kernel_rfl) rfl (fun _ _ _ _ h => h) rfl (fun K hK => ?_)
  go_big_quiet_op
  first | refine hK _ ?_ | refine ⟨_, fun _ _ => rfl, hK _ ?_⟩
  clear hK K
  apply lat2 (fun v8 v12 W => CJ w.heap.size w0 (.slice none 0 0) v8 (bs ++ be 8 c.1) [⟨.u8, [byteOf c.2.1], v12⟩] W)
  intro hM2
  apply lat1 (fun v12 W => CJ w.heap.size w0 (Value.slice none 0 0) (Value.slice none 0 0) [] [⟨.u8, [byteOf c.2.1], v12⟩] W)
  intro hM1
  apply lat1 (fun v8 W => CJ w.heap.size w0 (.slice none 0 0) v8 (bs ++ be 8 c.1) [] W)
  intro hM0
  · have HJ := Lib.hid hJ0
    refine anyofM 3 [7] (by kernel_rfl) ⟨oneM rfl rfl (fun K hK => ?_), oneM rfl rfl (fun K hK => ?_), trivial⟩
    · go_simp
      refine (HJ.out.num0 vb bs F (HV.out HJ.out) (HVF.out HJ.out) c.1 8 hid (by omega) (by omega)).mono ?_
      rintro e W ⟨v8, rfl, hJ, hkb⟩
      have HJ := Lib.hid hJ
      clear hJ
      refine hK _ _ hkb ?_
      clear hK K
      exact hM0 v8 _ (HJ.out.sub (by intro x hx; cases hx))
    · refine HJ.out.mk1 35 (.tmp 11) rfl 5 Try.underlying35 .u8 (byteOf c.2.1) _ [Value.int .u8 ((byteOf c.2.1).toNat : Int)] rfl (by rw [byteOf_eq]; rfl) (fun _ _ => rfl) u8_sizeU u8_zeroU (show 1 ≤ 16777216 by decide) (show 0 < 1 by decide) ?_
      intro v12 W hJ hkb
      have HJ := Lib.hid hJ
      clear hJ
      refine hK _ _ hkb ?_
      clear hK K
      (try simp only [Act.put, List.setIfInBounds_toArray, List.set_cons_succ, List.set_cons_zero])
      exact hM1 v12 _ (HJ.out.sub (by intro x hx; simp only [List.mem_cons, List.not_mem_nil, or_false] at hx; rcases hx with rfl <;> first | exact (.head _)))
  · intro v8 W hJ
    have HJ := Lib.hid hJ
    clear hJ
    refine stepM 7 rfl (by kernel_rfl) rfl (fun K hK => ?_)
    refine HJ.out.mk1 35 (.tmp 11) rfl 5 Try.underlying35 .u8 (byteOf c.2.1) _ [Value.int .u8 ((byteOf c.2.1).toNat : Int)] rfl (by rw [byteOf_eq]; rfl) (fun _ _ => rfl) u8_sizeU u8_zeroU (show 1 ≤ 16777216 by decide) (show 0 < 1 by decide) ?_
    intro v12 W hJ hkb
    have HJ := Lib.hid hJ
    clear hJ
    refine hK _ _ hkb ?_
    clear hK K
    (try simp only [Act.put, List.setIfInBounds_toArray, List.set_cons_succ, List.set_cons_zero])
    exact hM2 v8 v12 _ (HJ.out.sub (by intro x hx; simp only [List.mem_cons, List.not_mem_nil, or_false] at hx; rcases hx with rfl <;> first | exact (.head _)))
  · intro v12 W hJ
    have HJ := Lib.hid hJ
    clear hJ
    refine stepM 3 rfl (by kernel_rfl) rfl (fun K hK => ?_)
    go_simp
    refine (HJ.out.num0 vb bs F (HV.out HJ.out) (HVF.out HJ.out) c.1 8 hid (by omega) (by omega)).mono ?_
    rintro e W ⟨v8, rfl, hJ, hkb⟩
    have HJ := Lib.hid hJ
    clear hJ
    refine hK _ _ hkb ?_
    clear hK K
    exact relist (by kernel_rfl) (hM2 v8 v12 _ (HJ.out.sub (by intro x hx; simp only [List.mem_cons, List.not_mem_nil, or_false] at hx; rcases hx with rfl <;> first | exact (.head _))))
  intro v8 v12 W hJ
  have HJ := Lib.hid hJ
  clear hJ
  refine stepM 8 rfl (by kernel_rfl) rfl (fun K hK => ?_)
  refine HJ.out.appI (.tmp 8) (.tmp 12) _ _ rfl Try.underlying35 Try.underlying35 rfl (.head _) rfl (by simp only [List.length_append, List.length_cons, List.length_nil, be_length]; omega) ?_
  intro v13 W hJ hkb
  have HJ := Lib.hid hJ
  clear hJ
  refine hK _ _ hkb ?_
  clear hK K
  (try simp only [Act.put, List.setIfInBounds_toArray, List.set_cons_succ, List.set_cons_zero])
  refine takeK 9 rfl (by kernel_rfl) (by kernel_rfl) (by kernel_rfl) rfl (fun _ _ _ _ h => h) rfl (fun K hK => ?_)
  go_big_quiet_op
  first | refine hK _ ?_ | refine ⟨_, fun _ _ => rfl, hK _ ?_⟩
  clear hK K
  refine doneM (by kernel_rfl) ?_ _
  have ho13 := HJ.out.own
  have hx13 : Ext w W := HX.out.trans HJ.out.ext
  have hb13 : Blk W w.heap.size 30 CC := by
    show W.heap[w.heap.size]? = _
    rw [HJ.out.blk (by simp [Value.ownBlock])]; exact HBB.out
  have hf13 : ∀ b, v13.ownBlock = some b → w.heap.size < b := fun b hb => by
    have h1 := (Fresh.new (w := w0) (w' := W) HJ.out.mv) b hb
    have h2 := HJ.out.lt
    omega
  have HO13 := Lib.hid ho13
  have HX13 := Lib.hid hx13
  have HB13 := Lib.hid hb13
  have HF13 := Lib.hid hf13
  clear HJ ho13 hx13 hb13 hf13 HV HVF
  go_wp2
  have hbq : Blk W.drew w.heap.size 30 CC := HB13.out
  have hxq : Ext w W.drew := HX13.out.drew
  have hoq : OwnB W.drew v13 ((bs ++ be 8 c.1) ++ [byteOf c.2.1]) := HO13.out.ext (Ext.refl _).drew
  refine startM (KeepB fun b => b = w.heap.size) (by kernel_rfl) ?_
  (try simp only [Act.put, List.setIfInBounds_toArray, List.set_cons_succ, List.set_cons_zero])
  generalize W.drew = wq at *
  have HK2 := Lib.hid ((hbq.cell 2).trans HC2.out)
  have hkh : Cells wq ⟨w.heap.size, 3, none⟩ (bv c.2.2.2.1) := by have h := (hbq.cells.drop 3).take 32; rw [HCH.out, addr_at] at h; exact h
  have HKH := Lib.hid hkh
  have hne : ∀ b, v13.ownBlock = some b → b ≠ w.heap.size := fun b hb e => by have := HF13.out b hb; omega
  have HNE := Lib.hid hne
  have hJ0 : CJ w.heap.size wq v13 v13 ((bs ++ be 8 c.1) ++ [byteOf c.2.1]) [] wq := CJ.start hbq.lt hoq hne
  have HXQ := Lib.hid hxq
  have HBQ := Lib.hid hbq
  clear hbq hxq hoq hkh hne
  refine takeK 0 rfl (by kernel_rfl) (by kernel_rfl) (by kernel_rfl) rfl (fun _ _ _ _ h => h) rfl (fun K hK => ?_)
  go_big_quiet_op
  first | refine hK _ ?_ | refine ⟨_, fun _ _ => rfl, hK _ ?_⟩
  clear hK K
  refine takeK 1 rfl (by kernel_rfl) (by kernel_rfl) (by kernel_rfl) rfl (fun _ _ _ _ h => h) rfl (fun K hK => ?_)
  go_big_quiet_op
  first | refine hK _ ?_ | refine ⟨_, fun _ _ => rfl, hK _ ?_⟩
  clear hK K
  refine takeK 2 rfl (by kernel_rfl) (by kernel_rfl) (by kernel_rfl) rfl (fun _ _ _ _ h => h) rfl (fun K hK => ?_)
  refine quiet_cell _ _ rfl _ rfl _ _ Try.underlying23 rfl (fun W' h => KeepB.cell h HK2.out rfl) ?_
  refine hK _ ?_
  simp only [Act.put, List.setIfInBounds_toArray, List.set_cons_succ, List.set_cons_zero]
  clear hK K
  refine takeK 4 rfl (by kernel_rfl) (by kernel_rfl) (by kernel_rfl) rfl (fun _ _ _ _ h => h) rfl (fun K hK => ?_)
  go_big_quiet_op
  first | refine hK _ ?_ | refine ⟨_, fun _ _ => rfl, hK _ ?_⟩
  clear hK K
  refine takeK 5 rfl (by kernel_rfl) (by kernel_rfl) (by kernel_rfl) rfl (fun _ _ _ _ h => h) rfl (fun K hK => ?_)
  go_big_quiet_op
  first | refine hK _ ?_ | refine ⟨_, fun _ _ => rfl, hK _ ?_⟩
  clear hK K
  apply lat1 (fun v17 W => CJ w.heap.size wq v13 v17 (((bs ++ be 8 c.1) ++ [byteOf c.2.1]) ++ be 8 c.2.2.1) [] W)
  intro hM0
  · have HJ := Lib.hid hJ0
    refine stepM 3 rfl (by kernel_rfl) rfl (fun K hK => ?_)
    go_simp
    refine (HJ.out.num c.2.2.1 8 ham (by omega) (by simp only [List.length_append, List.length_cons, List.length_nil, be_length]; omega)).mono ?_
    rintro e W ⟨v17, rfl, hJ, hkb⟩
    have HJ := Lib.hid hJ
    clear hJ
    refine hK _ _ hkb ?_
    clear hK K
    exact hM0 v17 _ (HJ.out.sub (by intro x hx; cases hx))
  intro v17 W hJ
  have HJ := Lib.hid hJ
  clear hJ
  refine stepM 6 rfl (by kernel_rfl) rfl (fun K hK => ?_)
  refine HJ.out.appS (.tmp 17) (.tmp 19) _ _ rfl Try.underlying35 Try.underlying35 rfl _ 32 32 c.2.2.2.1 rfl HH.out (fun _ => ⟨_, rfl, HKH.out.keep (HJ.out.blk HNE.out)⟩) (by simp only [List.length_append, List.length_cons, List.length_nil, be_length]; omega) ?_
  intro v20 W hJ hkb
  have HJ := Lib.hid hJ
  clear hJ
  refine hK _ _ hkb ?_
  clear hK K
  (try simp only [Act.put, List.setIfInBounds_toArray, List.set_cons_succ, List.set_cons_zero])
  refine takeK 7 rfl (by kernel_rfl) (by kernel_rfl) (by kernel_rfl) rfl (fun _ _ _ _ h => h) rfl (fun K hK => ?_)
  go_big_quiet_op
  first | refine hK _ ?_ | refine ⟨_, fun _ _ => rfl, hK _ ?_⟩
  clear hK K
  refine doneM (by kernel_rfl) ?_ _
  have ho20 := HJ.out.own
  have hfr : ∀ b, v13.ownBlock = some b → w.heap.size ≤ b := fun b hb => Nat.le_of_lt (HF13.out b hb)
  have hx20 : Ext w W := grown_then HXQ.out HJ.out.mv.grown (.inr hfr)
  have c35 : W.cell? ⟨w.heap.size, 35, none⟩ = some (.int .u64 (c.2.2.2.2.1 : Int)) := (World.cell?_of_block (HJ.out.blk HNE.out)).trans ((HBQ.out.cell 35).trans HC35.out)
  have HX20 := Lib.hid hx20
  have HO20 := Lib.hid ho20
  clear HJ hx20 ho20 hfr
  go_wp2_with (first
    | (go_at_call 31; refine (Ref_Num v20 _ c.2.2.2.2.1 8 _ _ (OwnB.holds HO20.out) (OwnB.lt HO20.out) hex (by omega) (by simp only [List.length_append, List.length_cons, List.length_nil, be_length, HH.out]; omega)).mono ?_; rintro e w24 ⟨v24, rfl, ho24, hf24⟩)
    | fail)
  go_ret
  exact ⟨_, rfl, by simpa [condB] using ho24, ⟨HX20.out.trans (Fresh.ext hf24), .inr fun b hb => Nat.le_trans HX20.out.size (Fresh.new hf24 b hb)⟩⟩
end
end Go.Proofs.Ytmicjaiiinaipaa

/- Walks and plain laws, put together in build order. Conditions: what each of them names. -/
import Derived.OrdersHeld
import Derived.Deep.RegionHeld
import Derived.Test.YtpdkmapogncgmaaW792ff34b93
set_option linter.unusedVariables false
set_option linter.unusedSimpArgs false
set_option linter.unnecessarySimpa false
namespace Go.Proofs.Ytpdkmapogncgmaa
section
open Go.RowKit
set_option maxRecDepth 100000 in
set_option maxHeartbeats 400000 in
theorem Out_num (v : Value) (bs : List UInt8) (n size : Nat) (w : World) (ho : OwnB w v bs) (_hn : n < 18446744073709551616) (hs : size ≤ 8) (hb : bs.length + size ≤ 140737488355328) :
    Calls Try.prog 78 #[v, .int .u64 n, .int .i64 size] w fun e w' => ∃ v', e = .returned v' ∧ OwnB w' v' (bs ++ be size n) ∧ Moved w w' v v' := by
  obtain ⟨i0, hi, hz0, hz1, hz2⟩ := info_parts u8_info
  go_enter Try.func78, Try.ntmps78
  go_wp2
  go_loopw [0, 7] (fun vr i wr => ∃ j : Nat, j ≤ size ∧ i = .int .i64 ((j : Int) - 1) ∧ OwnB wr vr (bs ++ beTop size j n) ∧ Moved w wr v vr) (fun _ i _ => (intOf i + 1).toNat)
  case atStart => exact ⟨size, by omega, rfl, by simpa [beTop] using ho, Moved.refl _ _⟩
  case round =>
    obtain ⟨j, hj, rfl, hor, hmr⟩ := hrel
    have hl := beTop_length size j n
    have hll : (bs ++ beTop size j n).length + j ≤ bs.length + size := by simp; omega
    by_cases hlt : 0 < j
    · go_wp2_with (at_builtin; refine wpList_app1 wr rfl (.tmp 14) (.tmp 20) _ _ rfl _ _ 5 i0 _ 1 1 Try.underlying80 Try.underlying80 hi hz0 hz1 hz2 rfl (by decide) _ _ _ [.int .u8 ((n : Int) / 2 ^ (8 * (j - 1)) % 256)] rfl hor rfl rfl (by simp [Value.oneCell']) (by unfold maxLen; omega) (by omega) ?_; intro v' w1 ho1 hm1)
      go_roundw
      case rel =>
        refine ⟨j - 1, by omega, by rw [show ((j - 1 : Nat) : Int) = (j : Int) - 1 by omega], ?_, hmr.trans hm1⟩
        rw [beTop_step size j n hlt hj, ← List.append_assoc]
        exact OwnB.snoc ho1 (be_byte n j)
      case measure => simp [intOf]; omega
    · obtain rfl : j = 0 := by omega
      go_wp2
      go_ret
      exact ⟨_, rfl, by simpa [beTop, List.take_of_length_le, be_length] using hor, hmr⟩
set_option maxRecDepth 100000 in
set_option maxHeartbeats 400000 in
theorem Out_Four (v vl : Value) (bs : List UInt8) (l : List Nat) (w : World) (F : Fp) (ho : OwnB w v bs) (hl : (Ty.sl (.nat .u32)).holds w F [vl] l) (hF : Far F w v) (hb : bs.length + 4 * l.length ≤ 140737488355328) :
    Calls Try.prog 57 #[v, vl] w fun e w' => ∃ v', e = .returned v' ∧ OwnB w' v' (bs ++ l.flatMap (be 4)) ∧ Moved w w' v v' := by
  obtain ⟨A, c, xs, hv, hlc, hc, _, hcell, hall⟩ := hl
  cases hv
  unfold maxLen at hc
  go_enter Try.func57, Try.ntmps57
  go_wp2
  go_loopw [0, 9] (fun vr i wr => ∃ k : Nat, k ≤ l.length ∧ i = .int .i64 k ∧ OwnB wr vr (bs ++ (l.take k).flatMap (be 4)) ∧ Moved w wr v vr) (fun _ i _ => l.length - (intOf i).toNat)
  case atStart => exact ⟨0, by omega, rfl, by simpa using ho, Moved.refl _ _⟩
  case round =>
    obtain ⟨k, hk, rfl, hor, hmr⟩ := hrel
    have hll : (bs ++ (l.take k).flatMap (be 4)).length = bs.length + 4 * k := by rw [List.length_append, be_flat]; simp; omega
    by_cases hlt : k < l.length
    · obtain ⟨ad, rfl, hf, hcells⟩ := hcell (by rintro rfl; simp at hlt)
      obtain ⟨hx, hwf⟩ := AllH.nat_at hall hlt
      have hcx := (hcells.keep (hmr.same hF _ hf)) k _ hx
      have hbd := bounds_u32 hwf
      clear hwf hx
      go_wp2_with fail
      refine (Out_num _ _ _ 4 _ hor (by omega) (by omega) (by omega)).mono ?_
      rintro e w1 ⟨v1, rfl, ho1, hm1⟩
      go_wp2
      go_roundw
      case rel => exact ⟨k + 1, by omega, by go_num, by rw [flat_step _ _ _ hlt, ← List.append_assoc]; exact ho1, hmr.trans hm1⟩
      case measure => simp [intOf]; omega
    · obtain rfl : k = l.length := by omega
      go_wp2
      go_ret
      exact ⟨_, rfl, by simpa using hor, hmr⟩
set_option maxRecDepth 100000 in
set_option maxHeartbeats 400000 in
theorem Out_One (v vl : Value) (bs : List UInt8) (l : List UInt8) (w : World) (F : Fp) (ho : OwnB w v bs) (hl : (Ty.sl .u8).holds w F [vl] l) (hb : bs.length + l.length ≤ 140737488355328) :
    Calls Try.prog 58 #[v, vl] w fun e w' => ∃ v', e = .returned v' ∧ OwnB w' v' (bs ++ l) ∧ Moved w w' v v' := by
  obtain ⟨i0, hi, hz0, hz1, hz2⟩ := info_parts u8_info
  obtain ⟨A, c, xs, hv, hlc, hc, hA, hcell, hall⟩ := hl
  cases hv
  have hsrc := src_bytes (w := w) (F := F) (A := A) (c := c) (l := l) ⟨A, c, xs, rfl, hlc, hc, hA, hcell, hall⟩
  go_enter Try.func58, Try.ntmps58
  go_wp2_with (at_builtin; refine wpList_app w rfl (.tmp 5) (.tmp 6) _ _ rfl _ _ i0 _ 1 1 Try.underlying80 Try.underlying62 hi hz0 hz1 hz2 rfl (by decide) _ _ _ rfl ho _ _ _ (bv l) rfl (by simp) hsrc (bv_one _) (by unfold maxLen; omega) (by omega) ?_; intro v' w1 ho1 hm1)
  go_ret
  exact ⟨_, rfl, OwnB.app ho1, hm1⟩
theorem zero32 : (Try.prog.info? 55).bind (fun i => i.zero.map (·.cells)) = some (bv (List.replicate 32 0)).toArray := by kernel_rfl
set_option maxRecDepth 100000 in
set_option maxHeartbeats 400000 in
theorem Out_Sum (v vl : Value) (bs : List UInt8) (l : List (List UInt8)) (w : World) (F : Fp) (ho : OwnB w v bs) (hl : (Ty.sl (.arr 32 .u8)).holds w F [vl] l) (hF : Far F w v) (hb : bs.length + 32 * l.length ≤ 140737488355328) :
    Calls Try.prog 59 #[v, vl] w fun e w' => ∃ v', e = .returned v' ∧ OwnB w' v' (bs ++ l.flatMap id) ∧ Moved w w' v v' := by
  obtain ⟨i0, hi, hz0, hz1, hz2⟩ := info_parts u8_info
  obtain ⟨A, c, xs, hv, hlc, hc, _, hcell, hall⟩ := hl
  cases hv
  unfold maxLen at hc
  go_enter Try.func59, Try.ntmps59
  go_wp2
  go_loopw [0, 9] (fun vr i wr => ∃ k : Nat, k ≤ l.length ∧ i = .int .i64 k ∧ OwnB wr vr (bs ++ (l.take k).flatMap id) ∧ (bs ++ (l.take k).flatMap id).length = bs.length + 32 * k ∧ Moved w wr v vr) (fun _ i _ => l.length - (intOf i).toNat)
  case atStart => exact ⟨0, by omega, rfl, by simpa using ho, by simp, Moved.refl _ _⟩
  case round =>
    obtain ⟨k, hk, rfl, hor, hll, hmr⟩ := hrel
    by_cases hlt : k < l.length
    · obtain ⟨ad, rfl, hf, hcells⟩ := hcell (by rintro rfl; simp at hlt)
      obtain ⟨h32, hx⟩ := AllH.elem hall hlt
      have hx := AllH.bytes.1 hx
      have hcx : Cells wr (ad.add (k * 32)) (bv l[k]) := by rw [← hx]; exact ((hcells.keep (hmr.same hF _ hf)).drop _).take _
      have HL := Lib.hid hll
      have H32 := Lib.hid h32
      clear hx hcells hll h32
      go_wp2_with (first
        | (refine wpList_load_agg _ rfl 55 (.tmp 11) rfl _ rfl (bv l[k]) _ Try.underlying55 rfl (by rw [bv_length, H32.out]; kernel_rfl) hcx ?_)
        | (refine wpList_alloc _ rfl 55 rfl _ zero32 ?_)
        | (refine wpList_store_new _ rfl 55 (.tmp 6) (.tmp 12) rfl rfl _ (bv l[k]) _ rfl (by rw [bv_length, H32.out]; kernel_rfl) (by simp [H32.out]) (bv_one _) ?_)
        | (at_builtin; refine wpList_app _ rfl (.tmp 13) (.tmp 14) _ _ rfl _ _ i0 _ 1 1 Try.underlying80 Try.underlying62 hi hz0 hz1 hz2 rfl (by decide) _ _ _ rfl (hor.ext ((Ext.refl _).alloc _)) _ _ _ (bv l[k]) rfl (by simp [H32.out]) (src_new _ _ _ _) (bv_one _) (by unfold maxLen; rw [HL.out]; omega) (by rw [HL.out]; omega) ?_; intro v1 w1 ho1 hm1))
      have hm2 := hmr.trans (Moved.pre ((Ext.refl _).alloc _) hm1)
      go_roundw
      case rel => exact ⟨k + 1, by omega, by go_num, by rw [flat_step _ _ _ hlt, ← List.append_assoc]; exact OwnB.app (by rw [show (id l[k]).length = 32 from H32.out]; exact ho1), by rw [flat_step _ _ _ hlt, ← List.append_assoc, List.length_append, HL.out]; simp only [id]; rw [H32.out]; omega, hm2⟩
      case measure => simp [intOf]; omega
    · obtain rfl : k = l.length := by omega
      clear hll
      go_wp2
      go_ret
      exact ⟨_, rfl, by simpa using hor, hmr⟩
end
section
open Go.RowKit

section
variable {P : Program}
/-- .. appended to an empty slice: a new array. -/
theorem wpList_app1_empty {w : World} {ops : Array Oper} {rest : List Oper} {o : Oper} {a : Act} {Q : Exit → Act → World → Prop} (hgd : o.guard = none) (s x : Operand) (t t' : TypeId)
    (ho : o.op = .call { callee := .builtin .append, args := #[s, x], argTypes := #[t, t'] })
    (e e' e2 : TypeId) (i : TypeInfo) (z : Value) (size bytes : Nat) (ht : P.underlying t = some (.slice e)) (ht' : P.underlying t' = some (.slice e')) (hi : P.info? e = some i) (hz : i.zero = some z)
    (hsize : i.size = size) (hby : i.bytes = bytes) (hzs : z.cells.size = size) (hsz : 0 < size)
    (b : Addr) (cs : List Value) (hs : a.eval s = .slice (some b) 0 0) (hown : Own w e size (.slice (some b) 0 0) 0 [])
    (hx : a.eval x = .slice (some ⟨w.heap.size, 0, none⟩) 1 1) (hcs : cs.length = size) (h1 : ∀ u ∈ cs, u.oneCell' = true) (hbytes : bytes ≤ 1024)
    (h : ∀ v' w', Own w' e size v' 1 cs → Ext w w' → (∀ g, v'.ownBlock = some g → w.heap.size ≤ g) → wpList P ops Q rest (a.put o.dst v') w') : wpList P ops Q (o :: rest) a (w.alloc (.cells cs.toArray e2)) := by
  have hx0 : Ext w (w.alloc (.cells cs.toArray e2)) := (Ext.refl w).alloc _
  have hown' := hown.ext hx0
  have hc : Cells (w.alloc (.cells cs.toArray e2)) ⟨w.heap.size, 0, none⟩ cs := by have := Cells.of_block (heap_alloc_new w (.cells cs.toArray e2)); simpa using this
  have hbb : bytes * 1 ≤ 1024 := by omega
  obtain ⟨v', w', hr, h2, h3⟩ := run_app (P := P) (w.alloc (.cells cs.toArray e2)) t t' o.type e e' i z size bytes ht ht' hi hz hsize hby hzs hsz _ 0 [] hown' (some ⟨w.heap.size, 0, none⟩) 1 1 cs (by omega) (fun _ => ⟨_, rfl, hc⟩) h1 (by decide) (by omega)
  have hg := run_append_grow (P := P) (w := w.alloc (.cells cs.toArray e2)) t o.type e i z ht hi hz b 0 0 [] (by simp) (by intro j v hj; simp at hj) ⟨w.heap.size, 0, none⟩ 1 1 cs (by rw [hsize]; omega) (fun j v hj => hc j v hj) (by omega) (by omega)
    (by rw [hby, show Builtin.nextslicecap (0 + 1) 0 = 1 from by decide]; omega)
  rw [← append_types (w.alloc (.cells cs.toArray e2)) ht ht'] at hg
  rw [hr] at hg
  have hq := hg
  simp only [Result.ok.injEq] at hq
  obtain ⟨hv, hw⟩ := hq
  refine wpList_plain hgd fun K hK => ?_
  unfold Oper.wp execOp
  simp only [ho, resolve, invoke, builtin, Sem.run_bind, Sem.run_pure, Result.andThen_ok, List.map_toArray, List.map_cons, List.map_nil, hs, hx, hr]
  refine hK _ _ (h v' w' (by simpa using h2) ?_ ?_)
  · rw [hw]; exact (hx0.trans (Ext.refl _).drew).alloc _
  · intro g hgb
    rw [hv] at hgb
    simp [Value.ownBlock] at hgb
    omega
end
set_option maxRecDepth 100000 in
set_option maxHeartbeats 400000 in
theorem num0 (b : Addr) (n size : Nat) (w : World) (ho : OwnB w (.slice (some b) 0 0) []) (_hn : n < 18446744073709551616) (hs : size ≤ 8) (hs0 : 0 < size) :
    Calls Try.prog 78 #[.slice (some b) 0 0, .int .u64 n, .int .i64 size] w fun e w' => ∃ v', e = .returned v' ∧ OwnB w' v' (be size n) ∧ Ext w w' ∧ ∀ g, v'.ownBlock = some g → w.heap.size ≤ g := by
  obtain ⟨i0, hi, hz0, hz1, hz2⟩ := info_parts u8_info
  have HO := Lib.hid ho
  clear ho
  go_enter Try.func78, Try.ntmps78
  go_wp2
  go_loopw [0, 7] (fun vr i wr => ∃ j : Nat, j ≤ size ∧ i = .int .i64 ((j : Int) - 1) ∧ Ext w wr ∧ ((j = size ∧ vr = .slice (some b) 0 0) ∨ (j < size ∧ OwnB wr vr (beTop size j n) ∧ ∀ g, vr.ownBlock = some g → w.heap.size ≤ g))) (fun _ i _ => (intOf i + 1).toNat)
  case atStart => exact ⟨size, by omega, rfl, Ext.refl _, .inl ⟨rfl, rfl⟩⟩
  case round =>
    obtain ⟨j, hj, rfl, hxr, hst⟩ := hrel
    rcases hst with ⟨rfl, rfl⟩ | ⟨hjs, hor, hnr⟩
    · have hor := HO.out.ext hxr
      go_wp2_with (at_builtin; refine wpList_app1_empty rfl (.tmp 14) (.tmp 20) _ _ rfl _ _ 5 i0 _ 1 1 Try.underlying80 Try.underlying80 hi hz0 hz1 hz2 rfl (by decide) b [.int .u8 ((n : Int) / 2 ^ (8 * (j - 1)) % 256)] rfl hor rfl rfl (by simp [Value.oneCell']) (by decide) ?_; intro v' w1 ho1 hx1 hn1)
      go_roundw
      case rel =>
        refine ⟨j - 1, by omega, by rw [show ((j - 1 : Nat) : Int) = (j : Int) - 1 by omega], hxr.trans hx1, .inr ⟨by omega, ?_, fun g hg => Nat.le_trans hxr.size (hn1 g hg)⟩⟩
        rw [beTop_step j j n hs0 (Nat.le_refl j)]
        have e : beTop j j n = [] := by simp [beTop]
        rw [e]
        exact OwnB.snoc ho1 (be_byte n j)
      case measure => simp [intOf]; omega
    · have hl := beTop_length size j n
      by_cases hlt : 0 < j
      · go_wp2_with (at_builtin; refine wpList_app1 wr rfl (.tmp 14) (.tmp 20) _ _ rfl _ _ 5 i0 _ 1 1 Try.underlying80 Try.underlying80 hi hz0 hz1 hz2 rfl (by decide) _ _ _ [.int .u8 ((n : Int) / 2 ^ (8 * (j - 1)) % 256)] rfl hor rfl rfl (by simp [Value.oneCell']) (by unfold maxLen; omega) (by omega) ?_; intro v' w1 ho1 hm1)
        go_roundw
        case rel =>
          refine ⟨j - 1, by omega, by rw [show ((j - 1 : Nat) : Int) = (j : Int) - 1 by omega], grown_then hxr hm1.grown (.inr hnr), .inr ⟨by omega, ?_, fun g hg => ?_⟩⟩
          · rw [beTop_step size j n hlt hj]
            exact OwnB.snoc ho1 (be_byte n j)
          · rcases hm1.at_ with e | hn
            · exact hnr g (e.symm.trans hg)
            · exact Nat.le_trans hxr.size (hn g hg)
        case measure => simp [intOf]; omega
      · obtain rfl : j = 0 := by omega
        go_wp2
        go_ret
        exact ⟨_, rfl, by simpa [beTop, List.take_of_length_le, be_length] using hor, hxr, hnr⟩
set_option maxRecDepth 100000 in
set_option maxHeartbeats 400000 in
theorem four0 (b : Addr) (vl : Value) (n : Nat) (w : World) (F : Fp) (ho : OwnB w (.slice (some b) 0 0) []) (hl : (Ty.sl (.nat .u32)).holds w F [vl] [n]) (hF : ∀ b, F b → b < w.heap.size) :
    Calls Try.prog 57 #[.slice (some b) 0 0, vl] w fun e w' => ∃ v', e = .returned v' ∧ OwnB w' v' (be 4 n) ∧ Ext w w' ∧ ∀ g, v'.ownBlock = some g → w.heap.size ≤ g := by
  obtain ⟨A, c, xs, hv, hlc, hc, _, hcell, hall⟩ := hl
  cases hv
  unfold maxLen at hc
  obtain ⟨ad, rfl, hf, hcells⟩ := hcell (by simp)
  obtain ⟨hx, hwf⟩ := AllH.nat_at hall (show 0 < [n].length by simp)
  have hcx := hcells 0 _ hx
  have hbd := bounds_u32 hwf
  have hfl := hF _ hf
  have HO := Lib.hid ho
  clear hwf hx hall hcells hcell ho
  simp only [List.getElem_cons_zero] at hcx hbd
  replace hcx : w.cell? ad = some (.int .u32 (n : Int)) := hcx
  go_enter Try.func57, Try.ntmps57
  go_wp2
  go_loopw [0, 9] (fun vr i wr => Ext w wr ∧ ((i = .int .i64 0 ∧ vr = .slice (some b) 0 0) ∨ (i = .int .i64 1 ∧ OwnB wr vr (be 4 n) ∧ ∀ g, vr.ownBlock = some g → w.heap.size ≤ g))) (fun _ i _ => 1 - (intOf i).toNat)
  case atStart => exact ⟨Ext.refl _, .inl ⟨rfl, rfl⟩⟩
  case round =>
    obtain ⟨hxr, hst⟩ := hrel
    rcases hst with ⟨rfl, rfl⟩ | ⟨rfl, hor, hnr⟩
    · have hor := HO.out.ext hxr
      have hcr := World.grownBy.cell hxr hcx (by simp)
      go_wp2_with fail
      refine (num0 b n 4 _ hor (by omega) (by omega) (by omega)).mono ?_
      rintro e w1 ⟨v1, rfl, ho1, hx1, hn1⟩
      go_wp2
      go_roundw
      case rel => exact ⟨hxr.trans hx1, .inr ⟨rfl, ho1, fun g hg => Nat.le_trans hxr.size (hn1 g hg)⟩⟩
      case measure => simp [intOf]
    · go_wp2
      go_ret
      exact ⟨_, rfl, hor, hxr, hnr⟩
end
section
open Go.RowKit

section
variable {P : Program} {md : Region.Mode} {ops : Array Oper} {Q : Exit → Act → World → Prop} {R : World → World → Prop}
/-- Whatever order is picked from here on; each step leads to a later world. -/
def wpAnyM (P : Program) (md : Region.Mode) (ops : Array Oper) (Q : Exit → Act → World → Prop) (R : World → World → Prop) : Nat → Array Bool → Act → World → Prop
  | 0, listed, a, w => Region.ready md ops listed = [] ∧ Q .normal a w
  | fuel + 1, listed, a, w =>
    (Region.ready md ops listed = [] → Q .normal a w) ∧
    ∀ i ∈ Region.ready md ops listed, wpOp P ops Q i (fun a' w' => R w w' ∧ wpAnyM P md ops Q R fuel (listed.setIfInBounds i true) a' w') a w
theorem wpAny_of_mono : ∀ (fuel : Nat) (listed : Array Bool) (a : Act) (w : World), wpAnyM P md ops Q R fuel listed a w → wpAny P md ops Q fuel listed a w
  | 0, _, _, _, h => h
  | fuel + 1, _, _, _, h => ⟨h.1, fun i hi => wpOp_mono (fun a' w' h' => wpAny_of_mono fuel _ a' w' h'.2) (h.2 i hi)⟩
theorem readyM_mono {listed : Array Bool} {i j : Nat} (hj : j ∈ Region.ready md ops listed) (hji : j ≠ i) : j ∈ Region.ready md ops (listed.setIfInBounds i true) := ready_mono hj hji
/-- The later worlds. -/
theorem wpAnyM_first (hrf : ∀ a, R a a) (htr : ∀ a b c, R a b → R b c → R a c) {i : Nat} {oi : Oper} {v : Value} (hi : ops[i]? = some oi) (hsel : ∀ (j : Nat) (o : Oper) cs b, ops[j]? = some o → o.op ≠ .select cs b)
    (hQ : ∀ c a w, Q (.panic c) (a.put oi.dst v) w → Q (.panic c) a w) (S : World → Prop) (hS' : ∀ a b, S a → R a b → S b) :
    ∀ (fuel : Nat) (listed : Array Bool) (a : Act) (w : World),
      (∀ j oj, ops[j]? = some oj → j ≠ i → listed.getD j true = false → (∀ e ∈ oj.after, Region.binds md e = true → e.on ≠ i) → oi.apart ops oj = true) →
      i ∈ Region.ready md ops listed → YieldsIf P ops S oi v a → S w →
      wpAnyM P md ops Q R fuel (listed.setIfInBounds i true) (a.put oi.dst v) w → wpAnyM P md ops Q R (fuel + 1) listed a w := by
  intro fuel
  induction fuel with
  | zero =>
    intro listed a w _ hr hy hS H
    refine ⟨fun h => (by rw [h] at hr; cases hr), fun j hj => ?_⟩
    by_cases hji : j = i
    · subst hji; exact hy.wpOp hi hS ⟨hrf _, H⟩
    · have := readyM_mono hj hji
      rw [H.1] at this
      cases this
  | succ fuel ih =>
    intro listed a w hfree hr hy hS H
    refine ⟨fun h => (by rw [h] at hr; cases hr), fun j hj => ?_⟩
    by_cases hji : j = i
    · subst hji; exact hy.wpOp hi hS ⟨hrf _, H⟩
    · have h1 := H.2 j (readyM_mono hj hji)
      obtain ⟨hjun, oj, hoj, hall⟩ := Go.mem_ready.1 hj
      have hnot : ∀ e ∈ oj.after, Region.binds md e = true → e.on ≠ i := fun e he hb heq => by
        have h1 := hall e he hb
        have h0 := (Go.mem_ready.1 hr).1
        rw [heq] at h1
        rcases Nat.lt_or_ge i listed.size with h' | h'
        · simp [h'] at h0 h1; rw [h0] at h1; cases h1
        · simp [Array.getElem?_eq_none h'] at h1
      have h2 := wpOp_putIf hoj (hfree j oj hoj hji hjun hnot) (fun cs b => hsel i oi cs b hi) (fun cs b => hsel j oj cs b hoj) hQ hy h1
      have hfree' : ∀ k ok, ops[k]? = some ok → k ≠ i → (listed.setIfInBounds j true).getD k true = false →
          (∀ e ∈ ok.after, Region.binds md e = true → e.on ≠ i) → oi.apart ops ok = true := fun k ok hk hki hun hno => by
        refine hfree k ok hk hki ?_ hno
        by_cases hjk : j = k
        · subst hjk; exact hjun
        · rw [getD_set_ne true hjk] at hun; exact hun
      refine wpOp_mono (fun a' w' h3 => ⟨h3.2.1, ih (listed.setIfInBounds j true) a' w' hfree' (readyM_mono hr (Ne.symm hji)) h3.1 (hS' _ _ hS h3.2.1) ?_⟩) h2
      rw [Array.setIfInBounds_comm _ _ hji]
      exact h3.2.2
/-- Number i is taken first: it may come up, and yields one value in every later world. -/
theorem takeM (hrf : ∀ a, R a a) (htr : ∀ a b c, R a b → R b c → R a c) (i : Nat) {oi : Oper} {fuel : Nat} {listed : Array Bool} {a : Act} {w : World} (hi : ops[i]? = some oi)
    (hs : Region.noSelect ops = true) (hf : Region.free md ops listed i = true) (hr : (Region.ready md ops listed).contains i = true)
    (hQ : ∀ v c a w, Q (.panic c) (a.put oi.dst v) w → Q (.panic c) a w) (hw : Region.wanted oi (yielded ops a.tmps) = true)
    (h : ∀ K : Act → Prop, (∀ a', wpAnyM P md ops Q R fuel (listed.setIfInBounds i true) a' w → K a') → ∃ v, (∀ w', R w w' → (execOp a.eval oi).run P w' = .ok (.value v) w') ∧ K (a.put oi.dst v)) : wpAnyM P md ops Q R (fuel + 1) listed a w := by
  obtain ⟨v, h1, h2⟩ := h _ (fun _ h => h)
  exact wpAnyM_first hrf htr hi (Region.noSelect_spec hs) (hQ v) (R w) (fun b c h1 h2 => htr _ _ _ h1 h2) fuel listed a w (Region.free_spec hi hf) (by simpa using hr) (.inl ⟨hw, h1⟩) (hrf w) h2
/-- .. it is passed over: its guard says no. -/
theorem skipM (hrf : ∀ a, R a a) (htr : ∀ a b c, R a b → R b c → R a c) (i : Nat) {oi : Oper} {fuel : Nat} {listed : Array Bool} {a : Act} {w : World} (hi : ops[i]? = some oi)
    (hs : Region.noSelect ops = true) (hf : Region.free md ops listed i = true) (hr : (Region.ready md ops listed).contains i = true)
    (hQ : ∀ v c a w, Q (.panic c) (a.put oi.dst v) w → Q (.panic c) a w) (hw : Region.wanted oi (yielded ops a.tmps) = false)
    (h : wpAnyM P md ops Q R fuel (listed.setIfInBounds i true) (a.put oi.dst undef) w) : wpAnyM P md ops Q R (fuel + 1) listed a w :=
  wpAnyM_first hrf htr hi (Region.noSelect_spec hs) (hQ _) (R w) (fun b c h1 h2 => htr _ _ _ h1 h2) fuel listed a w (Region.free_spec hi hf) (by simpa using hr) (.inr ⟨hw, rfl⟩) (hrf w) h
/-- One comes up alone. -/
theorem op_at {i : Nat} {oi : Oper} (h : (ops.toList.drop i).head? = some oi) : ops[i]? = some oi := by
  rw [List.head?_drop] at h
  simpa using h
theorem stepM (i : Nat) {oi : Oper} {fuel : Nat} {listed : Array Bool} {a : Act} {w : World} (hi : (ops.toList.drop i).head? = some oi) (hr : Region.ready md ops listed = [i]) (hw : Region.wanted oi (yielded ops a.tmps) = true)
    (h : ∀ K : Act → World → Prop, (∀ a' w', R w w' → wpAnyM P md ops Q R fuel (listed.setIfInBounds i true) a' w' → K a' w') → oi.wp P a w K Q) : wpAnyM P md ops Q R (fuel + 1) listed a w := by
  refine ⟨fun h0 => (by rw [hr] at h0; cases h0), fun j hj => ?_⟩
  rw [hr] at hj
  obtain rfl : j = i := by simpa using hj
  refine wpOp_step (op_at hi) (fun K' hK => ?_)
  rw [if_pos hw]
  exact h K' (fun a' w' h1 h2 => hK _ _ ⟨h1, h2⟩)
theorem doneM {listed : Array Bool} {a : Act} {w : World} (hr : Region.ready md ops listed = []) (h : Q .normal a w) : ∀ fuel, wpAnyM P md ops Q R fuel listed a w
  | 0 => ⟨hr, h⟩
  | _ + 1 => ⟨fun _ => h, by rw [hr]; simp⟩
theorem startM {id : Nat} {a : Act} {w : World} (R : World → World → Prop) (hm : P.follows .mixedOrders = true)
    (h : wpAnyM P .any ops Q R ops.size (Array.replicate ops.size false) a w.drew) : (Code.region id ops true).wp P Q a w :=
  wp_region_any hm (wpAny_of_mono _ _ _ _ h)
end
/-! ### Operations that yield a value, and are no call -/
def valB : Op → Bool
  | .move _ | .assign _ | .pick .. | .load .. | .binOp .. | .unOp .. | .convert .. | .slice .. | .fieldAddr .. | .field .. | .indexAddr .. | .index .. | .extract .. | .build .. | .alloc .. | .buildSlice .. => true
  | .call c => match c.callee with
    | .builtin b => match b with
      | .len | .cap | .append => true
      | _ => false
    | _ => false
  | _ => false
theorem val_ok {P : Program} {s : Sem Value} {w w' : World} {n : Next} (h : (do pure (Next.value (← s)) : Sem Next).run P w = .ok n w') : ∃ u, n = .value u := by
  rw [Sem.run_bind] at h
  cases hs : s.run P w with
  | ok u w1 => rw [hs] at h; simp at h; exact ⟨u, h.1.symm⟩
  | halt x w1 => rw [hs] at h; simp [Result.andThen] at h
theorem val_ok2 {P : Program} {α : Type} {s : Sem α} {f : α → Value} {w w' : World} {n : Next} (h : (s >>= fun u => (pure (Next.value (f u)) : Sem Next)).run P w = .ok n w') : ∃ u, n = .value u := by
  rw [Sem.run_bind] at h
  cases hs : s.run P w with
  | ok u w1 => rw [hs] at h; simp at h; exact ⟨_, h.1.symm⟩
  | halt x w1 => rw [hs] at h; simp [Result.andThen] at h
theorem valB_ok {P : Program} {o : Oper} (ho : valB o.op = true) {ρ : Operand → Value} {w w' : World} {n : Next} (h : (execOp ρ o).run P w = .ok n w') : ∃ u, n = .value u := by
  unfold execOp at h
  cases hop : o.op <;> simp only [hop, valB, Bool.false_eq_true] at h ho
  case move x => simp at h; exact ⟨_, h.1.symm⟩
  case assign x => simp at h; exact ⟨_, h.1.symm⟩
  case call c =>
    cases hc : c.callee with
    | value f => rw [hc] at ho; simp at ho
    | invoke r nm => rw [hc] at ho; simp at ho
    | builtin b =>
      rw [hc] at ho
      simp only [resolve, hc, invoke, Sem.run_bind, Sem.run_pure, Result.andThen_ok] at h
      cases b <;> simp only [Bool.false_eq_true] at ho
      all_goals (unfold builtin at h; exact val_ok h)
  case pick c x y => exact val_ok2 (f := fun b => if b = true then ρ x else ρ y) h
  all_goals exact val_ok h
theorem quiet_val {P : Program} {o : Oper} {a : Act} {C : World → Prop} {K : Act → Prop} (ho : valB o.op = true) (h : o.quiet P a C K) : ∃ v, (∀ w', C w' → (execOp a.eval o).run P w' = .ok (.value v) w') ∧ K (a.put o.dst v) := by
  obtain ⟨v, h1, h2⟩ := h
  refine ⟨v, fun w' hw => ?_, h2⟩
  have h3 := h1 w' hw
  unfold Oper.quietAt at h3
  cases hr : (execOp a.eval o).run P w' with
  | ok n w2 =>
    obtain ⟨u, rfl⟩ := valB_ok ho hr
    rw [hr] at h3
    simp only [Oper.quietUpon] at h3
    rw [h3.1, h3.2]
  | halt x w2 => rw [hr] at h3; simp [Oper.quietUpon] at h3
/-! ### At 'nothing that was there has changed' -/
section
variable {P : Program} {md : Region.Mode} {ops : Array Oper} {Q : Exit → Act → World → Prop}
theorem takeE (i : Nat) {oi : Oper} {fuel : Nat} {listed : Array Bool} {a : Act} {w : World} (hi : (ops.toList.drop i).head? = some oi)
    (hs : Region.noSelect ops = true) (hf : Region.free md ops listed i = true) (hr : (Region.ready md ops listed).contains i = true) (hc : valB oi.op = true)
    (hQ : ∀ v c a w, Q (.panic c) (a.put oi.dst v) w → Q (.panic c) a w) (hw : Region.wanted oi (yielded ops a.tmps) = true)
    (h : ∀ K : Act → Prop, (∀ a', wpAnyM P md ops Q Since fuel (listed.setIfInBounds i true) a' w → K a') → oi.quiet P a (Since w) K) : wpAnyM P md ops Q Since (fuel + 1) listed a w :=
  takeM (fun a => Ext.refl a) (fun a b c h1 h2 => Ext.trans h1 h2) i (op_at hi) hs hf hr hQ hw fun K hK => quiet_val hc (h K hK)
theorem skipE (i : Nat) {oi : Oper} {fuel : Nat} {listed : Array Bool} {a : Act} {w : World} (hi : (ops.toList.drop i).head? = some oi)
    (hs : Region.noSelect ops = true) (hf : Region.free md ops listed i = true) (hr : (Region.ready md ops listed).contains i = true)
    (hQ : ∀ v c a w, Q (.panic c) (a.put oi.dst v) w → Q (.panic c) a w) (hw : Region.wanted oi (yielded ops a.tmps) = false)
    (h : wpAnyM P md ops Q Since fuel (listed.setIfInBounds i true) (a.put oi.dst undef) w) : wpAnyM P md ops Q Since (fuel + 1) listed a w :=
  skipM (fun a => Ext.refl a) (fun a b c h1 h2 => Ext.trans h1 h2) i (op_at hi) hs hf hr hQ hw h
end
/-! ### At worlds in which some blocks are as they were -/
def KeepB (B : Nat → Prop) (w w' : World) : Prop := ∀ b, B b → w'.heap[b]? = w.heap[b]?
theorem KeepB.cells {B : Nat → Prop} {w w' : World} (h : KeepB B w w') {ad : Addr} {cs : List Value} (hc : Cells w ad cs) (hb : B ad.block) : Cells w' ad cs := hc.keep (h _ hb)
theorem KeepB.cell {B : Nat → Prop} {w w' : World} (h : KeepB B w w') {ad : Addr} {v : Value} (hc : w.cell? ad = some v) (hb : B ad.block) : w'.cell? ad = some v := (World.cell?_of_block (h _ hb)).trans hc
section
variable {P : Program} {md : Region.Mode} {ops : Array Oper} {Q : Exit → Act → World → Prop} {B : Nat → Prop}
theorem takeK (i : Nat) {oi : Oper} {fuel : Nat} {listed : Array Bool} {a : Act} {w : World} (hi : (ops.toList.drop i).head? = some oi)
    (hs : Region.noSelect ops = true) (hf : Region.free md ops listed i = true) (hr : (Region.ready md ops listed).contains i = true) (hc : valB oi.op = true)
    (hQ : ∀ v c a w, Q (.panic c) (a.put oi.dst v) w → Q (.panic c) a w) (hw : Region.wanted oi (yielded ops a.tmps) = true)
    (h : ∀ K : Act → Prop, (∀ a', wpAnyM P md ops Q (KeepB B) fuel (listed.setIfInBounds i true) a' w → K a') → oi.quiet P a (KeepB B w) K) : wpAnyM P md ops Q (KeepB B) (fuel + 1) listed a w :=
  takeM (fun _ _ _ => rfl) (fun _ _ _ h1 h2 b hb => (h2 b hb).trans (h1 b hb)) i (op_at hi) hs hf hr hQ hw fun K hK => quiet_val hc (h K hK)
theorem skipK (i : Nat) {oi : Oper} {fuel : Nat} {listed : Array Bool} {a : Act} {w : World} (hi : (ops.toList.drop i).head? = some oi)
    (hs : Region.noSelect ops = true) (hf : Region.free md ops listed i = true) (hr : (Region.ready md ops listed).contains i = true)
    (hQ : ∀ v c a w, Q (.panic c) (a.put oi.dst v) w → Q (.panic c) a w) (hw : Region.wanted oi (yielded ops a.tmps) = false)
    (h : wpAnyM P md ops Q (KeepB B) fuel (listed.setIfInBounds i true) (a.put oi.dst undef) w) : wpAnyM P md ops Q (KeepB B) (fuel + 1) listed a w :=
  skipM (fun _ _ _ => rfl) (fun _ _ _ h1 h2 b hb => (h2 b hb).trans (h1 b hb)) i (op_at hi) hs hf hr hQ hw h
theorem wp_store_row {P : Program} {w : World} {o : Oper} {a : Act} {K : Act → World → Prop} {Q : Exit → Act → World → Prop} (ty : TypeId) (p x : Operand) (ho : o.op = .store ty p x)
    (g : Nat) (hp : a.eval p = .pointer (some ⟨g, 0, none⟩)) (old cs : List Value) (t : TypeId) (hx : a.eval x = .agg cs.toArray) (hg : w.heap[g]? = some (.cells old.toArray t (0, 0)))
    (hi : (P.info? ty).map (·.size) = some cs.length) (hl : cs.length = old.length) (h1 : ∀ u ∈ cs, u.oneCell' = true)
    (h : K (a.put o.dst undef) (w.setRow g cs.toArray)) : o.wp P a w K Q := by
  obtain ⟨i, hi', hs⟩ := Option.map_eq_some_iff.1 hi
  unfold Oper.wp execOp
  simp only [ho, hp, hx, Instr.storeAt, Instr.sureAddr, storeVar, sizeOf, typeInfo, Sem.run_bind, run_program, Result.andThen_ok, hi', Sem.run_pure, hs, Value.cells, List.size_toArray, ne_eq, not_true, if_false,
    run_store_row w g t old cs hg hl h1]
  exact h
end
/-! ### At any worlds -/
def Any (_ _ : World) : Prop := True
section
variable {P : Program} {md : Region.Mode} {ops : Array Oper} {Q : Exit → Act → World → Prop}
theorem takeA (i : Nat) {oi : Oper} {fuel : Nat} {listed : Array Bool} {a : Act} {w : World} (hi : (ops.toList.drop i).head? = some oi)
    (hs : Region.noSelect ops = true) (hf : Region.free md ops listed i = true) (hr : (Region.ready md ops listed).contains i = true) (hc : valB oi.op = true)
    (hQ : ∀ v c a w, Q (.panic c) (a.put oi.dst v) w → Q (.panic c) a w) (hw : Region.wanted oi (yielded ops a.tmps) = true)
    (h : ∀ K : Act → Prop, (∀ a', wpAnyM P md ops Q Any fuel (listed.setIfInBounds i true) a' w → K a') → oi.quiet P a (Any w) K) : wpAnyM P md ops Q Any (fuel + 1) listed a w :=
  takeM (fun _ => trivial) (fun _ _ _ _ _ => trivial) i (op_at hi) hs hf hr hQ hw fun K hK => quiet_val hc (h K hK)
theorem skipA (i : Nat) {oi : Oper} {fuel : Nat} {listed : Array Bool} {a : Act} {w : World} (hi : (ops.toList.drop i).head? = some oi)
    (hs : Region.noSelect ops = true) (hf : Region.free md ops listed i = true) (hr : (Region.ready md ops listed).contains i = true)
    (hQ : ∀ v c a w, Q (.panic c) (a.put oi.dst v) w → Q (.panic c) a w) (hw : Region.wanted oi (yielded ops a.tmps) = false)
    (h : wpAnyM P md ops Q Any fuel (listed.setIfInBounds i true) (a.put oi.dst undef) w) : wpAnyM P md ops Q Any (fuel + 1) listed a w :=
  skipM (fun _ => trivial) (fun _ _ _ _ _ => trivial) i (op_at hi) hs hf hr hQ hw h
end
end
section
open Go.RowKit

theorem count_lt {p q : Nat → Bool} {i : Nat} (hpi : p i = true) (hqi : q i = false) (hle : ∀ j, q j = true → p j = true) : ∀ {l : List Nat}, i ∈ l → (l.filter q).length < (l.filter p).length
  | [], h => by cases h
  | a :: l, h => by
    have mono : ∀ l : List Nat, (l.filter q).length ≤ (l.filter p).length := by
      intro l
      induction l with
      | nil => simp
      | cons b l ih =>
        by_cases hb : q b = true
        · simp [List.filter_cons, hb, hle b hb, ih]
        · have hb' : q b = false := by simpa using hb
          by_cases hp : p b = true
          · simp [List.filter_cons, hb', hp]; omega
          · simp [List.filter_cons, hb', hp, ih]
    rcases List.mem_cons.1 h with rfl | h'
    · have := mono l
      simp [List.filter_cons, hpi, hqi]; omega
    · have ih := count_lt hpi hqi hle h'
      by_cases hb : q a = true
      · simp [List.filter_cons, hb, hle a hb, ih]
      · have hb' : q a = false := by simpa using hb
        by_cases hp : p a = true
        · simp [List.filter_cons, hb', hp]; omega
        · simp [List.filter_cons, hb', hp, ih]
/-- A value more. -/
def upd (s : Nat → Value) (i : Nat) (v : Value) : Nat → Value := fun k => if k = i then v else s k
theorem upd_self (s : Nat → Value) (i : Nat) (v : Value) : upd s i v i = v := if_pos rfl
theorem upd_ne (s : Nat → Value) {i k : Nat} (v : Value) (h : k ≠ i) : upd s i v k = s k := if_neg h
/-- What is asked of the region's text. -/
def stabB (md : Region.Mode) (ops : Array Oper) (rem : List Nat) (D : Nat → List Nat) : Bool :=
  rem.all fun i => decide (i < ops.size) && (D i).contains i &&
    match ops[i]? with
    | none => false
    | some o => (D i).all (fun k => rem.contains k && (k == i || o.after.any fun e => Region.binds md e && rem.contains e.on && (D e.on).contains k)) && o.after.all fun e => !(Region.binds md e) || decide (e.on < i)
structure Stab (R : World → World → Prop) (P : Program) (md : Region.Mode) (ops : Array Oper) (Q : Exit → Act → World → Prop) (w0 : World) (rem : List Nat) (L : Nat) (mk : (Nat → Value) → Act) (D : Nat → List Nat) (Post : Nat → (Nat → Value) → World → Prop) : Prop where
  text : stabB md ops rem D = true
  put : ∀ i ∈ rem, ∀ o, ops[i]? = some o → ∀ s v, (mk s).put o.dst v = mk (upd s i v)
  st : ∀ i s w w', Post i s w → R w w' → Post i s w'
  loc : ∀ i ∈ rem, ∀ s s' w, (∀ k ∈ D i, s k = s' k) → Post i s w → Post i s' w
  op : ∀ i ∈ rem, i ≠ L → ∀ o, ops[i]? = some o → ∀ s w, R w0 w → (∀ k ∈ D i, k ≠ i → Post k s w) → ∀ K : Act → World → Prop, (∀ v w', R w w' → Post i (upd s i v) w' → K ((mk s).put o.dst v) w') →
    if Region.wanted o (yielded ops (mk s).tmps) = true then o.wp P (mk s) w K Q else K ((mk s).put o.dst undef) w
  last : L ∈ rem → (∀ k ∈ rem, k ∈ D L) ∧ ∀ o, ops[L]? = some o → ∀ s w, R w0 w → (∀ k ∈ rem, k ≠ L → Post k s w) → ∀ K : Act → World → Prop, (∀ a' w', Q .normal a' w' → K a' w') →
    if Region.wanted o (yielded ops (mk s).tmps) = true then o.wp P (mk s) w K Q else K ((mk s).put o.dst undef) w
  fin : L ∉ rem → ∀ s w, R w0 w → (∀ k ∈ rem, Post k s w) → Q .normal (mk s) w
section
variable {R : World → World → Prop} {P : Program} {md : Region.Mode} {ops : Array Oper} {Q : Exit → Act → World → Prop} {w0 : World} {rem : List Nat} {L : Nat} {mk : (Nat → Value) → Act} {D : Nat → List Nat} {Post : Nat → (Nat → Value) → World → Prop}
theorem stabB_spec (h : stabB md ops rem D = true) {i : Nat} (hi : i ∈ rem) : i < ops.size ∧ i ∈ D i ∧ ∀ o, ops[i]? = some o → (∀ k ∈ D i, k ∈ rem ∧ (k = i ∨ ∃ e ∈ o.after, Region.binds md e = true ∧ e.on ∈ rem ∧ k ∈ D e.on)) ∧ ∀ e ∈ o.after, Region.binds md e = true → e.on < i := by
  have h1 := (List.all_eq_true.1 h) i hi
  simp only [Bool.and_eq_true, decide_eq_true_eq] at h1
  obtain ⟨⟨h2, h3⟩, h4⟩ := h1
  refine ⟨h2, by simpa using h3, fun o ho => ?_⟩
  rw [ho] at h4
  simp only [Bool.and_eq_true] at h4
  obtain ⟨h5, h6⟩ := h4
  refine ⟨fun k hk => ?_, fun e he hb => ?_⟩
  · have h7 := (List.all_eq_true.1 h5) k hk
    simp only [Bool.and_eq_true, Bool.or_eq_true] at h7
    obtain ⟨h8, h9⟩ := h7
    refine ⟨by simpa using h8, ?_⟩
    rcases h9 with h9 | h9
    · exact .inl (by simpa using h9)
    · obtain ⟨j, hj, h10⟩ := Array.any_eq_true.1 h9
      simp only [Bool.and_eq_true] at h10
      exact .inr ⟨_, Array.getElem_mem _, h10.1.1, by simpa using h10.1.2, by simpa using h10.2⟩
  · obtain ⟨j, hj, rfl⟩ := Array.getElem_of_mem he
    have h7 := (Array.all_eq_true.1 h6) j hj
    rw [hb] at h7
    simpa using h7
theorem stab_all {fuel : Nat} {listed : Array Bool} {a : Act} {w : World} (h : ∀ i, i < ops.size → listed.getD i true = true) (hq : Q .normal a w) : wpAny P md ops Q fuel listed a w := by
  have hr : Region.ready md ops listed = [] := by
    refine List.eq_nil_iff_forall_not_mem.2 fun j hj => ?_
    obtain ⟨h1, o, h2, _⟩ := Go.mem_ready.1 hj
    have := h j (Array.getElem?_eq_some_iff.1 h2).1
    rw [h1] at this; cases this
  cases fuel with
  | zero => exact ⟨hr, hq⟩
  | succ n => exact ⟨fun _ => hq, by rw [hr]; simp⟩
theorem set_listed {listed : Array Bool} {i j : Nat} (h : listed.getD j true = true) : (listed.setIfInBounds i true).getD j true = true := by
  by_cases e : i = j
  · subst e
    rcases Nat.lt_or_ge i listed.size with h' | h'
    · simp [h']
    · simp [h']
  · rw [getD_set_ne true e]; exact h
theorem set_listed_self {listed : Array Bool} {i : Nat} : (listed.setIfInBounds i true).getD i true = true := by
  rcases Nat.lt_or_ge i listed.size with h' | h'
  · simp [h']
  · simp [h']
theorem getD_both {listed : Array Bool} {j : Nat} (h : listed.getD j false = true) : listed.getD j true = true := by
  rcases Nat.lt_or_ge j listed.size with h' | h'
  · simp [h'] at h ⊢; exact h
  · simp [h'] at h
theorem getD_both' {listed : Array Bool} {j : Nat} (hj : j < listed.size) (h : listed.getD j true = true) : listed.getD j false = true := by
  simp [hj] at h ⊢; exact h
theorem Stab.run (htr : ∀ a b c, R a b → R b c → R a c) (h : Stab R P md ops Q w0 rem L mk D Post) : ∀ (fuel : Nat) (listed : Array Bool) (s : Nat → Value) (w : World), R w0 w → listed.size = ops.size → (∀ i, i < ops.size → listed.getD i true = false → i ∈ rem) →
    (∀ i ∈ rem, listed.getD i true = true → i ≠ L ∧ Post i s w ∧ ∀ k ∈ D i, listed.getD k true = true) → (rem.filter (fun i => !(listed.getD i true))).length ≤ fuel → wpAny P md ops Q fuel listed (mk s) w := by
  intro fuel
  induction fuel with
  | zero =>
    intro listed s w hx hsz hrem hinv hct
    have hall : ∀ i ∈ rem, listed.getD i true = true := by
      intro i hi
      have := List.eq_nil_of_length_eq_zero (Nat.le_zero.1 hct)
      have := (List.filter_eq_nil_iff.1 this) i hi
      simpa using this
    refine stab_all (fun i hi => ?_) (h.fin (fun hL => (hinv L hL (hall L hL)).1 rfl) s w hx fun k hk => (hinv k hk (hall k hk)).2.1)
    cases hb : listed.getD i true with
    | true => rfl
    | false => rw [← hb]; exact hall i (hrem i hi hb)
  | succ fuel ih =>
    intro listed s w hx hsz hrem hinv hct
    refine ⟨fun hr => ?_, fun i hi => ?_⟩
    · have hno : ∀ n i, i < n → i < ops.size → listed.getD i true = true := by
        intro n
        induction n with
        | zero => intro i hi; omega
        | succ n ihn =>
          intro i hi hio
          cases hb : listed.getD i true with
          | true => rfl
          | false =>
            exfalso
            have him := hrem i hio hb
            obtain ⟨_, _, h3⟩ := stabB_spec h.text him
            obtain ⟨o, ho⟩ : ∃ o, ops[i]? = some o := ⟨_, Array.getElem?_eq_getElem hio⟩
            have hin : i ∈ Region.ready md ops listed := Go.mem_ready.2 ⟨hb, o, ho, fun e he hbd => getD_both' (by have := (h3 o ho).2 e he hbd; omega) (ihn _ (by have := (h3 o ho).2 e he hbd; omega) (by have := (h3 o ho).2 e he hbd; omega))⟩
            rw [hr] at hin; cases hin
      have hall : ∀ i ∈ rem, listed.getD i true = true := fun i hi => hno (i + 1) i (Nat.lt_succ_self i) (stabB_spec h.text hi).1
      exact h.fin (fun hL => (hinv L hL (hall L hL)).1 rfl) s w hx fun k hk => (hinv k hk (hall k hk)).2.1
    · obtain ⟨hun, o, ho, hall⟩ := Go.mem_ready.1 hi
      have hio : i < ops.size := (Array.getElem?_eq_some_iff.1 ho).1
      have him := hrem i hio hun
      obtain ⟨_, hself, h3⟩ := stabB_spec h.text him
      have hdep : ∀ k ∈ D i, k ≠ i → k ∈ rem ∧ listed.getD k true = true := by
        intro k hk hne
        obtain ⟨hkr, hk2⟩ := (h3 o ho).1 k hk
        rcases hk2 with rfl | ⟨e, he, hb, her, hke⟩
        · exact absurd rfl hne
        · exact ⟨hkr, (hinv e.on her (getD_both (hall e he hb))).2.2 k hke⟩
      refine wpOp_step ho fun K' hK => ?_
      by_cases hL : i = L
      · subst hL
        obtain ⟨hcov, hlast⟩ := h.last him
        refine hlast o ho s w hx (fun k hk hne => (hinv k hk (hdep k (hcov k hk) hne).2).2.1) K' fun a' w' hq => hK _ _ (stab_all (fun j hj => ?_) hq)
        by_cases e : i = j
        · subst e; exact set_listed_self
        · rw [getD_set_ne true e]
          cases hb : listed.getD j true with
          | true => rfl
          | false => rw [← hb]; exact (hdep j (hcov j (hrem j hj hb)) (Ne.symm e)).2
      · refine h.op i him hL o ho s w hx (fun k hk hne => (hinv k (hdep k hk hne).1 (hdep k hk hne).2).2.1) K' fun v w' hx' hp => hK _ _ ?_
        rw [h.put i him o ho s v]
        refine ih _ _ w' (htr _ _ _ hx hx') (by simpa using hsz) (fun j hj hb => ?_) (fun j hj hb => ?_) ?_
        · refine hrem j hj ?_
          cases hb2 : listed.getD j true with
          | false => rfl
          | true => rw [set_listed hb2] at hb; cases hb
        · by_cases e : i = j
          · subst e
            refine ⟨hL, hp, fun k hk => ?_⟩
            by_cases e2 : k = i
            · subst e2; exact set_listed_self
            · exact set_listed (hdep k hk e2).2
          · rw [getD_set_ne true e] at hb
            obtain ⟨g1, g2, g3⟩ := hinv j hj hb
            refine ⟨g1, h.loc j hj s _ w' (fun k hk => ?_) (h.st j s w w' g2 hx'), fun k hk => set_listed (g3 k hk)⟩
            rw [upd_ne]
            rintro rfl
            have := g3 k hk
            rw [hun] at this; cases this
        · have := count_lt (p := fun i => !(listed.getD i true)) (q := fun j => !((listed.setIfInBounds i true).getD j true)) (i := i) (by simp only [hun, Bool.not_false]) (by simp only [set_listed_self, Bool.not_true])
            (fun j hj => by
              cases hb2 : listed.getD j true with
              | false => rfl
              | true => simp only [set_listed hb2, Bool.not_true] at hj; cases hj) him
          omega
/-- From the start of the walk: what the quiet walk has taken is listed already. -/
theorem Stab.start {id : Nat} {a : Act} {w : World} (hrf : ∀ a, R a a) (htr : ∀ a b c, R a b → R b c → R a c) (s : Nat → Value) (hm : P.follows .mixedOrders = true) (h : Stab R P .any ops Q w.drew rem L mk D Post) (hs : a = mk s) (hrem : ∀ i, i < ops.size → i ∈ rem) (hct : rem.length ≤ ops.size) : (Code.region id ops true).wp P Q a w := by
  subst hs
  refine wp_region_any hm (h.run htr ops.size _ s w.drew (hrf _) (by simp) (fun i hi _ => hrem i hi) (fun i hi hb => ?_) ?_)
  · have := (stabB_spec h.text hi).1
    simp [this] at hb
  · exact Nat.le_trans (List.length_filter_le _ _) hct
theorem ext_refl (a : World) : Ext a a := Ext.refl a
theorem ext_trans (a b c : World) (h : Ext a b) (k : Ext b c) : Ext a c := h.trans k
/-- Later: what was there ahead of 'b0' stands; what came since stands, but where there was nothing. -/
structure Grew (b0 : Nat) (w w' : World) : Prop where
  os : w'.os = w.os
  tape : w'.tape = w.tape
  output : w'.output = w.output
  size : w.heap.size ≤ w'.heap.size
  block : ∀ b, b < w.heap.size → w'.heap[b]? = w.heap[b]? ∨ (b0 ≤ b ∧ ∃ t fr, w.heap[b]? = some (.cells #[] t fr))
theorem Grew.refl (b0 : Nat) (w : World) : Grew b0 w w := ⟨rfl, rfl, rfl, Nat.le_refl _, fun _ _ => .inl rfl⟩
theorem Grew.trans {b0 : Nat} {a b c : World} (h : Grew b0 a b) (k : Grew b0 b c) : Grew b0 a c :=
  ⟨k.os.trans h.os, k.tape.trans h.tape, k.output.trans h.output, Nat.le_trans h.size k.size, fun x hx => by
    rcases h.block x hx with h1 | h1
    · rcases k.block x (Nat.lt_of_lt_of_le hx h.size) with k1 | k1
      · exact .inl (k1.trans h1)
      · rw [h1] at k1; exact .inr k1
    · exact .inr h1⟩
theorem Grew.tr (b0 : Nat) (a b c : World) (h : Grew b0 a b) (k : Grew b0 b c) : Grew b0 a c := h.trans k
theorem Grew.of_ext {b0 : Nat} {w w' : World} (h : Ext w w') : Grew b0 w w' := ⟨h.os, h.tape, h.output, h.size, fun b hb => .inl (h.block b hb (by simp))⟩
theorem Grew.of_one {b0 g : Nat} {w w' : World} (h : w.grownBy w' (some g)) (hg : b0 ≤ g) {t : TypeId} {fr : Nat × Nat} (he : w.heap[g]? = some (.cells #[] t fr)) : Grew b0 w w' :=
  ⟨h.os, h.tape, h.output, h.size, fun b hb => by
    by_cases e : b = g
    · subst e; exact .inr ⟨hg, t, fr, he⟩
    · exact .inl (h.block b hb (by simpa using e))⟩
/-- .. as seen from ahead. -/
theorem Grew.ext {b0 : Nat} {a w w' : World} (h : Ext a w) (hb : a.heap.size ≤ b0) (k : Grew b0 w w') : Ext a w' :=
  ⟨k.os.trans h.os, k.tape.trans h.tape, k.output.trans h.output, Nat.le_trans h.size k.size, fun b hb2 hn => by
    rcases k.block b (Nat.lt_of_lt_of_le hb2 h.size) with h1 | h1
    · exact h1.trans (h.block b hb2 hn)
    · exact absurd h1.1 (by omega)⟩
theorem Grew.blk {b0 g : Nat} {w w' : World} {t : TypeId} {cs : List Value} (h : Blk w g t cs) (hn : cs ≠ []) (k : Grew b0 w w') : Blk w' g t cs := by
  have hg : g < w.heap.size := h.lt
  rcases k.block g hg with h1 | ⟨_, t', fr, h1⟩
  · exact h1.trans h
  · rw [show w.heap[g]? = _ from h] at h1
    simp at h1
    exact absurd h1.1 hn
theorem wanted_plain {o : Oper} {y : Nat → Option Bool} (h : o.guard = none) : Region.wanted o y = true := by simp [Region.wanted, h]
end
/-! ### The frame with the values in their slots -/
def mkOf (a : Act) : List (Option Nat) → Nat → (Nat → Value) → Act
  | [], _, _ => a
  | d :: ds, i, s => mkOf (a.put d (s i)) ds (i + 1) s
theorem mkOf_congr (s s' : Nat → Value) : ∀ (ds : List (Option Nat)) (i : Nat) (a : Act), (∀ j d, ds[j]? = some (some d) → s (i + j) = s' (i + j)) → mkOf a ds i s = mkOf a ds i s'
  | [], _, _, _ => rfl
  | d :: ds, i, a, h => by
    have e : a.put d (s i) = a.put d (s' i) := by
      cases d with
      | none => rfl
      | some x => rw [show s i = s' i from h 0 x rfl]
    unfold mkOf
    rw [e]
    exact mkOf_congr s s' ds (i + 1) _ fun j d hj => by have := h (j + 1) d hj; rwa [show i + (j + 1) = i + 1 + j by omega] at this
theorem put_comm {a : Act} {d e : Option Nat} {u v : Value} (h : ∀ x, d = some x → e ≠ some x) : (a.put d u).put e v = (a.put e v).put d u := by
  cases d with
  | none => rfl
  | some x =>
    cases e with
    | none => rfl
    | some y =>
      have hne : x ≠ y := fun e => h x rfl (by rw [e])
      simp only [Act.put]
      congr 1
      exact Array.setIfInBounds_comm _ _ hne
theorem put_same {a : Act} {d : Option Nat} {u v : Value} : (a.put d u).put d v = a.put d v := by
  cases d with
  | none => rfl
  | some x =>
    simp only [Act.put]
    congr 1
    apply Array.ext_getElem?
    intro k
    simp only [Array.getElem?_setIfInBounds, Array.size_setIfInBounds]
    by_cases hk : x = k <;> simp [hk]
theorem mkOf_comm (s : Nat → Value) (d : Nat) (v : Value) : ∀ (ds : List (Option Nat)) (i : Nat) (a : Act), some d ∉ ds → (mkOf a ds i s).put (some d) v = mkOf (a.put (some d) v) ds i s
  | [], _, _, _ => rfl
  | e :: ds, i, a, h => by
    unfold mkOf
    rw [mkOf_comm s d v ds (i + 1) _ (fun hm => h (List.mem_cons_of_mem _ hm)), put_comm]
    rintro x rfl he
    exact h (by rw [he]; simp)
def noTwice : List (Option Nat) → Bool
  | [] => true
  | none :: ds => noTwice ds
  | some d :: ds => !(ds.contains (some d)) && noTwice ds
theorem mkOf_put (s : Nat → Value) (v : Value) : ∀ (ds : List (Option Nat)) (i j : Nat) (a : Act) (d : Option Nat), noTwice ds = true → ds[j]? = some d → (mkOf a ds i s).put d v = mkOf a ds i (upd s (i + j) v)
  | [], _, _, _, _, _, h => by simp at h
  | e :: ds, i, 0, a, d, hn, h => by
    obtain rfl : e = d := by simpa using h
    cases e with
    | none =>
      refine (mkOf_congr _ _ _ _ _ fun j d hj => ?_)
      rw [upd_ne]
      rintro hij
      obtain rfl : j = 0 := by omega
      simp at hj
    | some x =>
      simp only [noTwice, Bool.and_eq_true] at hn
      unfold mkOf
      rw [mkOf_comm s x v ds (i + 1) _ (by simpa using hn.1), put_same, show i + 0 = i from rfl, upd_self]
      exact mkOf_congr _ _ _ _ _ fun j d _ => by rw [upd_ne]; omega
  | e :: ds, i, j + 1, a, d, hn, h => by
    have hn2 : noTwice ds = true := by
      cases e with
      | none => exact hn
      | some x => simp only [noTwice, Bool.and_eq_true] at hn; exact hn.2
    unfold mkOf
    rw [mkOf_put s v ds (i + 1) j _ d hn2 (by simpa using h), show i + 1 + j = i + (j + 1) by omega, upd_ne _ _ (by omega)]
/-- The frame as it is. -/
def nowOf (a : Act) (ds : List (Option Nat)) (i : Nat) : Value := match ds[i]? with
  | some (some d) => a.tmps.getD d undef
  | _ => undef
theorem put_now (a : Act) (d : Nat) : a.put (some d) (a.tmps.getD d undef) = a := by
  have h : a.tmps.setIfInBounds d (a.tmps.getD d undef) = a.tmps := by
    apply Array.ext_getElem?
    intro k
    simp only [Array.getElem?_setIfInBounds]
    by_cases hk : d = k
    · subst hk
      by_cases hd : d < a.tmps.size <;> simp [hd]
    · simp [hk]
  simp only [Act.put, h]
theorem mkOf_now : ∀ (ds : List (Option Nat)) (i : Nat) (a : Act) (s : Nat → Value), (∀ j d, ds[j]? = some (some d) → s (i + j) = a.tmps.getD d undef) → mkOf a ds i s = a
  | [], _, _, _, _ => rfl
  | d :: ds, i, a, s, h => by
    have e : a.put d (s i) = a := by
      cases d with
      | none => rfl
      | some x => rw [show s i = _ from h 0 x rfl, put_now]
    unfold mkOf
    rw [e]
    exact mkOf_now ds (i + 1) a s fun j d hj => by have := h (j + 1) d hj; rwa [show i + (j + 1) = i + 1 + j by omega] at this
theorem mkOf_start (a : Act) (ds : List (Option Nat)) : a = mkOf a ds 0 (nowOf a ds) := (mkOf_now ds 0 a _ fun j d hj => by simp [nowOf, hj]).symm
/-- What is asked of one operation. -/
def StabOp (R : World → World → Prop) (P : Program) (ops : Array Oper) (Q : Exit → Act → World → Prop) (w0 : World) (mk : (Nat → Value) → Act) (Pi : Nat → Value → World → Prop) (D : List Nat) (i : Nat) (o : Oper) : Prop :=
  ∀ s w, R w0 w → (∀ k ∈ D, k ≠ i → Pi k (s k) w) → ∀ K : Act → World → Prop, (∀ v w', R w w' → Pi i v w' → K ((mk s).put o.dst v) w') →
    if Region.wanted o (yielded ops (mk s).tmps) = true then o.wp P (mk s) w K Q else K ((mk s).put o.dst undef) w
def StabLast (R : World → World → Prop) (P : Program) (ops : Array Oper) (Q : Exit → Act → World → Prop) (w0 : World) (mk : (Nat → Value) → Act) (Pi : Nat → Value → World → Prop) (L : Nat) (o : Oper) : Prop :=
  ∀ s w, R w0 w → (∀ k, k < L → Pi k (s k) w) → ∀ K : Act → World → Prop, (∀ a' w', Q .normal a' w' → K a' w') →
    if Region.wanted o (yielded ops (mk s).tmps) = true then o.wp P (mk s) w K Q else K ((mk s).put o.dst undef) w
section
variable {P : Program} {Q : Exit → Act → World → Prop}
theorem op_of {l : List Oper} {i : Nat} {o : Oper} (h : l.toArray[i]? = some o) : (l.drop i).head? = some o := by rw [List.head?_drop]; simpa using h
/-- THE WALK, the last operation a store: 'ops' the obligations, one for each but the last. -/
theorem stab_store {id : Nat} {l : List Oper} {a : Act} {w : World} (R : World → World → Prop) (hrf : ∀ a, R a a) (htr : ∀ a b c, R a b → R b c → R a c) (Ds : List (List Nat)) (Pi : Nat → Value → World → Prop) (hm : P.follows .mixedOrders = true)
    (ht : stabB .any l.toArray (List.range l.length) (fun i => Ds.getD i []) = true) (hn : noTwice (l.map (·.dst)) = true) (hc : (List.range l.length).all (fun k => (Ds.getD (l.length - 1) []).contains k) = true) (hl0 : l ≠ [])
    (hst : ∀ i v w w', Pi i v w → R w w' → Pi i v w')
    (hop : ∀ i, i < l.length - 1 → ∀ o, (l.drop i).head? = some o → StabOp R P l.toArray Q w.drew (mkOf a (l.map (·.dst)) 0) Pi (Ds.getD i []) i o)
    (hlast : ∀ o, (l.drop (l.length - 1)).head? = some o → StabLast R P l.toArray Q w.drew (mkOf a (l.map (·.dst)) 0) Pi (l.length - 1) o) : (Code.region id l.toArray true).wp P Q a w := by
  have hpos : 0 < l.length := List.length_pos_iff.2 hl0
  refine Stab.start (R := R) hrf htr (rem := List.range l.length) (L := l.length - 1) (mk := mkOf a (l.map (·.dst)) 0) (D := fun i => Ds.getD i []) (Post := fun i s w => Pi i (s i) w) (nowOf a (l.map (·.dst))) hm
    ⟨ht, fun i hi o ho s v => ?_, fun i s w w' => hst i (s i) w w', fun i hi s s' w hk h => ?_, fun i hi hL o ho s w hx hd K hK => ?_, fun _ => ⟨fun k hk => ?_, fun o ho s w hx hd K hK => ?_⟩, fun hL => ?_⟩ (mkOf_start a _) (fun i hi => by simpa using hi) (by simp)
  · have := mkOf_put s v (l.map (·.dst)) 0 i a o.dst hn (by rw [List.getElem?_map, show l[i]? = some o by simpa using ho]; rfl)
    rw [Nat.zero_add] at this
    exact this
  · rw [← hk i (stabB_spec ht hi).2.1]; exact h
  · refine hop i (by have := List.mem_range.1 hi; omega) o (op_of ho) s w hx hd K fun v w' h1 h2 => hK v w' h1 (by rw [upd_self]; exact h2)
  · have := (List.all_eq_true.1 hc) k hk
    simpa using this
  · exact hlast o (op_of ho) s w hx (fun k hk => hd k (List.mem_range.2 (by omega)) (by omega)) K hK
  · exact absurd (List.mem_range.2 (by omega)) hL
/-- THE WALK, no store. -/
theorem stab_plain {id : Nat} {l : List Oper} {a : Act} {w : World} (R : World → World → Prop) (hrf : ∀ a, R a a) (htr : ∀ a b c, R a b → R b c → R a c) (Ds : List (List Nat)) (Pi : Nat → Value → World → Prop) (hm : P.follows .mixedOrders = true)
    (ht : stabB .any l.toArray (List.range l.length) (fun i => Ds.getD i []) = true) (hn : noTwice (l.map (·.dst)) = true)
    (hst : ∀ i v w w', Pi i v w → R w w' → Pi i v w')
    (hop : ∀ i, i < l.length → ∀ o, (l.drop i).head? = some o → StabOp R P l.toArray Q w.drew (mkOf a (l.map (·.dst)) 0) Pi (Ds.getD i []) i o)
    (hfin : ∀ s w1, R w.drew w1 → (∀ k, k < l.length → Pi k (s k) w1) → Q .normal (mkOf a (l.map (·.dst)) 0 s) w1) : (Code.region id l.toArray true).wp P Q a w := by
  refine Stab.start (R := R) hrf htr (rem := List.range l.length) (L := l.length) (mk := mkOf a (l.map (·.dst)) 0) (D := fun i => Ds.getD i []) (Post := fun i s w => Pi i (s i) w) (nowOf a (l.map (·.dst))) hm
    ⟨ht, fun i hi o ho s v => ?_, fun i s w w' => hst i (s i) w w', fun i hi s s' w hk h => ?_, fun i hi hL o ho s w hx hd K hK => ?_, fun hL => absurd hL (by simp), fun hL s w hx hd => ?_⟩ (mkOf_start a _) (fun i hi => by simpa using hi) (by simp)
  · have := mkOf_put s v (l.map (·.dst)) 0 i a o.dst hn (by rw [List.getElem?_map, show l[i]? = some o by simpa using ho]; rfl)
    rw [Nat.zero_add] at this
    exact this
  · rw [← hk i (stabB_spec ht hi).2.1]; exact h
  · refine hop i (List.mem_range.1 hi) o (op_of ho) s w hx hd K fun v w' h1 h2 => hK v w' h1 (by rw [upd_self]; exact h2)
  · exact hfin s w hx fun k hk => hd k (List.mem_range.2 hk)
end
end
section
open Go.RowKit

section
variable {P : Program} {md : Region.Mode} {ops : Array Oper} {Q : Exit → Act → World → Prop} {R : World → World → Prop}
/-- Two may come up. -/
theorem bothM (i k : Nat) {oi ok : Oper} {fuel : Nat} {listed : Array Bool} {a : Act} {w : World} (hi : (ops.toList.drop i).head? = some oi) (hk : (ops.toList.drop k).head? = some ok)
    (hr : Region.ready md ops listed = [i, k]) (hw : Region.wanted oi (yielded ops a.tmps) = true) (hw2 : Region.wanted ok (yielded ops a.tmps) = true)
    (h1 : ∀ K : Act → World → Prop, (∀ a' w', R w w' → wpAnyM P md ops Q R fuel (listed.setIfInBounds i true) a' w' → K a' w') → oi.wp P a w K Q)
    (h2 : ∀ K : Act → World → Prop, (∀ a' w', R w w' → wpAnyM P md ops Q R fuel (listed.setIfInBounds k true) a' w' → K a' w') → ok.wp P a w K Q) : wpAnyM P md ops Q R (fuel + 1) listed a w := by
  refine ⟨fun h0 => (by rw [hr] at h0; cases h0), fun j hj => ?_⟩
  rw [hr] at hj
  rcases List.mem_cons.1 hj with rfl | hj
  · refine wpOp_step (op_at hi) (fun K' hK => ?_)
    rw [if_pos hw]
    exact h1 K' (fun a' w' h1 h2 => hK _ _ ⟨h1, h2⟩)
  · obtain rfl : j = k := by simpa using hj
    refine wpOp_step (op_at hk) (fun K' hK => ?_)
    rw [if_pos hw2]
    exact h2 K' (fun a' w' h1 h2 => hK _ _ ⟨h1, h2⟩)
theorem relist {fuel : Nat} {L L' : Array Bool} {a : Act} {w : World} (h : L = L') (hw : wpAnyM P md ops Q R fuel L' a w) : wpAnyM P md ops Q R fuel L a w := h ▸ hw
theorem wp_alloc_agg {w : World} {o : Oper} {a : Act} {K : Act → World → Prop} (ty : TypeId) (ho : o.op = .alloc ty) (z : List Value)
    (hz : (P.info? ty).bind (fun i => i.zero.map (·.cells)) = some z.toArray)
    (h : K (a.put o.dst (.pointer (some ⟨w.heap.size, 0, none⟩))) (w.alloc (.cells z.toArray ty))) : o.wp P a w K Q := by
  obtain ⟨i, hi, hzz⟩ := Option.bind_eq_some_iff.1 hz
  obtain ⟨zv, hzv, hzc⟩ := Option.map_eq_some_iff.1 hzz
  unfold Oper.wp execOp
  simp only [ho, Instr.alloc, zeroValue, typeInfo, Sem.run_bind, run_program, Result.andThen_ok, hi, Sem.run_pure, hzv, newVar, newRow, hzc, run_newObj, World.alloc_eq]
  exact h
end
/-- One end for several ways. -/
theorem shared2 {Q : Prop} {A : Nat → Value → World → Prop} (J : Nat → Value → World → Prop) (h1 : (∀ g u w, J g u w → A g u w) → Q) (h2 : ∀ g u w, J g u w → A g u w) : Q := h1 h2
theorem shared3 {Q : Prop} {A : Nat → Value → Value → World → Prop} (J : Nat → Value → Value → World → Prop) (h1 : (∀ g u v w, J g u v w → A g u v w) → Q) (h2 : ∀ g u v w, J g u v w → A g u v w) : Q := h1 h2
theorem shared4 {Q : Prop} {A : Nat → Value → Value → Value → World → Prop} (J : Nat → Value → Value → Value → World → Prop) (h1 : (∀ g u v x w, J g u v x w → A g u v x w) → Q) (h2 : ∀ g u v x w, J g u v x w → A g u v x w) : Q := h1 h2
end
end Go.Proofs.Ytpdkmapogncgmaa

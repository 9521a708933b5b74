/- The walks of octet's num and Four from nothing: nothing that was there changes. Conditions: the numbers are in their bounds. -/
import Derived.Test.YtfoomnibfibfnaaOut
set_option linter.unusedVariables false
set_option linter.unusedSimpArgs false
set_option linter.unnecessarySimpa false
namespace Go.Proofs.Ytfoomnibfibfnaa
open Go.RowKit

section
variable {P : Program}
/-- .. appended to an empty slice: a new array. -/
theorem wpList_app1_empty {w : World} {ops : Array Oper} {rest : List Oper} {o : Oper} {a : Act} {Q : Exit → Act → World → Prop} (hgd : o.guard = none) (s x : Operand) (t t' : TypeId)
    (ho : o.op = .call { callee := .builtin .append, args := #[s, x], argTypes := #[t, t'] })
    (e e' e2 : TypeId) (i : TypeInfo) (z : Value) (size bytes : Nat) (ht : P.underlying t = some (.slice e)) (ht' : P.underlying t' = some (.slice e')) (hi : P.info? e = some i) (hz : i.zero = some z)
    (hsize : i.size = size) (hby : i.bytes = bytes) (hzs : z.cells.size = size) (hsz : 0 < size)
    (b : Addr) (cs : List Value) (hs : a.eval s = .slice (some b) 0 0) (hown : Own w e size (.slice (some b) 0 0) 0 [])
    (hx : a.eval x = .slice (some ⟨w.heap.size, 0, none⟩) 1 1) (hcs : cs.length = size) (h1 : ∀ u ∈ cs, u.oneCell' = true) (hbytes : bytes ≤ 1024)
    (h : ∀ v' w', Own w' e size v' 1 cs → Ext w w' → (∀ g, v'.ownBlock = some g → w.heap.size ≤ g) → wpList P ops Q rest (a.put o.dst v') w') : wpList P ops Q (o :: rest) a (w.alloc (.cells cs.toArray e2)) := by
  have hx0 : Ext w (w.alloc (.cells cs.toArray e2)) := (Ext.refl w).alloc _
  have hown' := hown.ext hx0
  have hc : Cells (w.alloc (.cells cs.toArray e2)) ⟨w.heap.size, 0, none⟩ cs := by have := Cells.of_block (heap_alloc_new w (.cells cs.toArray e2)); simpa using this
  have hbb : bytes * 1 ≤ 1024 := by omega
  obtain ⟨v', w', hr, h2, h3⟩ := run_app (P := P) (w.alloc (.cells cs.toArray e2)) t t' o.type e e' i z size bytes ht ht' hi hz hsize hby hzs hsz _ 0 [] hown' (some ⟨w.heap.size, 0, none⟩) 1 1 cs (by omega) (fun _ => ⟨_, rfl, hc⟩) h1 (by decide) (by omega)
  have hg := run_append_grow (P := P) (w := w.alloc (.cells cs.toArray e2)) t o.type e i z ht hi hz b 0 0 [] (by simp) (by intro j v hj; simp at hj) ⟨w.heap.size, 0, none⟩ 1 1 cs (by rw [hsize]; omega) (fun j v hj => hc j v hj) (by omega) (by omega)
    (by rw [hby, show Builtin.nextslicecap (0 + 1) 0 = 1 from by decide]; omega)
  rw [← append_types (w.alloc (.cells cs.toArray e2)) ht ht'] at hg
  rw [hr] at hg
  have hq := hg
  simp only [Result.ok.injEq] at hq
  obtain ⟨hv, hw⟩ := hq
  refine wpList_plain hgd fun K hK => ?_
  unfold Oper.wp execOp
  simp only [ho, resolve, invoke, builtin, Sem.run_bind, Sem.run_pure, Result.andThen_ok, List.map_toArray, List.map_cons, List.map_nil, hs, hx, hr]
  refine hK _ _ (h v' w' (by simpa using h2) ?_ ?_)
  · rw [hw]; exact (hx0.trans (Ext.refl _).drew).alloc _
  · intro g hgb
    rw [hv] at hgb
    simp [Value.ownBlock] at hgb
    omega
end
set_option maxRecDepth 100000 in
set_option maxHeartbeats 400000 in
theorem num0 (b : Addr) (n size : Nat) (w : World) (ho : OwnB w (.slice (some b) 0 0) []) (_hn : n < 18446744073709551616) (hs : size ≤ 8) (hs0 : 0 < size) :
    Calls Try.prog 55 #[.slice (some b) 0 0, .int .u64 n, .int .i64 size] w fun e w' => ∃ v', e = .returned v' ∧ OwnB w' v' (be size n) ∧ Ext w w' ∧ ∀ g, v'.ownBlock = some g → w.heap.size ≤ g := by
  obtain ⟨i0, hi, hz0, hz1, hz2⟩ := info_parts u8_info
  have HO := Lib.hid ho
  clear ho
  go_enter Try.func55, Try.ntmps55
  go_wp2
  go_loopw [0, 7] (fun vr i wr => ∃ j : Nat, j ≤ size ∧ i = .int .i64 ((j : Int) - 1) ∧ Ext w wr ∧ ((j = size ∧ vr = .slice (some b) 0 0) ∨ (j < size ∧ OwnB wr vr (beTop size j n) ∧ ∀ g, vr.ownBlock = some g → w.heap.size ≤ g))) (fun _ i _ => (intOf i + 1).toNat)
  case atStart => exact ⟨size, by omega, rfl, Ext.refl _, .inl ⟨rfl, rfl⟩⟩
  case round =>
    obtain ⟨j, hj, rfl, hxr, hst⟩ := hrel
    rcases hst with ⟨rfl, rfl⟩ | ⟨hjs, hor, hnr⟩
    · have hor := HO.out.ext hxr
      go_wp2_with (at_builtin; refine wpList_app1_empty rfl (.tmp 14) (.tmp 20) _ _ rfl _ _ 5 i0 _ 1 1 Try.underlying56 Try.underlying56 hi hz0 hz1 hz2 rfl (by decide) b [.int .u8 ((n : Int) / 2 ^ (8 * (j - 1)) % 256)] rfl hor rfl rfl (by simp [Value.oneCell']) (by decide) ?_; intro v' w1 ho1 hx1 hn1)
      go_roundw
      case rel =>
        refine ⟨j - 1, by omega, by rw [show ((j - 1 : Nat) : Int) = (j : Int) - 1 by omega], hxr.trans hx1, .inr ⟨by omega, ?_, fun g hg => Nat.le_trans hxr.size (hn1 g hg)⟩⟩
        rw [beTop_step j j n hs0 (Nat.le_refl j)]
        have e : beTop j j n = [] := by simp [beTop]
        rw [e]
        exact OwnB.snoc ho1 (be_byte n j)
      case measure => simp [intOf]; omega
    · have hl := beTop_length size j n
      by_cases hlt : 0 < j
      · go_wp2_with (at_builtin; refine wpList_app1 wr rfl (.tmp 14) (.tmp 20) _ _ rfl _ _ 5 i0 _ 1 1 Try.underlying56 Try.underlying56 hi hz0 hz1 hz2 rfl (by decide) _ _ _ [.int .u8 ((n : Int) / 2 ^ (8 * (j - 1)) % 256)] rfl hor rfl rfl (by simp [Value.oneCell']) (by unfold maxLen; omega) (by omega) ?_; intro v' w1 ho1 hm1)
        go_roundw
        case rel =>
          refine ⟨j - 1, by omega, by rw [show ((j - 1 : Nat) : Int) = (j : Int) - 1 by omega], grown_then hxr hm1.grown (.inr hnr), .inr ⟨by omega, ?_, fun g hg => ?_⟩⟩
          · rw [beTop_step size j n hlt hj]
            exact OwnB.snoc ho1 (be_byte n j)
          · rcases hm1.at_ with e | hn
            · exact hnr g (e.symm.trans hg)
            · exact Nat.le_trans hxr.size (hn g hg)
        case measure => simp [intOf]; omega
      · obtain rfl : j = 0 := by omega
        go_wp2
        go_ret
        exact ⟨_, rfl, by simpa [beTop, List.take_of_length_le, be_length] using hor, hxr, hnr⟩
set_option maxRecDepth 100000 in
set_option maxHeartbeats 400000 in
theorem four0 (b : Addr) (vl : Value) (n : Nat) (w : World) (F : Fp) (ho : OwnB w (.slice (some b) 0 0) []) (hl : (Ty.sl (.nat .u32)).holds w F [vl] [n]) (hF : ∀ b, F b → b < w.heap.size) :
    Calls Try.prog 43 #[.slice (some b) 0 0, vl] w fun e w' => ∃ v', e = .returned v' ∧ OwnB w' v' (be 4 n) ∧ Ext w w' ∧ ∀ g, v'.ownBlock = some g → w.heap.size ≤ g := by
  obtain ⟨A, c, xs, hv, hlc, hc, _, hcell, hall⟩ := hl
  cases hv
  unfold maxLen at hc
  obtain ⟨ad, rfl, hf, hcells⟩ := hcell (by simp)
  obtain ⟨hx, hwf⟩ := AllH.nat_at hall (show 0 < [n].length by simp)
  have hcx := hcells 0 _ hx
  have hbd := bounds_u32 hwf
  have hfl := hF _ hf
  have HO := Lib.hid ho
  clear hwf hx hall hcells hcell ho
  simp only [List.getElem_cons_zero] at hcx hbd
  replace hcx : w.cell? ad = some (.int .u32 (n : Int)) := hcx
  go_enter Try.func43, Try.ntmps43
  go_wp2
  go_loopw [0, 9] (fun vr i wr => Ext w wr ∧ ((i = .int .i64 0 ∧ vr = .slice (some b) 0 0) ∨ (i = .int .i64 1 ∧ OwnB wr vr (be 4 n) ∧ ∀ g, vr.ownBlock = some g → w.heap.size ≤ g))) (fun _ i _ => 1 - (intOf i).toNat)
  case atStart => exact ⟨Ext.refl _, .inl ⟨rfl, rfl⟩⟩
  case round =>
    obtain ⟨hxr, hst⟩ := hrel
    rcases hst with ⟨rfl, rfl⟩ | ⟨rfl, hor, hnr⟩
    · have hor := HO.out.ext hxr
      have hcr := World.grownBy.cell hxr hcx (by simp)
      go_wp2_with fail
      refine (num0 b n 4 _ hor (by omega) (by omega) (by omega)).mono ?_
      rintro e w1 ⟨v1, rfl, ho1, hx1, hn1⟩
      go_wp2
      go_roundw
      case rel => exact ⟨hxr.trans hx1, .inr ⟨rfl, ho1, fun g hg => Nat.le_trans hxr.size (hn1 g hg)⟩⟩
      case measure => simp [intOf]
    · go_wp2
      go_ret
      exact ⟨_, rfl, hor, hxr, hnr⟩
end Go.Proofs.Ytfoomnibfibfnaa

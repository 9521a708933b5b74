/- The walk of request's mix. Conditions: the numbers are bytes, the turns lie in their variable. -/
import Derived.Test.YtchnjcghbbacoaaDoorQFives
set_option linter.unusedVariables false
set_option linter.unusedSimpArgs false
set_option linter.unnecessarySimpa false
namespace Go.Proofs.YtchnjcghbbacoaaDoor
open Go.RowKit

def turnsC : List Value := turnsK.map fun n : Nat => .int .u32 (n : Int)
theorem turns_size : (Tryd.prog.info? 88).map (·.size) = some turnsC.length := by kernel_rfl
theorem turns_at (k : Nat) (h : k < 5) : turnsC[k]? = some (.int .u32 ((turnsK.getD k 0 : Nat) : Int)) ∧ turnsK.getD k 0 < 4294967296 := by
  match k, h with
  | 0, _ => exact ⟨rfl, by decide⟩
  | 1, _ => exact ⟨rfl, by decide⟩
  | 2, _ => exact ⟨rfl, by decide⟩
  | 3, _ => exact ⟨rfl, by decide⟩
  | 4, _ => exact ⟨rfl, by decide⟩
theorem run_and32 (P : Program) (t : TypeId) (n m : Nat) (hn : n < 4294967296) (hm : m < 4294967296) (w : World) : (binOp .and t (.int .u32 (n : Int)) (.int .u32 (m : Int))).run P w = .ok (.int .u32 ((n &&& m : Nat) : Int)) w := by
  have h := and32 n m hn hm
  show Result.ok (Value.int .u32 (bits .and .u32 (n : Int) (m : Int))) w = _
  rw [h]
theorem run_xor32 (P : Program) (t : TypeId) (n m : Nat) (hn : n < 4294967296) (hm : m < 4294967296) (w : World) : (binOp .xor t (.int .u32 (n : Int)) (.int .u32 (m : Int))).run P w = .ok (.int .u32 ((n ^^^ m : Nat) : Int)) w := by
  have h := xor32 n m hn hm
  show Result.ok (Value.int .u32 (bits .xor .u32 (n : Int) (m : Int))) w = _
  rw [h]
theorem mixM_step (l : List Nat) (k : Nat) (h : k < l.length) : mixM (l.take (k + 1)) = mixStep (mixM (l.take k)) l[k] := by
  rw [List.take_add_one, List.getElem?_eq_getElem h, Option.toList_some, mixM_snoc]
theorem mixM_take_lt (l : List Nat) (hl : ∀ x ∈ l, x < 256) (k : Nat) : mixM (l.take k) < 1073741824 :=
  mixM_lt _ (fun x hx => by have := hl x (List.mem_of_mem_take hx); omega)
set_option maxRecDepth 100000 in
set_option maxHeartbeats 2000000 in
theorem QMix (v : Value) (l : List Nat) (w : World) (F : Fp) (hp : (Ty.sl .u8).holds w F [v] (b8 l)) (hl : ∀ x ∈ l, x < 256) (hg : Cells w ⟨0, 0, none⟩ turnsC) :
    Calls Tryd.prog 28 #[v] w fun e w' => e = .returned (.int .u32 ((mixM l : Nat) : Int)) ∧ w = w' := by
  obtain ⟨A, c, xs, hv, hlc, hc, hA, hcell, hall⟩ := hp
  cases hv
  have hlen : (b8 l).length = l.length := by simp [b8]
  rw [hlen] at hlc
  rw [hlen]
  unfold maxLen at hc
  have hcl : ∀ k (h : k < l.length), ∃ ad, A = some ad ∧ w.cell? (ad.add k) = some (.int .u8 ((l[k] : Nat) : Int)) := fun k h => by
    obtain ⟨ad, rfl, _, hcells⟩ := hcell (by rintro e; rw [e] at hlen; simp at hlen; omega)
    refine ⟨ad, rfl, ?_⟩
    have := hcells k _ (AllH.u8_at hall (by rw [hlen]; exact h))
    rw [this]
    have hx := hl l[k] (List.getElem_mem h)
    simp [b8, UInt8.toNat_ofNat']
    omega
  clear hcell hall hA hlen
  have HCL := Lib.hid hcl
  have HLX := Lib.hid hl
  have HG := Lib.hid hg
  clear hcl hl hg
  go_enter Tryd.func28, Tryd.ntmps28
  go_wp2
  go_loopw [3, 11] (fun s i wr => ∃ k : Nat, k ≤ l.length ∧ i = .int .i64 k ∧ s = .int .u32 ((mixM (l.take k) : Nat) : Int) ∧ wr = w) (fun _ i _ => l.length - (intOf i).toNat)
  case atStart => exact ⟨0, by omega, rfl, rfl, rfl⟩
  case round =>
    obtain ⟨k, hk, rfl, rfl, rfl⟩ := hrel
    by_cases hlt : k < l.length
    · obtain ⟨ad, rfl, hcx⟩ := HCL.out k hlt
      have hst := mixM_step l k hlt
      have hs30 := mixM_take_lt l HLX.out k
      have hn := HLX.out l[k] (List.getElem_mem hlt)
      have HST := Lib.hid hst
      clear hst
      generalize mixM (l.take k) = s at hs30 HST ⊢
      generalize hnn : l[k] = n at hcx hn HST
      clear hnn
      have h1 := fun w => run_shrN Tryd.prog w 68 .u32 .u64 s 25 (by decide)
      have h2 := fun w => run_and32 Tryd.prog 68 s 33554431 (by omega) (by omega) w
      rw [show s &&& 33554431 = s % 33554432 from Nat.and_two_pow_sub_one_eq_mod s 25] at h2
      have h3 := fun w => run_shlN Tryd.prog w 68 .u32 .u64 (s % 33554432) 5 (by decide) (wrap32_nat _ (by omega))
      have h4 := fun w => run_xor32 Tryd.prog 68 (s % 33554432 * 32) n (by omega) (by omega) w
      have htop : s / 2 ^ 25 < 32 := by omega
      have hx0 : (s % 33554432 * 32) ^^^ n < 1073741824 := Nat.xor_lt_two_pow (n := 30) (by omega) (by omega)
      have hms : mixStep s n = turnBy (s / 2 ^ 25) ((s % 33554432 * 32) ^^^ n) 5 := rfl
      have hp5 : s % 33554432 * 2 ^ 5 = s % 33554432 * 32 := rfl
      rw [hp5] at h3
      have htl := turnBy_lt (s / 2 ^ 25) ((s % 33554432 * 32) ^^^ n) hx0
      generalize (s % 33554432 * 32) ^^^ n = x0 at h4 hx0 hms htl
      generalize s % 33554432 * 32 = m2 at h3 h4
      generalize s % 33554432 = m1 at h2 h3
      generalize s / 2 ^ 25 = top at h1 htop hms htl
      have H1 := Lib.hid h1
      have H2 := Lib.hid h2
      have H3 := Lib.hid h3
      have H4 := Lib.hid h4
      have HMS := Lib.hid hms
      have HTL := Lib.hid htl
      clear h1 h2 h3 h4 hms htl hp5
      go_wp2_with (first
        | ((with_reducible refine wpDst 16 rfl ?_); refine wpList_binV (.inl rfl) .shr 68 _ _ rfl (.int .u32 (s : Int)) (.int .u64 ((25 : Nat) : Int)) rfl rfl rfl (H1.out _) ?_)
        | ((with_reducible refine wpDst 18 rfl ?_); refine wpList_binV (.inl rfl) .and 68 _ _ rfl (.int .u32 (s : Int)) (.int .u32 ((33554431 : Nat) : Int)) rfl rfl rfl (H2.out _) ?_)
        | ((with_reducible refine wpDst 19 rfl ?_); refine wpList_binV (.inl rfl) .shl 68 _ _ rfl (.int .u32 (m1 : Int)) (.int .u64 ((5 : Nat) : Int)) rfl rfl rfl (H3.out _) ?_)
        | ((with_reducible refine wpDst 22 rfl ?_); refine wpList_binV (.inl rfl) .xor 68 _ _ rfl (.int .u32 (m2 : Int)) (.int .u32 (n : Int)) rfl rfl rfl (H4.out _) ?_)
        | ((with_reducible refine wpDst 23 rfl ?_); refine wpList_load_agg _ rfl 88 _ rfl _ rfl turnsC _ Tryd.underlying88 rfl turns_size (by exact HG.out) ?_)
        | fail)
      go_loopw [3, 24] (fun sv iv w5 => ∃ j : Nat, j ≤ 5 ∧ iv = .int .i64 j ∧ sv = .int .u32 ((turnBy top x0 j : Nat) : Int) ∧ w5 = wr) (fun _ i _ => 5 - (intOf i).toNat)
      case atStart => exact ⟨0, by omega, rfl, rfl, rfl⟩
      case round =>
        obtain ⟨j, hj, rfl, rfl, rfl⟩ := hrel
        by_cases hj5 : j < 5
        · obtain ⟨ht1, ht2⟩ := turns_at j hj5
          have hty := HTL.out j
          have hty1 : turnBy top x0 (j + 1) = if top / 2 ^ j % 2 = 1 then turnBy top x0 j ^^^ turnsK.getD j 0 else turnBy top x0 j := rfl
          have HT1 := Lib.hid ht1
          have HTY := Lib.hid hty1
          clear ht1 hty1
          have g1 := fun w => run_shrN Tryd.prog w 68 .u32 .i64 top j (by simp [IntKind.bits]; omega)
          have hq : top / 2 ^ j < 4294967296 := Nat.lt_of_le_of_lt (Nat.div_le_self _ _) (by omega)
          have g2 := fun w => run_and32 Tryd.prog 68 (top / 2 ^ j) 1 hq (by omega) w
          rw [Nat.and_one_is_mod] at g2
          have g3 := fun w => run_xor32 Tryd.prog 68 (turnBy top x0 j) (turnsK.getD j 0) (by omega) ht2 w
          generalize turnBy top x0 j ^^^ turnsK.getD j 0 = y2 at g3 HTY
          generalize turnBy top x0 j = y at g3 HTY hty ⊢
          generalize turnsK.getD j 0 = tj at g3 HT1 ht2
          have hb2 : top / 2 ^ j % 2 < 2 := Nat.mod_lt _ (by decide)
          generalize top / 2 ^ j % 2 = bt at g2 HTY hb2
          generalize top / 2 ^ j = q at g1 g2 hq
          have G1 := Lib.hid g1
          have G2 := Lib.hid g2
          have G3 := Lib.hid g3
          clear g1 g2 g3
          by_cases hbt : bt = 1
          · subst hbt
            have HTY1 : Hid (turnBy top x0 (j + 1) = y2) := Lib.hid (by have := HTY.out; rwa [if_pos rfl] at this)
            clear HTY
            go_wp2_with (first
              | ((with_reducible refine wpDst 27 rfl ?_); refine wpList_index (.inl rfl) 88 _ _ rfl turnsC j 5 .i64 68 _ _ rfl rfl Tryd.underlying88 hj5 Tryd.underlying68 rfl (by kernel_rfl) HT1.out ?_)
              | ((with_reducible refine wpDst 30 rfl ?_); refine wpList_binV (.inl rfl) .shr 68 _ _ rfl (.int .u32 (top : Int)) (.int .i64 (j : Int)) rfl rfl rfl (G1.out _) ?_)
              | ((with_reducible refine wpDst 31 rfl ?_); refine wpList_binV (.inl rfl) .and 68 _ _ rfl (.int .u32 (q : Int)) (.int .u32 ((1 : Nat) : Int)) rfl rfl rfl (G2.out _) ?_)
              | ((with_reducible refine wpDst 35 rfl ?_); refine wpList_binV (.inl rfl) .xor 68 _ _ rfl (.int .u32 (y : Int)) (.int .u32 (tj : Int)) rfl rfl rfl (G3.out _) ?_)
              | fail)
            go_roundw
            case rel => exact ⟨j + 1, by omega, by go_num, by rw [HTY1.out], trivial⟩
            case measure => simp [intOf]; omega
          · obtain rfl : bt = 0 := by omega
            have HTY1 : Hid (turnBy top x0 (j + 1) = y) := Lib.hid (by have := HTY.out; rwa [if_neg (by decide)] at this)
            clear HTY
            go_wp2_with (first
              | ((with_reducible refine wpDst 27 rfl ?_); refine wpList_index (.inl rfl) 88 _ _ rfl turnsC j 5 .i64 68 _ _ rfl rfl Tryd.underlying88 hj5 Tryd.underlying68 rfl (by kernel_rfl) HT1.out ?_)
              | ((with_reducible refine wpDst 30 rfl ?_); refine wpList_binV (.inl rfl) .shr 68 _ _ rfl (.int .u32 (top : Int)) (.int .i64 (j : Int)) rfl rfl rfl (G1.out _) ?_)
              | ((with_reducible refine wpDst 31 rfl ?_); refine wpList_binV (.inl rfl) .and 68 _ _ rfl (.int .u32 (q : Int)) (.int .u32 ((1 : Nat) : Int)) rfl rfl rfl (G2.out _) ?_)
              | fail)
            go_roundw
            case rel => exact ⟨j + 1, by omega, by go_num, by rw [HTY1.out], trivial⟩
            case measure => simp [intOf]; omega
        · obtain rfl : j = 5 := by omega
          go_wp2_with fail
          go_roundw
          case rel => exact ⟨k + 1, by omega, by go_num, by rw [HST.out, HMS.out], trivial⟩
          case measure => simp [intOf]; omega
    · obtain rfl : k = l.length := by omega
      rw [List.take_length]
      go_wp2_with fail
      go_ret
      exact ⟨rfl, rfl⟩
end Go.Proofs.YtchnjcghbbacoaaDoor

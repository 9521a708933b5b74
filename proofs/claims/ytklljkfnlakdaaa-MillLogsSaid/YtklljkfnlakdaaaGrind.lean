/- The walk of the mill's grind: one block is taken in. -/
import Derived.Test.YtklljkfnlakdaaaMill1
import Derived.Test.YtklljkfnlakdaaaReg
import Derived.RegionTactic
import Derived.Deep.RegionHeldLaw
import Derived.Deep.RegionWith
import Derived.Deep.CutRange
import Derived.Deep.DeepCutAuto
set_option linter.unusedVariables false
set_option linter.unusedSimpArgs false
set_option linter.unnecessarySimpa false
namespace Go.Proofs.Ytklljkfnlakdaaa
open Go.RowKit

theorem near_zero : (Try.prog.info? 73).bind (fun i => i.zero.map (·.cells)) = some (nv (List.replicate 16 0)).toArray := by kernel_rfl
theorem state_zero : (Try.prog.info? 62).bind (fun i => i.zero.map (·.cells)) = some (nv (List.replicate 8 0)).toArray := by kernel_rfl
theorem Cells.mid {w : World} {g : Nat} {t : TypeId} {a b c : List Value} {n : Nat} (h : Blk w g t (a ++ b ++ c)) (hn : a.length = n) : Cells w ⟨g, n, none⟩ b := by
  subst hn
  have h1 := (h.cells.left (ys := c)).right (xs := a)
  intro j u hu
  have h2 := h1 j u hu
  rw [add_add'] at h2
  rw [show (⟨g, a.length, none⟩ : Addr).add j = (⟨g, 0, none⟩ : Addr).add (a.length + j) by unfold Addr.add; split <;> split <;> simp_all <;> omega]
  exact h2
theorem words_step (b : List UInt8) (k : Nat) (hk : k < 16) (f : Nat) (hf : f = beNum ((b.drop (4 * k)).take 4)) :
    ((words b 16).take k ++ List.replicate (16 - k) 0).set k f = (words b 16).take (k + 1) ++ List.replicate (16 - (k + 1)) 0 := by
  have hl := words_length b 16
  have e : (words b 16)[k]'(by omega) = f := by simp [words, hf]
  rw [List.set_append_right _ _ (by simp [hl]; omega), List.take_add_one, List.getElem?_eq_getElem (by omega), e]
  have : min k (words b 16).length = k := by omega
  rw [List.length_take, this, Nat.sub_self, show 16 - k = (16 - (k + 1)) + 1 by omega, List.replicate_succ]
  simp

theorem sumk_step (s r : List Nat) (k : Nat) (hs : s.length = 8) (hr : r.length = 8) (hk : k < 8) (f : Nat → Nat → Nat) :
    ((List.zipWith f s r).take k ++ s.drop k).set k (f (s.getD k 0) (r.getD k 0)) = (List.zipWith f s r).take (k + 1) ++ s.drop (k + 1) := by
  have hz : (List.zipWith f s r).length = 8 := by simp [hs, hr]
  rw [List.set_append_right _ _ (by simp [hz]; omega), List.length_take, hz, Nat.min_eq_left (by omega), Nat.sub_self, List.drop_eq_getElem_cons (by omega), List.set_cons_zero,
    List.take_add_one, List.getElem?_eq_getElem (by omega)]
  simp [List.getD, List.getElem?_eq_getElem (show k < s.length by omega), List.getElem?_eq_getElem (show k < r.length by omega)]
theorem sumk_get (s r : List Nat) (k : Nat) (hs : s.length = 8) (hr : r.length = 8) (hk : k < 8) (f : Nat → Nat → Nat) : ((List.zipWith f s r).take k ++ s.drop k)[k]? = some (s.getD k 0) := by
  have hz : (List.zipWith f s r).length = 8 := by simp [hs, hr]
  rw [List.getElem?_append_right (by simp [hz]; omega), List.length_take, hz, Nat.min_eq_left (by omega), Nat.sub_self, List.getElem?_drop]
  simp [List.getD, List.getElem?_eq_getElem (show k < s.length by omega)]
theorem round_cells (a b c d e f g h K W T P U O : Nat) (hT : threeM e 6 11 25 false = T) (hP : pickM e f g = P) (hU : threeM a 2 13 22 false = U) (hO : mostM a b c = O) :
    roundM [a, b, c, d, e, f, g, h] K W = [(h + T + P + K + W + U + O) % 4294967296, a, b, c, (d + (h + T + P + K + W)) % 4294967296, e, f, g] := by
  rw [roundM_eq, hT, hP, hU, hO]
theorem nv_set (l : List Nat) (i n : Nat) : (nv l).set i (.int .u32 (n : Int)) = nv (l.set i n) := by simp [nv]

theorem cells8 {v0 v4 : Int} {n0 n4 a b c e f g : Nat} (h0 : v0 = n0) (h4 : v4 = n4) :
    [Value.int .u32 v0, Value.int .u32 a, Value.int .u32 b, Value.int .u32 c, Value.int .u32 v4, Value.int .u32 e, Value.int .u32 f, Value.int .u32 g] = nv [n0, a, b, c, n4, e, f, g] := by
  subst h0; subst h4; rfl
theorem setRow_grown {a w : World} {r : Option Nat} (h : a.grownBy w r) (g : Nat) (cs : Array Value) (hg : a.heap.size ≤ g) : a.grownBy (w.setRow g cs) r :=
  grown_then h (setRow_only cs) (.inr (by rintro _ ⟨⟩; exact hg))

section
variable (g : Nat) (s : List Nat) (b : List UInt8) (L : Nat) (w : World)
set_option maxHeartbeats 1000000 in
set_option maxRecDepth 10000 in
theorem Grind (hb : Blk w g 65 (nv s ++ bv b ++ [Value.int .u64 (L : Int)])) (hs : s.length = 8) (hl : b.length = 64) (hlt' : ∀ x ∈ s, x < 4294967296) :
    Calls Try.prog 30 #[.pointer (some ⟨g, 0, none⟩)] w fun e w' => e = .returned (.tuple #[]) ∧ Blk w' g 65 (nv (block s b) ++ bv b ++ [Value.int .u64 (L : Int)]) ∧ w.grownBy w' (some g) := by
  have hg := hb.lt
  have hu32 : (Try.prog.info? 61).map (·.size) = some 1 := by kernel_rfl
  have HB := Lib.hid hb
  have HL := Lib.hid hl
  go_enter Try.func30, Try.ntmps30
  go_wp2_with (first
    | (refine wpList_alloc _ rfl 73 rfl _ near_zero ?_)
    | fail)
  go_loopw [12] (fun i wr => ∃ k : Nat, k ≤ 16 ∧ i = .int .i64 k ∧ Ext w wr ∧ Blk wr w.heap.size 73 (nv ((words b 16).take k ++ List.replicate (16 - k) 0))) (fun i _ => 16 - (intOf i).toNat)
  case atStart => exact ⟨0, by omega, rfl, (Ext.refl w).alloc _, Blk.new _ _ _⟩
  case round =>
    obtain ⟨k, hk, rfl, hx, hn⟩ := hrel
    have hbr : Blk wr g 65 (nv s ++ bv b ++ [Value.int .u64 (L : Int)]) := HB.out.keep hx (by simp)
    by_cases hlt : k < 16
    · have hwd : Cells wr ⟨g, 8 + 4 * k, none⟩ (bv ((b.drop (4 * k)).take 4)) := by
        have h1 : Cells wr ⟨g, 8, none⟩ (bv b) := Cells.mid hbr (by rw [nv_length]; exact hs)
        have := (h1.drop (4 * k)).take 4
        rw [show ((bv b).drop (4 * k)).take 4 = bv ((b.drop (4 * k)).take 4) by simp [bv]] at this
        unfold Addr.add at this
        split at this <;> simp_all
      have hl4 : ((b.drop (4 * k)).take 4).length = 4 := by rw [List.length_take, List.length_drop, HL.out]; omega
      have HW := Lib.hid hwd
      have H4 := Lib.hid hl4
      have k1 : (0 : Int) ≤ 4 * (k : Int) := by omega
      have k2 : 4 * (k : Int) ≤ 64 := by omega
      clear hwd hl4
      obtain ⟨u0, hu0⟩ : ∃ u0, (nv ((words b 16).take k ++ List.replicate (16 - k) 0))[k]? = some u0 := ⟨_, List.getElem?_eq_getElem (by simp [words_length]; omega)⟩
      have hcn := hn.cell k
      rw [hu0] at hcn
      have hfn := hn.free k
      have HN := Lib.hid hn
      clear hu0 hn
      go_wp2_with fail
      refine (Word _ _ (64 - 4 * k) (64 - 4 * k) ((b.drop (4 * k)).take 4) H4.out (by omega) (by omega) (by unfold maxLen; omega) HW.out).mono ?_
      rintro e w1 ⟨rfl, rfl⟩
      go_wp2
      go_roundw
      case rel =>
        have h1 := HN.out.set k (Value.int .u32 ((beNum ((b.drop (4 * k)).take 4) : Nat) : Int))
        rw [show (nv ((words b 16).take k ++ List.replicate (16 - k) 0)).set k (Value.int .u32 ((beNum ((b.drop (4 * k)).take 4) : Nat) : Int)) = nv ((words b 16).take (k + 1) ++ List.replicate (16 - (k + 1)) 0) by
          rw [← words_step b k hlt _ rfl]; simp [nv]] at h1
        exact ⟨k + 1, by omega, by go_num, hx.setCell (Nat.le_refl _) _, h1⟩
      case measure => simp [intOf]; omega
    · obtain rfl : k = 16 := by omega
      have hnw : (words b 16).take 16 ++ List.replicate (16 - 16) 0 = words b 16 := by rw [List.take_of_length_le (by rw [words_length]; exact Nat.le_refl _)]; simp
      rw [hnw] at hn
      have hcs : Cells wr ⟨g, 0, none⟩ (nv s) := by have := hbr.cells.left (ys := [Value.int .u64 (L : Int)]); exact this.left
      have hls : (nv s).length = 8 := by rw [nv_length]; exact hs
      have HLS := Lib.hid hls
      clear hnw hls
      go_wp2_with (first
        | (refine wpList_load_agg _ rfl 62 (.tmp 27) rfl _ rfl (nv s) _ Try.underlying62 rfl (by rw [HLS.out]; kernel_rfl) hcs ?_)
        | (refine wpList_alloc _ rfl 62 rfl _ state_zero ?_)
        | (refine wpList_store_new _ rfl 62 (.tmp 4) (.tmp 28) rfl rfl _ (nv s) _ rfl (by rw [HLS.out]; kernel_rfl) (by rw [HLS.out, nv_length, List.length_replicate]) (nv_one s) ?_)
        | fail)
      refine (Stirs _).mono ?_
      rintro e w1 ⟨rfl, hx1⟩
      have hsb : Blk w1 wr.heap.size 62 (nv s) := (Blk.new wr 62 (nv s)).keep hx1 (by simp)
      have hnb : Blk w1 w.heap.size 73 (nv (words b 16)) := (hn.keep ((Ext.refl wr).alloc (.cells (nv s).toArray 62)) (by simp)).keep hx1 (by simp)
      have hne : w.heap.size ≠ wr.heap.size := Nat.ne_of_lt hn.lt
      have hxw : Ext w w1 := (hx.alloc _).trans hx1
      obtain ⟨W, hW0, hWlt, hWn, hWf⟩ := block_W s b
      rw [← hW0] at hnb
      have hrok := fun n => rounds_ok (s := s) ⟨hs, hlt'⟩ W n
      have HWF := Lib.hid hWf
      have HWN := Lib.hid hWn
      have HWL := Lib.hid hWlt
      have HR := Lib.hid hrok
      generalize hsN : wr.heap.size = sN at hsb hne
      have HSN := Lib.hid hsN
      have hsz : w.heap.size ≤ sN := by rw [← hsN]; exact hx.size
      have HSZ := Lib.hid hsz
      clear hsz
      have hKS : ∀ k, k < 64 → (nv stirK)[k]? = some (Value.int .u32 ((stirK.getD k 0 : Nat) : Int)) := by
        intro k hk
        have hl : stirK.length = 64 := rfl
        rw [nv, List.getElem?_map, List.getElem?_eq_getElem (by omega)]
        simp [List.getD, List.getElem?_eq_getElem (show k < stirK.length by omega)]
      have hKL : (nv stirK).length = 64 := by rw [nv_length]; rfl
      generalize nv stirK = KS at hKS hKL ⊢
      have HKS := Lib.hid hKS
      obtain ⟨NR, hNR⟩ : ∃ NR : Nat → List Nat, NR = near W := ⟨_, rfl⟩
      obtain ⟨RD, hRD⟩ : ∃ RD : Nat → List Nat, RD = rounds s W := ⟨_, rfl⟩
      have hsb : Blk w1 sN 62 (nv (RD 0)) := by rw [hRD]; exact hsb
      rw [← hNR] at hnb
      have HNR := Lib.hid hNR
      have HRD := Lib.hid hRD
      clear hWf hWn hWlt hrok hsN hW0 hn hcs hbr hKS hNR hRD
      go_wp2
      obtain ⟨wa, rfl⟩ : ∃ wa : World, wa = wr := ⟨_, rfl⟩
      go_loopw [30] (fun i wq => ∃ k : Nat, k ≤ 64 ∧ i = .int .i64 k ∧ Ext w wq ∧ Blk wq w.heap.size 73 (nv (NR k)) ∧ Blk wq sN 62 (nv (RD k))) (fun i _ => 64 - (intOf i).toNat)
      case atStart => exact ⟨0, by omega, rfl, hxw, hnb, hsb⟩
      case round =>
        clear hxw hnb hsb hx hx1
        obtain ⟨k, hk, rfl, hx, hn, hsb⟩ := hrel
        by_cases hlt : k < 64
        · have hok : (RD k).length = 8 ∧ ∀ x ∈ RD k, x < 4294967296 := by rw [HRD.out]; exact HR.out k
          obtain ⟨hl8, hlt8⟩ := hok
          obtain ⟨s0, s1, s2, s3, s4, s5, s6, s7, h8⟩ := list8 hl8
          have HN := Lib.hid hn
          have HSB := Lib.hid hsb
          have H8 := Lib.hid h8
          rw [h8] at hsb hlt8
          simp only [List.mem_cons, List.not_mem_nil, or_false] at hlt8
          have b0 := hlt8 s0 (by simp)
          have b1 := hlt8 s1 (by simp)
          have b2 := hlt8 s2 (by simp)
          have b3 := hlt8 s3 (by simp)
          have b4 := hlt8 s4 (by simp)
          have b5 := hlt8 s5 (by simp)
          have b6 := hlt8 s6 (by simp)
          have b7 := hlt8 s7 (by simp)
          have c0 := hsb.cell 0
          have c1 := hsb.cell 1
          have c2 := hsb.cell 2
          have c3 := hsb.cell 3
          have c4 := hsb.cell 4
          have c5 := hsb.cell 5
          have c6 := hsb.cell 6
          have c7 := hsb.cell 7
          simp only [nv, List.map_cons, List.map_nil, List.getElem?_cons_succ, List.getElem?_cons_zero] at c0 c1 c2 c3 c4 c5 c6 c7
          clear hlt8 hl8 h8 hsb hn
          have hst := HKS.out k hlt
          have hkl := stirK_lt k
          generalize hKK : stirK.getD k 0 = K at hst hkl
          have HKK := Lib.hid hKK
          clear hKK
          have kr : ((k : Int) % 16).toNat = k % 16 := by omega
          have KR := Lib.hid kr
          clear kr
          go_upto_if 37 with (first
              | (refine wpList_index (.inl rfl) 74 (.tmp 29) (.tmp 30) rfl KS k 64 .i64 61 _ _ rfl rfl Try.underlying74 hlt Try.underlying61 rfl hu32 hst ?_)
              | fail)
          go_cut [30] from 30 to 125 (fun v30 wx => v30 = Value.int .i64 (k : Int) ∧ Ext w wx ∧ Blk wx w.heap.size 73 (nv (NR (k + 1))) ∧ Blk wx sN 62 (nv (RD k)))
          case first =>
            by_cases h16 : 16 ≤ k
            · obtain ⟨r0, r1, r9, r14⟩ := near_reads W k h16
              have hstep := near_step W k h16
              have hval : W.getD k 0 = wordMix (W.getD (k - 16) 0) (W.getD (k - 16 + 1) 0) (W.getD (k - 16 + 9) 0) (W.getD (k - 16 + 14) 0) := by
                have := HWN.out (k - 16) (by omega)
                rwa [show 16 + (k - 16) = k by omega] at this
              have HSTEP := Lib.hid hstep
              have HVAL := Lib.hid hval
              clear hstep hval
              rw [← HNR.out] at r0 r1 r9 r14
              have nvg : ∀ (j x : Nat), (NR k)[j]? = some x → wr.cell? ⟨w.heap.size, j, none⟩ = some (Value.int .u32 (x : Int)) := by
                intro j x hj
                rw [HN.out.cell j, nv, List.getElem?_map, hj]; rfl
              have n0 := nvg _ _ r0
              have n1 := nvg _ _ r1
              have n9 := nvg _ _ r9
              have n14 := nvg _ _ r14
              have nfr := HN.out.free (k % 16)
              generalize W.getD k 0 = wk at HVAL HSTEP
              generalize g0 : W.getD (k - 16) 0 = w0 at n0 HVAL
              have g0 := Lib.hid g0
              generalize g1 : W.getD (k - 16 + 1) 0 = w1' at n1 HVAL
              have g1 := Lib.hid g1
              generalize g9 : W.getD (k - 16 + 9) 0 = w9 at n9 HVAL
              have g9 := Lib.hid g9
              generalize g14 : W.getD (k - 16 + 14) 0 = w14 at n14 HVAL
              have g14 := Lib.hid g14
              have q1 : w1' < 4294967296 := by rw [← g1.out]; exact getD_lt HWL.out _
              have q14 : w14 < 4294967296 := by rw [← g14.out]; exact getD_lt HWL.out _
              have wr1 : IntKind.i64.wrap ((k : Int) + 1) = (k : Int) + 1 := by rw [IntKind.wrap_i64]; omega
              have wr9 : IntKind.i64.wrap ((k : Int) + 9) = (k : Int) + 9 := by rw [IntKind.wrap_i64]; omega
              have wr14 : IntKind.i64.wrap ((k : Int) + 14) = (k : Int) + 14 := by rw [IntKind.wrap_i64]; omega
              have i0 : (0 : Int) ≤ (k : Int) % 16 ∧ (k : Int) % 16 < 16 := by omega
              have i1 : (0 : Int) ≤ ((k : Int) + 1) % 16 ∧ ((k : Int) + 1) % 16 < 16 := by omega
              have i9 : (0 : Int) ≤ ((k : Int) + 9) % 16 ∧ ((k : Int) + 9) % 16 < 16 := by omega
              have i14 : (0 : Int) ≤ ((k : Int) + 14) % 16 ∧ ((k : Int) + 14) % 16 < 16 := by omega
              have e1 : (((k : Int) + 1) % 16).toNat = (k + 1) % 16 := by omega
              have e9 : (((k : Int) + 9) % 16).toNat = (k + 9) % 16 := by omega
              have e14 : (((k : Int) + 14) % 16).toNat = (k + 14) % 16 := by omega
              have n0' := n0
              have n1' := n1
              have n9' := n9
              have n14' := n14
              have nfr' := nfr
              rw [← KR.out] at n0' nfr'
              rw [← e1] at n1'
              rw [← e9] at n9'
              rw [← e14] at n14'
              clear nvg r0 r1 r9 r14 e1 e9 e14
              go_wp2
              refine wp_region_draw_last 24 _ rfl (by kernel_rfl) (by kernel_rfl) (by kernel_rfl) ?_
              simp only [List.take_succ_cons, List.take_zero]
              repeat (go_big_quiet_step (first
                  | (go_at_call_of 32 (Value.int IntKind.u32 (w1' : Int)); exact Calls.quiet_of_same ((Three _ w1' 7 18 3 true q1 (by omega) (by omega) (by omega)).mono fun _ _ h => ⟨h.1, h.2.symm⟩))
                  | (go_at_call_of 32 (Value.int IntKind.u32 (w14 : Int)); exact Calls.quiet_of_same ((Three _ w14 17 19 10 true q14 (by omega) (by omega) (by omega)).mono fun _ _ h => ⟨h.1, h.2.symm⟩))))
              refine wpQuiet_nil ?_
              rintro _ ⟨nq, rfl⟩
              go_wp2
              go_meet
              have hv : ∀ v : Int, v = (wk : Int) → Blk ((wr.drewN nq).setCell ⟨w.heap.size, k % 16, none⟩ (Value.int .u32 v)) w.heap.size 73 (nv (NR (k + 1))) := by
                rintro _ rfl
                have h1 : Blk (wr.drewN nq) w.heap.size 73 (nv (NR k)) := HN.out
                have h2 := h1.set (k % 16) (Value.int .u32 (wk : Int))
                rwa [nv_set, HNR.out, HSTEP.out, ← HNR.out] at h2
              have h3 : Ext w (wr.drewN nq) := hx.drewN nq
              have h4 : Blk (wr.drewN nq) sN 62 (nv (RD k)) := HSB.out
              exact ⟨rfl, h3.setCell (Nat.le_refl _) _, hv _ (by rw [HVAL.out, wordMix]; omega), h4.keep (only_set _ _) (by simpa using hne.symm)⟩
            · have hs1 : near W (k + 1) = near W k := near_small W k (by omega)
              have hx' := hx
              go_wp2
              go_meet
              exact ⟨rfl, hx, by rw [HNR.out, hs1, ← HNR.out]; exact HN.out, HSB.out⟩
          case rest =>
            obtain ⟨rfl, hx, hn, hsb⟩ := hcut
            have hwk : (NR (k + 1))[k % 16]? = some (W.getD k 0) := by
              rw [HNR.out]
              by_cases h16 : 16 ≤ k
              · exact near_now W k h16
              · rw [near_small W k (by omega)]; exact near_at W k (by omega)
            have hcn := hn.cell (k % 16)
            rw [nv, List.getElem?_map, hwk, Option.map_some] at hcn
            have hwl : W.getD k 0 < 4294967296 := getD_lt HWL.out _
            generalize hWK : W.getD k 0 = wk at hcn hwl
            have HWK := Lib.hid hWK
            have hcn' := hcn
            rw [← KR.out] at hcn'
            have i0 : (0 : Int) ≤ (k : Int) % 16 ∧ (k : Int) % 16 < 16 := by omega
            have HN1 := Lib.hid hn
            have HSB1 := Lib.hid hsb
            rw [H8.out] at hsb
            have c0 := hsb.cell 0
            have c1 := hsb.cell 1
            have c2 := hsb.cell 2
            have c3 := hsb.cell 3
            have c4 := hsb.cell 4
            have c5 := hsb.cell 5
            have c6 := hsb.cell 6
            have c7 := hsb.cell 7
            simp only [nv, List.map_cons, List.map_nil, List.getElem?_cons_succ, List.getElem?_cons_zero] at c0 c1 c2 c3 c4 c5 c6 c7
            have p1 := (bits_u32 s5 s6 b5 b6).2.2
            have d1 := xor_lt32 b5 b6
            generalize hA1 : s5 ^^^ s6 = x56 at p1 d1
            have p2 := (bits_u32 s4 x56 b4 d1).1
            have d2 : s4 &&& x56 < 4294967296 := and_lt32 d1
            generalize hA2 : s4 &&& x56 = y56 at p2 d2
            have p3 := (bits_u32 s6 y56 b6 d2).2.2
            have d3 := xor_lt32 b6 d2
            generalize hA3 : s6 ^^^ y56 = pk at p3 d3
            have HP : Hid (pickM s4 s5 s6 = pk) := Lib.hid (by rw [pickM, hA1, hA2, hA3])
            have m1 := (bits_u32 s0 s1 b0 b1).1
            have d4 : s0 &&& s1 < 4294967296 := and_lt32 b1
            have m2 := (bits_u32 s0 s1 b0 b1).2.1
            have d5 := or_lt32 b0 b1
            generalize hA4 : s0 &&& s1 = mab at m1 d4
            generalize hA5 : s0 ||| s1 = oab at m2 d5
            have m3 := (bits_u32 s2 oab b2 d5).1
            have d6 : s2 &&& oab < 4294967296 := and_lt32 d5
            generalize hA6 : s2 &&& oab = mc at m3 d6
            have m4 := (bits_u32 mab mc d4 d6).2.1
            have d7 := or_lt32 d4 d6
            generalize hA7 : mab ||| mc = mo at m4 d7
            have HO : Hid (mostM s0 s1 s2 = mo) := Lib.hid (by rw [mostM, hA4, hA5, hA6, hA7])
            have t1 := threeM_lt (f := false) b4 (show 6 ≤ 32 by omega) (show 11 ≤ 32 by omega) (show 25 ≤ 32 by omega)
            have t2 := threeM_lt (f := false) b0 (show 2 ≤ 32 by omega) (show 13 ≤ 32 by omega) (show 22 ≤ 32 by omega)
            have TH1 := fun w => Three w s4 6 11 25 false b4 (by omega) (by omega) (by omega)
            have TH2 := fun w => Three w s0 2 13 22 false b0 (by omega) (by omega) (by omega)
            generalize hT1 : threeM s4 6 11 25 false = T1 at t1 TH1
            generalize hT2 : threeM s0 2 13 22 false = T2 at t2 TH2
            have HT1 := Lib.hid hT1
            have HT2 := Lib.hid hT2
            have TH1 := Lib.hid TH1
            have TH2 := Lib.hid TH2
            clear hA1 hA2 hA3 hA4 hA5 hA6 hA7 hT1 hT2 hWK hwk hn hsb d1 d2 d4 d5 d6
            go_wp2
            go_quiet ((go_at_call 32; exact Calls.quiet_of_same ((TH1.out _).mono fun _ _ h => ⟨h.1, h.2.symm⟩)))
            have hx : Ext w (wc.drewN nq) := hx.drewN nq
            have HN1 : Hid (Blk (wc.drewN nq) _ _ _) := Lib.hid HN1.out
            have HSB1 : Hid (Blk (wc.drewN nq) _ _ _) := Lib.hid HSB1.out
            have c0 : (wc.drewN nq).cell? _ = _ := c0
            have c1 : (wc.drewN nq).cell? _ = _ := c1
            have c2 : (wc.drewN nq).cell? _ = _ := c2
            have c3 : (wc.drewN nq).cell? _ = _ := c3
            have c4 : (wc.drewN nq).cell? _ = _ := c4
            have c5 : (wc.drewN nq).cell? _ = _ := c5
            have c6 : (wc.drewN nq).cell? _ = _ := c6
            have c7 : (wc.drewN nq).cell? _ = _ := c7
            generalize wc.drewN nq = wd at hx HN1 HSB1 c0 c1 c2 c3 c4 c5 c6 c7 ⊢
            clear hcn hcn' m1 m2 m3 m4 p1 p2 p3
            go_wp2
            refine wp_region_draw_last 24 _ rfl (by kernel_rfl) (by kernel_rfl) (by kernel_rfl) ?_
            simp only [List.take_succ_cons, List.take_zero]
            repeat (go_big_quiet_step ((go_at_call 32; exact Calls.quiet_of_same ((TH2.out _).mono fun _ _ h => ⟨h.1, h.2.symm⟩))))
            refine wpQuiet_nil ?_
            rintro _ ⟨nq, rfl⟩
            have hsb2 : (wd.drewN nq).heap[sN]? = some (.cells (nv (RD k)).toArray 62 (0, 0)) := HSB1.out
            go_wp2_with (first
              | (refine wpList_store_row _ rfl 62 (.tmp 4) (.tmp 124) rfl sN rfl (nv (RD k)) _ 62 rfl hsb2 (by kernel_rfl) (by rw [nv_length, H8.out]; rfl) (by simp [Value.oneCell']) ?_)
              | fail)
            go_roundw
            case rel =>
              have hB : ∀ cs : List Value, cs = nv (RD (k + 1)) → Blk ((wd.drewN nq).setRow sN cs.toArray) sN 62 (nv (RD (k + 1))) := by
                rintro _ rfl
                exact setRow_at hsb2
              have hN : ∀ cs, Blk ((wd.drewN nq).setRow sN cs) w.heap.size 73 (nv (NR (k + 1))) := fun cs => Blk.keep (w := wd.drewN nq) HN1.out (setRow_only cs) (by simpa using hne)
              refine ⟨k + 1, by omega, by go_num, setRow_grown (hx.drewN nq) _ _ HSZ.out, hN _, hB _ ?_⟩
              rw [HRD.out, rounds_succ, ← HRD.out, H8.out, HKK.out, HWK.out, round_cells s0 s1 s2 s3 s4 s5 s6 s7 K wk T1 pk T2 mo HT1.out HP.out HT2.out HO.out]
              exact cells8 (by omega) (by omega)
            case measure => simp [intOf]; omega
        · obtain rfl : k = 64 := by omega
          have hR := HR.out 64
          rw [← HRD.out] at hR
          have hfin : List.zipWith (fun x y => (x + y) % 4294967296) s (RD 64) = block s b := by rw [HRD.out]; exact HWF.out 64 rfl
          obtain ⟨hRl, hRlt⟩ := hR
          generalize RD 64 = R at hsb hRl hRlt hfin
          have hmb : Blk wr g 65 (nv s ++ bv b ++ [Value.int .u64 (L : Int)]) := HB.out.keep hx (by simp)
          have HFIN := Lib.hid hfin
          have HRL := Lib.hid hRl
          have HRLT := Lib.hid hRlt
          have hgr : w.grownBy wr (some g) := hx.any _
          have hgs : g ≠ sN := by have := HSZ.out; omega
          clear hfin hRl hRlt hn hx
          go_wp2
          obtain ⟨wb, rfl⟩ : ∃ wb : World, wb = wr := ⟨_, rfl⟩
          go_loopw [126] (fun i wq => ∃ k : Nat, k ≤ 8 ∧ i = .int .i64 k ∧ w.grownBy wq (some g) ∧ Blk wq g 65 (nv ((List.zipWith (fun x y => (x + y) % 4294967296) s R).take k ++ s.drop k) ++ bv b ++ [Value.int .u64 (L : Int)]) ∧ Blk wq sN 62 (nv R)) (fun i _ => 8 - (intOf i).toNat)
          case atStart => exact ⟨0, by omega, rfl, hgr, by simpa using hmb, hsb⟩
          case round =>
            clear hgr hmb hsb
            obtain ⟨k, hk, rfl, hgr, hmb, hsb⟩ := hrel
            by_cases hlt : k < 8
            · have hg1 := sumk_get s R k hs HRL.out hlt (fun x y => (x + y) % 4294967296)
              have hst := sumk_step s R k hs HRL.out hlt (fun x y => (x + y) % 4294967296)
              have hl8 : ((List.zipWith (fun x y => (x + y) % 4294967296) s R).take k ++ s.drop k).length = 8 := by simp [hs, HRL.out]; omega
              have hcg := hmb.cell k
              have hfg := hmb.free k
              have hcs := hsb.cell k
              generalize (List.zipWith (fun x y => (x + y) % 4294967296) s R).take k ++ s.drop k = X at hg1 hst hl8 hmb hcg
              have hsk : s.getD k 0 < 4294967296 := getD_lt hlt' k
              have hrk : R.getD k 0 < 4294967296 := getD_lt HRLT.out k
              rw [List.append_assoc, List.getElem?_append_left (by rw [nv_length, hl8]; exact hlt), nv, List.getElem?_map, hg1, Option.map_some] at hcg
              have hrg : R[k]? = some (R.getD k 0) := by have := HRL.out; simp [List.getD, List.getElem?_eq_getElem (show k < R.length by omega)]
              rw [nv, List.getElem?_map, hrg, Option.map_some] at hcs
              generalize s.getD k 0 = x at hst hcg hsk
              generalize R.getD k 0 = y at hst hcs hrk
              have HST := Lib.hid hst
              have HL8 := Lib.hid hl8
              have HMB := Lib.hid hmb
              have HSB2 := Lib.hid hsb
              have k1 : (0 : Int) ≤ (k : Int) := by omega
              have k2 : (k : Int) < 8 := by omega
              clear hst hl8 hmb hsb hg1 hrg
              go_wp2
              refine wp_region_draw_last 13 _ rfl (by kernel_rfl) (by kernel_rfl) (by kernel_rfl) ?_
              simp only [List.take_succ_cons, List.take_zero]
              repeat (go_big_quiet_step (fail))
              refine wpQuiet_nil ?_
              rintro _ ⟨nq, rfl⟩
              go_wp2
              go_roundw
              case rel =>
                have h1 : Blk (wr.drewN nq) g 65 (nv X ++ bv b ++ [Value.int .u64 (L : Int)]) := HMB.out
                have h2 : Blk (wr.drewN nq) sN 62 (nv R) := HSB2.out
                have h3 : w.grownBy (wr.drewN nq) (some g) := ⟨hgr.os, hgr.tape, hgr.output, hgr.size, hgr.block⟩
                have hv : ∀ v : Int, v = (((x + y) % 4294967296 : Nat) : Int) → Blk ((wr.drewN nq).setCell ⟨g, k, none⟩ (Value.int .u32 v)) g 65 (nv ((List.zipWith (fun x y => (x + y) % 4294967296) s R).take (k + 1) ++ s.drop (k + 1)) ++ bv b ++ [Value.int .u64 (L : Int)]) := by
                  rintro _ rfl
                  have h4 := h1.set k (Value.int .u32 (((x + y) % 4294967296 : Nat) : Int))
                  rwa [List.append_assoc, List.set_append_left _ _ (by rw [nv_length, HL8.out]; exact hlt), nv_set, HST.out, ← List.append_assoc] at h4
                exact ⟨k + 1, by omega, by go_num, h3.trans (only_set _ _), hv _ (by omega), h2.keep (only_set _ _) (by simpa using hgs.symm)⟩
              case measure => simp [intOf]; omega
            · obtain rfl : k = 8 := by omega
              have e : (List.zipWith (fun x y => (x + y) % 4294967296) s R).take 8 ++ s.drop 8 = block s b := by
                rw [← HFIN.out, List.take_of_length_le (by simp [hs, HRL.out]), List.drop_eq_nil_of_le (by omega), List.append_nil]
              rw [e] at hmb
              clear e
              go_wp2
              go_end0
              exact ⟨rfl, hmb, hgr⟩
end
end Go.Proofs.Ytklljkfnlakdaaa

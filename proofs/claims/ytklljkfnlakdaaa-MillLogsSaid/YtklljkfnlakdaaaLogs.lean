/- MillLogs: for every input the law returns true. -/
import Derived.Test.YtklljkfnlakdaaaGoes
import Derived.Test.YtklljkfnlakdaaaLogMem
import Derived.Laws.Cover3
set_option linter.unusedVariables false
set_option linter.unusedSimpArgs false
set_option linter.unnecessarySimpa false
namespace Go.Proofs.Ytklljkfnlakdaaa
open Go.RowKit
open Go.Maps (Keyed IsMap Tidy)

set_option maxRecDepth 100000 in
set_option maxHeartbeats 4000000 in
theorem logs_walk (dv tv : Value) (ds ts : List (List UInt8)) (w : World) (F : Fp) (hd : (Ty.sl (.arr 32 .u8)).holds w F [dv] ds) (ht : (Ty.sl (.sl .u8)).holds w F [tv] ts) (hF : ∀ b, F b → b < w.heap.size) :
    Calls Try.prog 7 #[dv, tv] w fun e w' => e = .returned (.bool true) ∧ Ext w w' := by
  have HT0 := Lib.hid ht
  obtain ⟨AD, cD, xsD, hv, hlcD, hcD, hAD, hcellD, hallD⟩ := hd
  cases hv
  obtain ⟨AT, cT, xsT, hv, hlcT, hcT, hAT, hcellT, hallT⟩ := ht
  cases hv
  unfold maxLen at hcD hcT
  have hlz := log_zero
  obtain ⟨i4, hi4, hz4, hs4, hb4⟩ := info_parts arr4_info
  obtain ⟨iS, hiS, hzS, hsS, hbS⟩ := info_parts str_info
  go_enter Try.func7, Try.ntmps7
  go_wp2_with (first
    | ((with_reducible refine wpDst 5 rfl ?_); refine wpList_alloc _ rfl 49 rfl [.map none, .bool false] hlz ?_)
    | fail)
  have hS : LogsAt w (.slice none 0 0) (.slice none 0 0) false 0 (w.alloc (.cells #[.map none, .bool false] 49)) [] [] (.map []) none :=
    ⟨⟨(Ext.refl w).alloc _, Blk.new w _ _, rfl, Own.nil _ _ _, Own.nil _ _ _, by simp [Value.ownBlock], by simp [Value.ownBlock], by simp, Apart.nil _, by simp⟩, LogRel.nil, Nat.le_refl _⟩
  have HS := Lib.hid hS
  clear hS hlz
  generalize w.alloc (.cells #[.map none, .bool false] 49) = w1 at HS ⊢
  go_loopw [6, 7, 8, 18] (fun kv lv mv i wr => ∃ (k : Nat) (ks ls : List (List UInt8)) (D : DU) (mo : Option Nat) (met : Bool), k ≤ ds.length ∧ k ≤ 60 ∧ i = .int .i64 k ∧ mv = .bool met ∧ LogsAt w kv lv met k wr ks ls D mo) (fun _ _ _ i _ => ds.length - (intOf i).toNat)
  case atStart => exact ⟨0, [], [], .map [], none, false, by omega, by omega, rfl, rfl, HS.out⟩
  case round =>
    obtain ⟨k, ks, ls, D, mo, met, hk, hk60, rfl, rfl, hl⟩ := hrel
    obtain ⟨Ak, ck, rfl⟩ := hl.keys.form
    obtain ⟨Al, cl, rfl⟩ := hl.last.form
    have HL := Lib.hid hl
    clear hl HS
    by_cases hlt : k < ds.length
    · obtain ⟨adD, rfl, hfD, hcellsD⟩ := hcellD (by rintro rfl; simp at hlt)
      obtain ⟨hd32, hdb⟩ := hallD.elem hlt
      have hdc : Cells wr (adD.add (k * 32)) (bv ds[k]) := by
        have := ((hcellsD.keep (HL.out.ext.same hF _ hfD)).drop (k * 32)).take 32
        rw [← AllH.bytes.1 hdb]; exact this
      have HDC := Lib.hid hdc
      have HD32 := Lib.hid hd32
      clear hdc hdb hcellsD hd32
      by_cases hkt' : ts.length ≤ k
      · go_wp2_with (first
          | ((with_reducible refine wpDst 22 rfl ?_); refine wpList_load_agg _ rfl 24 _ rfl _ rfl (bv ds[k]) _ Try.underlying24 rfl (by rw [bv_length, HD32.out]; kernel_rfl) (by exact HDC.out) ?_)
          | ((with_reducible refine wpDst 10 rfl ?_); refine wpList_alloc _ rfl 24 rfl (bv (List.replicate 32 0)) arr32_zero ?_)
          | ((with_reducible refine wpSto 10 22 rfl ?_); refine wpList_storeN rfl 24 _ _ rfl _ rfl (bv (List.replicate 32 0)) (bv ds[k]) _ rfl rfl (by rw [bv_length, HD32.out]; kernel_rfl) (by rw [bv_length, HD32.out]; rfl) (bv_one _) ?_)
          | ((with_reducible refine wpDst 106 rfl ?_); refine wpList_build (.inl rfl) 25 _ rfl (.agg (bv (List.replicate 32 0)).toArray) (by kernel_rfl) ?_)
          | fail)
        refine (Note_nil _ _ _ rfl _).mono ?_
        rintro e w3 ⟨rfl, hx3⟩
        go_wp2_with fail
        refine (awake_true _).mono ?_
        rintro e w4 ⟨rfl, hx4⟩
        go_wp2_with fail
        refine (Met_nil _).mono ?_
        rintro e w5 ⟨rfl, rfl⟩
        go_wp2_with fail
        refine (Many_nil _).mono ?_
        rintro e w6 ⟨rfl, rfl⟩
        go_wp2
        go_ret
        exact ⟨rfl, (HL.out.ext.alloc _).trans (hx3.trans hx4)⟩
      have hkt : k < ts.length := by omega
      by_cases hk6 : 60 ≤ k
      · go_wp2_with (first
          | ((with_reducible refine wpDst 22 rfl ?_); refine wpList_load_agg _ rfl 24 _ rfl _ rfl (bv ds[k]) _ Try.underlying24 rfl (by rw [bv_length, HD32.out]; kernel_rfl) (by exact HDC.out) ?_)
          | ((with_reducible refine wpDst 10 rfl ?_); refine wpList_alloc _ rfl 24 rfl (bv (List.replicate 32 0)) arr32_zero ?_)
          | ((with_reducible refine wpSto 10 22 rfl ?_); refine wpList_storeN rfl 24 _ _ rfl _ rfl (bv (List.replicate 32 0)) (bv ds[k]) _ rfl rfl (by rw [bv_length, HD32.out]; kernel_rfl) (by rw [bv_length, HD32.out]; rfl) (bv_one _) ?_)
          | ((with_reducible refine wpDst 106 rfl ?_); refine wpList_build (.inl rfl) 25 _ rfl (.agg (bv (List.replicate 32 0)).toArray) (by kernel_rfl) ?_)
          | fail)
        refine (Note_nil _ _ _ rfl _).mono ?_
        rintro e w3 ⟨rfl, hx3⟩
        go_wp2_with fail
        refine (awake_true _).mono ?_
        rintro e w4 ⟨rfl, hx4⟩
        go_wp2_with fail
        refine (Met_nil _).mono ?_
        rintro e w5 ⟨rfl, rfl⟩
        go_wp2_with fail
        refine (Many_nil _).mono ?_
        rintro e w6 ⟨rfl, rfl⟩
        go_wp2
        go_ret
        exact ⟨rfl, (HL.out.ext.alloc _).trans (hx3.trans hx4)⟩
      obtain ⟨adT, rfl, hfT, hcellsT⟩ := hcellT (by rintro rfl; simp at hkt)
      obtain ⟨y, hy, hyh⟩ := AllH.sl_at hallT hkt
      have hcx := (hcellsT.keep (HL.out.ext.same hF _ hfT)) k _ hy
      have hyr := HL.out.ext.holds hF hyh
      have hyr0 := hyr
      obtain ⟨A1, c1, xs1, hv1, hlc1, hc1, _⟩ := hyh
      cases hv1
      unfold maxLen at hc1
      have hcx2 : (wr.alloc (.cells (bv ds[k]).toArray 24)).cell? (adT.add k) = some (.slice A1 ts[k].length c1) :=
        (World.cell?_of_block (by rw [add_block]; exact Below.heap_alloc _ _ _ (Nat.lt_of_lt_of_le (hF _ hfT) HL.out.ext.size))).trans hcx
      have HY := Lib.hid hyr
      clear hyr hyr0 hy
      by_cases h5 : 500 < ts[k].length
      · go_wp2_with (first
          | ((with_reducible refine wpDst 22 rfl ?_); refine wpList_load_agg _ rfl 24 _ rfl _ rfl (bv ds[k]) _ Try.underlying24 rfl (by rw [bv_length, HD32.out]; kernel_rfl) (by exact HDC.out) ?_)
          | ((with_reducible refine wpDst 10 rfl ?_); refine wpList_alloc _ rfl 24 rfl (bv (List.replicate 32 0)) arr32_zero ?_)
          | ((with_reducible refine wpSto 10 22 rfl ?_); refine wpList_storeN rfl 24 _ _ rfl _ rfl (bv (List.replicate 32 0)) (bv ds[k]) _ rfl rfl (by rw [bv_length, HD32.out]; kernel_rfl) (by rw [bv_length, HD32.out]; rfl) (bv_one _) ?_)
          | ((with_reducible refine wpDst 106 rfl ?_); refine wpList_build (.inl rfl) 25 _ rfl (.agg (bv (List.replicate 32 0)).toArray) (by kernel_rfl) ?_)
          | fail)
        refine (Note_nil _ _ _ rfl _).mono ?_
        rintro e w3 ⟨rfl, hx3⟩
        go_wp2_with fail
        refine (awake_true _).mono ?_
        rintro e w4 ⟨rfl, hx4⟩
        go_wp2_with fail
        refine (Met_nil _).mono ?_
        rintro e w5 ⟨rfl, rfl⟩
        go_wp2_with fail
        refine (Many_nil _).mono ?_
        rintro e w6 ⟨rfl, rfl⟩
        go_wp2
        go_ret
        exact ⟨rfl, (HL.out.ext.alloc _).trans (hx3.trans hx4)⟩
      have hd4 : (ds[k].take 4).length = 4 := by have := HD32.out; simp; omega
      have hat4 : ∀ (a : Option Addr) (w : World), (Instr.arrayAt 52 (.slice a 4 32)).run Try.prog w = .ok (.pointer a) w := fun a w => run_arrayAt w _ 5 4 a 4 32 Try.underlying52 (by omega)
      have h4c : Cells (wr.alloc (.cells (bv ds[k]).toArray 24)) ⟨wr.heap.size, 0, none⟩ (bv (ds[k].take 4)) := by have := (Blk.new wr 24 (bv ds[k])).cells.take 4; unfold bv at this ⊢; rwa [List.map_take]
      have H4C := Lib.hid h4c
      have HD4 := Lib.hid hd4
      clear h4c hd4
      go_wp2_with (first
        | ((with_reducible refine wpDst 22 rfl ?_); refine wpList_load_agg _ rfl 24 _ rfl _ rfl (bv ds[k]) _ Try.underlying24 rfl (by rw [bv_length, HD32.out]; kernel_rfl) (by exact HDC.out) ?_)
        | ((with_reducible refine wpDst 10 rfl ?_); refine wpList_alloc _ rfl 24 rfl (bv (List.replicate 32 0)) arr32_zero ?_)
        | ((with_reducible refine wpSto 10 22 rfl ?_); refine wpList_storeN rfl 24 _ _ rfl _ rfl (bv (List.replicate 32 0)) (bv ds[k]) _ rfl rfl (by rw [bv_length, HD32.out]; kernel_rfl) (by rw [bv_length, HD32.out]; rfl) (bv_one _) ?_)
        | ((with_reducible refine wpDst 106 rfl ?_); refine wpList_build (.inl rfl) 25 _ rfl (.agg (bv (List.replicate 32 0)).toArray) (by kernel_rfl) ?_)
        | ((with_reducible refine wpDst 41 rfl ?_); refine wpList_load_agg _ rfl 52 _ rfl _ rfl (bv (ds[k].take 4)) _ Try.underlying52 rfl (by rw [bv_length, HD4.out]; kernel_rfl) (by exact H4C.out) ?_)
        | ((with_reducible refine wpDst 11 rfl ?_); refine wpList_alloc _ rfl 52 rfl (bv (List.replicate 4 0)) arr4_zero ?_)
        | ((with_reducible refine wpSto 11 41 rfl ?_); refine wpList_storeN rfl 52 _ _ rfl _ rfl (bv (List.replicate 4 0)) (bv (ds[k].take 4)) _ rfl rfl (by rw [bv_length, HD4.out]; kernel_rfl) (by rw [bv_length, HD4.out]; rfl) (bv_one _) ?_)
        | fail)
      have hxI : Ext wr ((wr.alloc (.cells (bv ds[k]).toArray 24)).alloc (.cells (bv (ds[k].take 4)).toArray 52)) := ((Ext.refl wr).alloc _).alloc _
      have hlI := HL.out.later hxI
      have hbd : Blk ((wr.alloc (.cells (bv ds[k]).toArray 24)).alloc (.cells (bv (ds[k].take 4)).toArray 52)) wr.heap.size 24 (bv ds[k]) := (Blk.new wr _ _).keep (World.grownBy_alloc _ _ none) (by simp)
      have hbk : Blk ((wr.alloc (.cells (bv ds[k]).toArray 24)).alloc (.cells (bv (ds[k].take 4)).toArray 52)) (wr.heap.size + 1) 52 (bv (ds[k].take 4)) := by
        have := Blk.new (wr.alloc (.cells (bv ds[k]).toArray 24)) 52 (bv (ds[k].take 4))
        simpa using this
      have hyI := hxI.holds (fun b hb => Nat.lt_of_lt_of_le (hF b hb) HL.out.ext.size) HY.out
      have HYI := Lib.hid hyI
      have HKL := Lib.hid (show (∀ b, (Value.slice Ak ks.length ck).ownBlock = some b → b < wr.heap.size) ∧ (∀ b, (Value.slice Al ls.length cl).ownBlock = some b → b < wr.heap.size) from ⟨fun b e => (World.ownsRow.lt HL.out.keys b e).2, fun b e => (World.ownsRow.lt HL.out.last b e).2⟩)
      have HLI := Lib.hid hlI
      have HBD := Lib.hid hbd
      have HBK := Lib.hid hbk
      have HSZ := Lib.hid HL.out.ext.size
      have hcI : ((wr.alloc (.cells (bv ds[k]).toArray 24)).alloc (.cells (bv (ds[k].take 4)).toArray 52)).cell? (adT.add k) = some (.slice A1 ts[k].length c1) := (World.cell?_of_block (by rw [add_block]; exact Below.heap_alloc _ _ _ (by simp; have := hF _ hfT; have := HL.out.ext.size; omega))).trans hcx2
      have HCI := Lib.hid hcI
      clear hlI hbd hbk hxI hcx hcx2 HL HDC H4C hat4 hyI hcI HY
      generalize (wr.alloc (.cells (bv ds[k]).toArray 24)).alloc (.cells (bv (ds[k].take 4)).toArray 52) = WI at HLI HBD HBK HYI HCI ⊢
      generalize wr.heap.size = gd at HBD HBK HSZ HKL ⊢
      have hfew := HLI.out.few
      go_loopw [12, 44] (fun av j wr => ∃ q : Nat, q ≤ ks.length ∧ j = .int .i64 q ∧ Ext WI wr ∧ AtRel ks (ds[k].take 4) q av) (fun _ j _ => ks.length - (intOf j).toNat)
      case atStart => exact ⟨0, by omega, rfl, Ext.refl _, AtRel.zero _ _⟩
      case round =>
        obtain ⟨q, hq, rfl, hxq, hat⟩ := hrel
        have HAT := Lib.hid hat
        clear hat
        by_cases hql : q < ks.length
        · obtain ⟨adk, rfl, hck⟩ := own_src HLI.out.keys (by omega)
          have hcq : Cells wr (adk.add (q * 4)) (bv ks[q]) := by
            have := ((hck.keep (hxq.block _ (hck.lt (by have := HLI.out.rel.four; intro e; have := flat_part ks q hql this; rw [e] at this; have h2 := congrArg List.length this; simp at h2; have := HLI.out.rel.four ks[q] (List.getElem_mem _); omega)) (by simp))).drop (q * 4)).take 4
            rwa [flat_part ks q hql HLI.out.rel.four] at this
          have hkq := HLI.out.rel.four ks[q] (List.getElem_mem _)
          have hb11 := HBK.out.keep hxq (by simp)
          have hb11l := hb11.lt
          have HCQ := Lib.hid hcq
          have HKQ := Lib.hid hkq
          have H11 := Lib.hid hb11
          clear hcq hkq hb11 hck
          have hgt : Try.prog.eqGuardType Try.prog.depth 52 = false := by kernel_rfl
          have hu8 : (Try.prog.info? 5).map (·.size) = some 1 := by kernel_rfl
          generalize hX : ks[q] = X at HCQ HKQ ⊢
          have HX := Lib.hid hX
          clear hX
          cases hE : (X == ds[k].take 4)
          · have HNE := Lib.hid (show ¬ X = ds[k].take 4 by simpa using hE)
            go_wp2_with (first
              | ((with_reducible refine wpDst 48 rfl ?_); refine wpList_load_agg _ rfl 52 _ rfl _ rfl (bv X) _ Try.underlying52 rfl (by rw [bv_length, HKQ.out]; kernel_rfl) (by exact HCQ.out) ?_)
              | ((with_reducible refine wpDst 14 rfl ?_); refine wpList_alloc _ rfl 52 rfl (bv (List.replicate 4 0)) arr4_zero ?_)
              | ((with_reducible refine wpSto 14 48 rfl ?_); refine wpList_storeN rfl 52 _ _ rfl _ rfl (bv (List.replicate 4 0)) (bv X) _ rfl rfl (by rw [bv_length, HKQ.out]; kernel_rfl) (by rw [bv_length, HKQ.out]; rfl) (bv_one _) ?_)
              | ((with_reducible refine wpDst 49 rfl ?_); refine wpList_load_agg _ rfl 52 _ rfl _ rfl (bv X) _ Try.underlying52 rfl (by rw [bv_length, HKQ.out]; kernel_rfl) (by exact (Blk.new _ _ _).cells) ?_)
              | ((with_reducible refine wpDst 50 rfl ?_); refine wpList_load_agg _ rfl 52 _ rfl _ rfl (bv (ds[k].take 4)) _ Try.underlying52 rfl (by rw [bv_length, HD4.out]; kernel_rfl) (by exact (H11.out.keep (World.grownBy_alloc _ _ none) (by simp)).cells) ?_)
              | ((with_reducible refine wpDst 51 rfl ?_); refine wpList_eqD _ (.inl rfl) 52 _ (.tmp 49) (.tmp 50) rfl 5 4 Try.underlying52 Try.underlying5 hu8 hgt X (ds[k].take 4) rfl rfl HKQ.out HD4.out ?_; (with_reducible rw [hE]))
              | fail)
            go_roundw
            case rel => exact ⟨q + 1, by omega, by go_num, hxq.alloc _, HAT.out.miss (by rw [List.getElem?_eq_getElem hql, HX.out]; simpa using HNE.out)⟩
            case measure => simp [intOf]; omega
          · have HEQ := Lib.hid (show X = ds[k].take 4 by simpa using hE)
            go_wp2_with (first
              | ((with_reducible refine wpDst 48 rfl ?_); refine wpList_load_agg _ rfl 52 _ rfl _ rfl (bv X) _ Try.underlying52 rfl (by rw [bv_length, HKQ.out]; kernel_rfl) (by exact HCQ.out) ?_)
              | ((with_reducible refine wpDst 14 rfl ?_); refine wpList_alloc _ rfl 52 rfl (bv (List.replicate 4 0)) arr4_zero ?_)
              | ((with_reducible refine wpSto 14 48 rfl ?_); refine wpList_storeN rfl 52 _ _ rfl _ rfl (bv (List.replicate 4 0)) (bv X) _ rfl rfl (by rw [bv_length, HKQ.out]; kernel_rfl) (by rw [bv_length, HKQ.out]; rfl) (bv_one _) ?_)
              | ((with_reducible refine wpDst 49 rfl ?_); refine wpList_load_agg _ rfl 52 _ rfl _ rfl (bv X) _ Try.underlying52 rfl (by rw [bv_length, HKQ.out]; kernel_rfl) (by exact (Blk.new _ _ _).cells) ?_)
              | ((with_reducible refine wpDst 50 rfl ?_); refine wpList_load_agg _ rfl 52 _ rfl _ rfl (bv (ds[k].take 4)) _ Try.underlying52 rfl (by rw [bv_length, HD4.out]; kernel_rfl) (by exact (H11.out.keep (World.grownBy_alloc _ _ none) (by simp)).cells) ?_)
              | ((with_reducible refine wpDst 51 rfl ?_); refine wpList_eqD _ (.inl rfl) 52 _ (.tmp 49) (.tmp 50) rfl 5 4 Try.underlying52 Try.underlying5 hu8 hgt X (ds[k].take 4) rfl rfl HKQ.out HD4.out ?_; (with_reducible rw [hE]))
              | fail)
            go_roundw
            case rel => exact ⟨q + 1, by omega, by go_num, hxq.alloc _, AtRel.hit (by rw [List.getElem?_eq_getElem hql, HX.out, HEQ.out])⟩
            case measure => simp [intOf]; omega
        · obtain rfl : q = ks.length := by omega
          have hl := HLI.out.later hxq
          have hbd := HBD.out.keep hxq (by simp)
          have hbk := HBK.out.keep hxq (by simp)
          have hy1 := hxq.holds (fun b hb => Nat.lt_of_lt_of_le (hF b hb) HLI.out.ext.size) HYI.out
          have hc1' : wr.cell? (adT.add k) = some (.slice A1 ts[k].length c1) := (World.cell?_of_block (by rw [add_block]; exact hxq.block _ (Nat.lt_of_lt_of_le (hF _ hfT) HLI.out.ext.size) (by simp))).trans HCI.out
          have HLW := Lib.hid hl
          have HBDW := Lib.hid hbd
          have HBKW := Lib.hid hbk
          have HYW := Lib.hid hy1
          have HCW := Lib.hid hc1'
          have HT5 := Lib.hid (show ts[k].length ≤ 500 by omega)
          clear hl hbd hbk hy1 hc1' HLI HBD HBK HYI HCI hxq
          generalize ds[k] = d at HD32 HD4 HBDW HBKW HAT ⊢
          generalize ts[k] = t at HYW HCW HT5 hlc1 hc1 ⊢
          clear h5 hk6
          rcases HAT.out with ⟨rfl, hno⟩ | ⟨i, hi, rfl, hik⟩
          · have HNO := Lib.hid (show d.take 4 ∉ ks by
              intro hm
              obtain ⟨j, hj, he⟩ := List.getElem_of_mem hm
              exact hno j hj (by rw [List.getElem?_eq_getElem hj, he]))
            clear hno HAT
            go_wp2_with fail
            have HLEN := Lib.hid HLW.out.rel.len
            have hxd : Ext wr wr.drew := (Ext.refl wr).drew
            have HLZ := Lib.hid (HLW.out.later hxd)
            have HBKZ := Lib.hid (HBKW.out.keep hxd (by simp))
            have HBDZ := Lib.hid (HBDW.out.keep hxd (by simp))
            have HYZ := Lib.hid (hxd.holds (fun b hb => Nat.lt_of_lt_of_le (hF b hb) HLW.out.ext.size) HYW.out)
            have HCZ := Lib.hid (show wr.drew.cell? (adT.add k) = some (.slice A1 t.length c1) from (World.cell?_of_block (by rw [add_block]; exact hxd.block _ (Nat.lt_of_lt_of_le (hF _ hfT) HLW.out.ext.size) (by simp))).trans HCW.out)
            clear HLW HBKW HBDW HYW HCW hxd
            refine startM (KeepB fun b => F b ∨ b = gd + 1) (by kernel_rfl) ?_
            (try simp only [Act.put, List.setIfInBounds_toArray, List.set_cons_succ, List.set_cons_zero])
            generalize wr.drew = w0 at HLZ HBKZ HBDZ HYZ HCZ ⊢
            have HB := Lib.hid (show ∀ g, (F g ∨ g = gd + 1) → g < w0.heap.size ∧ (Value.slice Ak ks.length ck).ownBlock ≠ some g ∧ (Value.slice Al ls.length cl).ownBlock ≠ some g by
              rintro g (hg | rfl)
              · have h1 := hF g hg
                exact ⟨Nat.lt_of_lt_of_le h1 HLZ.out.ext.size, fun e => by have := HLZ.out.kg g e; omega, fun e => by have := HLZ.out.lg g e; omega⟩
              · exact ⟨HBKZ.out.lt, fun e => by have := HKL.out.1 _ e; omega, fun e => by have := HKL.out.2 _ e; omega⟩)
            have HJ := Lib.hid (TA.start (y1 := bv (d.take 4)) (y2 := sv [t]) HLZ.out.keys HLZ.out.last HLZ.out.apart)
            refine takeK 0 rfl (by kernel_rfl) (by kernel_rfl) (by kernel_rfl) rfl (fun _ _ _ _ h => h) rfl (fun K hK => ?_)
            go_big_quiet_op
            first | refine hK _ ?_ | refine ⟨_, fun _ _ => rfl, hK _ ?_⟩
            clear hK K
            refine takeK 1 rfl (by kernel_rfl) (by kernel_rfl) (by kernel_rfl) rfl (fun _ _ _ _ h => h) rfl (fun K hK => ?_)
            refine quiet_agg 52 _ rfl _ rfl (bv (d.take 4)) _ Try.underlying52 rfl (by rw [bv_length, HD4.out]; kernel_rfl) (fun W' h => h.cells HBKZ.out.cells (.inr rfl)) ?_
            refine hK _ ?_
            simp only [Act.put, List.setIfInBounds_toArray, List.set_cons_succ, List.set_cons_zero]
            clear hK K
            refine takeK 4 rfl (by kernel_rfl) (by kernel_rfl) (by kernel_rfl) rfl (fun _ _ _ _ h => h) rfl (fun K hK => ?_)
            go_big_quiet_op
            first | refine hK _ ?_ | refine ⟨_, fun _ _ => rfl, hK _ ?_⟩
            clear hK K
            refine takeK 5 rfl (by kernel_rfl) (by kernel_rfl) (by kernel_rfl) rfl (fun _ _ _ _ h => h) rfl (fun K hK => ?_)
            go_big_quiet_op
            first | refine hK _ ?_ | refine ⟨_, fun _ _ => rfl, hK _ ?_⟩
            clear hK K
            refine takeK 6 rfl (by kernel_rfl) (by kernel_rfl) (by kernel_rfl) rfl (fun _ _ _ _ h => h) rfl (fun K hK => ?_)
            go_big_quiet_op
            first | refine hK _ ?_ | refine ⟨_, fun _ _ => rfl, hK _ ?_⟩
            clear hK K
            refine takeK 7 rfl (by kernel_rfl) (by kernel_rfl) (by kernel_rfl) rfl (fun _ _ _ _ h => h) rfl (fun K hK => ?_)
            go_big_quiet_op
            first | refine hK _ ?_ | refine ⟨_, fun _ _ => rfl, hK _ ?_⟩
            clear hK K
            refine takeK 8 rfl (by kernel_rfl) (by kernel_rfl) (by kernel_rfl) rfl (fun _ _ _ _ h => h) rfl (fun K hK => ?_)
            refine quiet_cell _ _ rfl _ rfl _ _ Try.underlying22 rfl (fun W' h => KeepB.cell h HCZ.out (.inl (by rw [add_block]; exact hfT))) ?_
            refine hK _ ?_
            simp only [Act.put, List.setIfInBounds_toArray, List.set_cons_succ, List.set_cons_zero]
            clear hK K
            refine takeK 9 rfl (by kernel_rfl) (by kernel_rfl) (by kernel_rfl) rfl (fun _ _ _ _ h => h) rfl (fun K hK => ?_)
            refine quiet_str 22 9 _ rfl 5 Try.underlying22 Try.underlying5 Try.underlying9 A1 _ c1 t rfl rfl (fun W' h => src_bytes (Ty.keep (fun b hb => h b (.inl hb)) (fun _ h => h) _ HYZ.out)) ?_
            refine hK _ ?_
            simp only [Act.put, List.setIfInBounds_toArray, List.set_cons_succ, List.set_cons_zero]
            clear hK K
            apply sharedT (fun v58 v59 v66 W => TA w0 52 4 (.slice Ak ks.length ck) ks.length (ks.flatMap bv) (bv (d.take 4)) 9 1 (.slice Al ls.length cl) ls.length (sv ls) (sv [t]) (some v58) (some v59) (some v66) none W)
            · intro hM
              refine bothM 2 10 rfl rfl (by kernel_rfl) rfl rfl (fun K hK => ?_) (fun K hK => ?_)
              · refine wp_ta_a HJ.out (fun g hg => (HB.out g hg).1) 50 _ rfl _ Try.underlying50 rfl rfl (by rw [bv_length, HD4.out]; kernel_rfl) (by kernel_rfl) (by rw [bv_length, HD4.out]; decide) (by rw [bv_length, HD4.out]; decide) ?_
                intro v58 W58 hJ hkb
                have HJ := Lib.hid hJ
                clear hJ
                refine hK _ _ (hkb) ?_
                clear hK K
                (try simp only [Act.put, List.setIfInBounds_toArray, List.set_cons_succ, List.set_cons_zero])
                refine bothM 3 10 rfl rfl (by kernel_rfl) rfl rfl (fun K hK => ?_) (fun K hK => ?_)
                · refine wp_ta_v HJ.out (fun g hg => ⟨(HB.out g hg).1, (HB.out g hg).2.1⟩) _ _ 50 rfl i4 _ 4 Try.underlying50 hi4 hz4 hs4 hb4 rfl (by decide) rfl rfl (by rw [bv_length, HD4.out]) (bv_one _) (by unfold maxLen; omega) (by omega) ?_
                  intro v59 W59 hJ hkb
                  have HJ := Lib.hid hJ
                  clear hJ
                  refine hK _ _ (hkb) ?_
                  clear hK K
                  (try simp only [Act.put, List.setIfInBounds_toArray, List.set_cons_succ, List.set_cons_zero])
                  refine stepM 10 rfl (by kernel_rfl) rfl (fun K hK => ?_)
                  refine wp_ta_b HJ.out (fun g hg => (HB.out g hg).1) 51 _ rfl _ Try.underlying51 rfl rfl (by kernel_rfl) (by kernel_rfl) (by simp [sv]) (by simp [sv]) ?_
                  intro v66 W66 hJ hkb
                  have HJ := Lib.hid hJ
                  clear hJ
                  refine hK _ _ (hkb) ?_
                  clear hK K
                  (try simp only [Act.put, List.setIfInBounds_toArray, List.set_cons_succ, List.set_cons_zero])
                  exact hM v58 v59 v66 _ HJ.out
                · refine wp_ta_b HJ.out (fun g hg => (HB.out g hg).1) 51 _ rfl _ Try.underlying51 rfl rfl (by kernel_rfl) (by kernel_rfl) (by simp [sv]) (by simp [sv]) ?_
                  intro v66 W66 hJ hkb
                  have HJ := Lib.hid hJ
                  clear hJ
                  refine hK _ _ (hkb) ?_
                  clear hK K
                  (try simp only [Act.put, List.setIfInBounds_toArray, List.set_cons_succ, List.set_cons_zero])
                  refine stepM 3 rfl (by kernel_rfl) rfl (fun K hK => ?_)
                  refine wp_ta_v HJ.out (fun g hg => ⟨(HB.out g hg).1, (HB.out g hg).2.1⟩) _ _ 50 rfl i4 _ 4 Try.underlying50 hi4 hz4 hs4 hb4 rfl (by decide) rfl rfl (by rw [bv_length, HD4.out]) (bv_one _) (by unfold maxLen; omega) (by omega) ?_
                  intro v59 W59 hJ hkb
                  have HJ := Lib.hid hJ
                  clear hJ
                  refine hK _ _ (hkb) ?_
                  clear hK K
                  (try simp only [Act.put, List.setIfInBounds_toArray, List.set_cons_succ, List.set_cons_zero])
                  refine relist (by kernel_rfl) (hM v58 v59 v66 _ HJ.out)
              · refine wp_ta_b HJ.out (fun g hg => (HB.out g hg).1) 51 _ rfl _ Try.underlying51 rfl rfl (by kernel_rfl) (by kernel_rfl) (by simp [sv]) (by simp [sv]) ?_
                intro v66 W66 hJ hkb
                have HJ := Lib.hid hJ
                clear hJ
                refine hK _ _ (hkb) ?_
                clear hK K
                (try simp only [Act.put, List.setIfInBounds_toArray, List.set_cons_succ, List.set_cons_zero])
                refine stepM 2 rfl (by kernel_rfl) rfl (fun K hK => ?_)
                refine wp_ta_a HJ.out (fun g hg => (HB.out g hg).1) 50 _ rfl _ Try.underlying50 rfl rfl (by rw [bv_length, HD4.out]; kernel_rfl) (by kernel_rfl) (by rw [bv_length, HD4.out]; decide) (by rw [bv_length, HD4.out]; decide) ?_
                intro v58 W58 hJ hkb
                have HJ := Lib.hid hJ
                clear hJ
                refine hK _ _ (hkb) ?_
                clear hK K
                (try simp only [Act.put, List.setIfInBounds_toArray, List.set_cons_succ, List.set_cons_zero])
                refine stepM 3 rfl (by kernel_rfl) rfl (fun K hK => ?_)
                refine wp_ta_v HJ.out (fun g hg => ⟨(HB.out g hg).1, (HB.out g hg).2.1⟩) _ _ 50 rfl i4 _ 4 Try.underlying50 hi4 hz4 hs4 hb4 rfl (by decide) rfl rfl (by rw [bv_length, HD4.out]) (bv_one _) (by unfold maxLen; omega) (by omega) ?_
                intro v59 W59 hJ hkb
                have HJ := Lib.hid hJ
                clear hJ
                refine hK _ _ (hkb) ?_
                clear hK K
                (try simp only [Act.put, List.setIfInBounds_toArray, List.set_cons_succ, List.set_cons_zero])
                refine relist (by kernel_rfl) (hM v58 v59 v66 _ HJ.out)
            intro v58 v59 v66 W hJ
            have HJ := Lib.hid hJ
            clear hJ
            refine stepM 11 rfl (by kernel_rfl) rfl (fun K hK => ?_)
            refine wp_ta_u HJ.out (fun g hg => ⟨(HB.out g hg).1, (HB.out g hg).2.2⟩) _ _ 51 rfl iS _ 16 Try.underlying51 hiS hzS hsS hbS rfl (by decide) rfl rfl rfl (by simp [sv, Value.oneCell']) (by have := HLEN.out; unfold maxLen; omega) (by have := HLEN.out; omega) ?_
            intro v67 W67 hJ hkb
            have HJ := Lib.hid hJ
            clear hJ
            refine hK _ _ (hkb) ?_
            clear hK K
            (try simp only [Act.put, List.setIfInBounds_toArray, List.set_cons_succ, List.set_cons_zero])
            refine takeK 12 rfl (by kernel_rfl) (by kernel_rfl) (by kernel_rfl) rfl (fun _ _ _ _ h => h) rfl (fun K hK => ?_)
            go_big_quiet_op
            first | refine hK _ ?_ | refine ⟨_, fun _ _ => rfl, hK _ ?_⟩
            clear hK K
            refine takeK 13 rfl (by kernel_rfl) (by kernel_rfl) (by kernel_rfl) rfl (fun _ _ _ _ h => h) rfl (fun K hK => ?_)
            go_big_quiet_op
            first | refine hK _ ?_ | refine ⟨_, fun _ _ => rfl, hK _ ?_⟩
            clear hK K
            refine doneM (by kernel_rfl) ?_ _
            have HMM := Lib.hid (HLZ.out.toLogsMem.added HJ.out)
            have hkeep : ∀ g, g < w0.heap.size → (Value.slice Ak ks.length ck).ownBlock ≠ some g → (Value.slice Al ls.length cl).ownBlock ≠ some g → W67.heap[g]? = w0.heap[g]? := fun g h1 h2 h3 => HJ.out.keep.block g h1 (by rintro (e | e); exact h2 e; exact h3 e)
            have HBDN := Lib.hid (show Blk W67 gd 24 (bv d) from (hkeep gd HBDZ.out.lt (fun e => by have := HKL.out.1 _ e; omega) (fun e => by have := HKL.out.2 _ e; omega)).trans HBDZ.out)
            have hFk : ∀ b, F b → W67.heap[b]? = w0.heap[b]? := fun b hb => hkeep b (HB.out b (.inl hb)).1 (HB.out b (.inl hb)).2.1 (HB.out b (.inl hb)).2.2
            have HYN := Lib.hid (Ty.keep (t := .sl .u8) hFk (fun _ h => h) HYZ.out)
            have HCN := Lib.hid (show W67.cell? (adT.add k) = some (.slice A1 t.length c1) from (World.cell?_of_block (by rw [add_block]; exact hFk _ hfT)).trans HCZ.out)
            have HRN := Lib.hid (HLZ.out.rel.new d t (by have := HD32.out; omega) HNO.out)
            have HMN := Lib.hid (fun s (_ : D.atKey (klit d) (slit []) = slit s) => HLZ.out.rel.met_new d t s met (by have := HD32.out; omega) HNO.out)
            have HFN := Lib.hid (show (ks ++ [d.take 4]).length ≤ k + 1 by simp; exact HLZ.out.few)
            obtain ⟨A59, c59, rfl⟩ := HMM.out.keys.form
            obtain ⟨A67, c67, rfl⟩ := HMM.out.last.form
            clear HLZ HBKZ HBDZ HYZ HCZ HB HJ hkeep hFk HLEN HNO
            generalize ks ++ [d.take 4] = ks' at HMM HRN HFN ⊢
            generalize ls ++ [t] = ls' at HMM HRN ⊢
            generalize W67 = W at *
            go_wp2_with fail
            refine wp_region_draw_tail 5 (by kernel_rfl) (by kernel_rfl) (by kernel_rfl) ?_
            simp only [List.take_succ_cons, List.take_zero, List.drop_succ_cons, List.drop_zero]
            go_big_quiet_want
            refine quiet_agg 24 _ rfl _ rfl (bv d) _ Try.underlying24 rfl (by rw [bv_length, HD32.out]; kernel_rfl) (fun W' h => by obtain ⟨nq, rfl⟩ := h; exact HBDN.out.cells) ?_
            simp only [Act.put, List.setIfInBounds_toArray, List.set_cons_succ, List.set_cons_zero]
            go_big_quiet_on
            repeat (go_big_quiet_step (fail))
            go_big_quiet_want
            refine quiet_cell _ _ rfl _ rfl _ _ Try.underlying22 rfl (fun W' h => by obtain ⟨nq, rfl⟩ := h; exact HCN.out) ?_
            simp only [Act.put, List.setIfInBounds_toArray, List.set_cons_succ, List.set_cons_zero]
            go_big_quiet_on
            refine wpQuiet_nil ?_
            rintro _ ⟨nq, rfl⟩
            have hxn : Ext W (W.drewN nq) := (Ext.refl W).drewN nq
            have HMZ := Lib.hid (HMM.out.later hxn)
            have HYM := Lib.hid (hxn.holds (fun b hb => Nat.lt_of_lt_of_le (hF b hb) HMM.out.ext.size) HYN.out)
            clear HMM HYN HBDN HCN hxn
            generalize W.drewN nq = W at HMZ HYM ⊢
            have hk60' : k < 60 := by omega
            go_wp2_with fail
            refine (Note_any HMZ.out d t _ F HD32.out (by omega) HYM.out hF (by have := HT5.out; omega)).mono ?_
            rintro e W2 ⟨rfl, b, hb, hnd⟩
            have HMW := Lib.hid (HMZ.out.noted hb hnd HMN.out)
            clear HMZ HYM hb hnd HMN
            have hsz := HRN.out.size
            go_wp2_with fail
            refine (Met_at _ _ _ _ HMW.out.log).mono ?_
            rintro e W3 ⟨rfl, rfl⟩
            have hne : (met != met) = false := by simp
            go_wp2_with fail
            refine (Many_at _ _ _ _ _ _ HMW.out.log HMW.out.map_).mono ?_
            rintro e W3 ⟨rfl, rfl⟩
            rw [hsz]
            go_wp2_with fail
            go_roundw
            case rel => exact ⟨k + 1, _, _, _, _, _, by omega, by omega, by go_num, rfl, ⟨HMW.out, HRN.out, HFN.out⟩⟩
            case measure => simp [intOf]; omega
          · have HIK := Lib.hid hik
            clear hik HAT
            go_wp2_with fail
            have HLEN := Lib.hid HLW.out.rel.len
            obtain ⟨hik1, hik2⟩ := List.getElem?_eq_some_iff.1 HIK.out
            have hil : i < ls.length := by have := HLEN.out; omega
            have HIK2 := Lib.hid hik2
            clear hik2
            obtain ⟨gl, cl', hf, _, hgl⟩ := World.ownsRow.form HLW.out.last (by omega)
            cases hf
            have hxd : Ext wr wr.drew := (Ext.refl wr).drew
            have HLZ := Lib.hid (HLW.out.later hxd)
            have HBDZ := Lib.hid (HBDW.out.keep hxd (by simp))
            have HYZ := Lib.hid (hxd.holds (fun b hb => Nat.lt_of_lt_of_le (hF b hb) HLW.out.ext.size) HYW.out)
            have HCZ := Lib.hid (show wr.drew.cell? (adT.add k) = some (.slice A1 t.length c1) from (World.cell?_of_block (by rw [add_block]; exact hxd.block _ (Nat.lt_of_lt_of_le (hF _ hfT) HLW.out.ext.size) (by simp))).trans HCW.out)
            clear HLW HBKW HBDW HYW HCW hxd hgl HIK
            generalize hw0 : wr.drew = w0 at HLZ HBDZ HYZ HCZ ⊢
            have HW0 := Lib.hid hw0
            clear hw0
            have hcl : ∀ W', Ext w0 W' → W'.cell? ⟨gl, i, none⟩ = some (.string (strOf ls[i])) := fun W' h => by
              have := World.ownsRow.cellAt (h := (HLZ.out.last.ext h)) i (by omega)
              rw [this]; simp [sv, hil]
            have HCL := Lib.hid hcl
            clear hcl
            have hg1 : w.heap.size < gl := HLZ.out.lg gl rfl
            have hg2 : gl < gd := HKL.out.2 gl rfl
            cases met
            · have HMV := Lib.hid (show ∀ s, D.atKey (klit d) (slit []) = slit s → metN D d t false s = (!(strOf ls[i]).toList == (strOf t).toList) from fun s hs => by
                rw [HLZ.out.rel.met_old d t s false (by have := HD32.out; omega) i hik1 hil HIK2.out hs]; simp [strOf_toList])
              refine startM Since (by kernel_rfl) ?_
              (try simp only [Act.put, List.setIfInBounds_toArray, List.set_cons_succ, List.set_cons_zero])
              rw [HW0.out]
              clear HW0
              refine takeE 0 rfl (by kernel_rfl) (by kernel_rfl) (by kernel_rfl) rfl (fun _ _ _ _ h => h) rfl (fun K hK => ?_)
              go_big_quiet_op
              first | refine hK _ ?_ | refine ⟨_, fun _ _ => rfl, hK _ ?_⟩
              clear hK K
              refine takeE 1 rfl (by kernel_rfl) (by kernel_rfl) (by kernel_rfl) rfl (fun _ _ _ _ h => h) rfl (fun K hK => ?_)
              go_big_quiet_op
              first | refine hK _ ?_ | refine ⟨_, fun _ _ => rfl, hK _ ?_⟩
              clear hK K
              refine takeE 2 rfl (by kernel_rfl) (by kernel_rfl) (by kernel_rfl) rfl (fun _ _ _ _ h => h) rfl (fun K hK => ?_)
              go_big_quiet_op
              first | refine hK _ ?_ | refine ⟨_, fun _ _ => rfl, hK _ ?_⟩
              clear hK K
              refine takeE 3 rfl (by kernel_rfl) (by kernel_rfl) (by kernel_rfl) rfl (fun _ _ _ _ h => h) rfl (fun K hK => ?_)
              go_big_quiet_op
              first | refine hK _ ?_ | refine ⟨_, fun _ _ => rfl, hK _ ?_⟩
              clear hK K
              refine takeE 4 rfl (by kernel_rfl) (by kernel_rfl) (by kernel_rfl) rfl (fun _ _ _ _ h => h) rfl (fun K hK => ?_)
              go_big_quiet_op
              first | refine hK _ ?_ | refine ⟨_, fun _ _ => rfl, hK _ ?_⟩
              clear hK K
              refine takeE 5 rfl (by kernel_rfl) (by kernel_rfl) (by kernel_rfl) rfl (fun _ _ _ _ h => h) rfl (fun K hK => ?_)
              refine quiet_cell _ _ rfl _ rfl (.string (strOf ls[i])) _ Try.underlying9 rfl (fun W' h => HCL.out W' h) ?_
              refine hK _ ?_
              simp only [Act.put, List.setIfInBounds_toArray, List.set_cons_succ, List.set_cons_zero]
              clear hK K
              refine takeE 6 rfl (by kernel_rfl) (by kernel_rfl) (by kernel_rfl) rfl (fun _ _ _ _ h => h) rfl (fun K hK => ?_)
              go_big_quiet_op
              first | refine hK _ ?_ | refine ⟨_, fun _ _ => rfl, hK _ ?_⟩
              clear hK K
              refine takeE 7 rfl (by kernel_rfl) (by kernel_rfl) (by kernel_rfl) rfl (fun _ _ _ _ h => h) rfl (fun K hK => ?_)
              go_big_quiet_op
              first | refine hK _ ?_ | refine ⟨_, fun _ _ => rfl, hK _ ?_⟩
              clear hK K
              refine takeE 8 rfl (by kernel_rfl) (by kernel_rfl) (by kernel_rfl) rfl (fun _ _ _ _ h => h) rfl (fun K hK => ?_)
              go_big_quiet_op
              first | refine hK _ ?_ | refine ⟨_, fun _ _ => rfl, hK _ ?_⟩
              clear hK K
              refine takeE 9 rfl (by kernel_rfl) (by kernel_rfl) (by kernel_rfl) rfl (fun _ _ _ _ h => h) rfl (fun K hK => ?_)
              refine quiet_cell _ _ rfl _ rfl _ _ Try.underlying22 rfl (fun W' h => (World.cell?_of_block (by rw [add_block]; exact h.ext.block _ (Nat.lt_of_lt_of_le (hF _ hfT) HLZ.out.ext.size) (by simp))).trans HCZ.out) ?_
              refine hK _ ?_
              simp only [Act.put, List.setIfInBounds_toArray, List.set_cons_succ, List.set_cons_zero]
              clear hK K
              refine takeE 10 rfl (by kernel_rfl) (by kernel_rfl) (by kernel_rfl) rfl (fun _ _ _ _ h => h) rfl (fun K hK => ?_)
              refine quiet_str 22 9 _ rfl 5 Try.underlying22 Try.underlying5 Try.underlying9 A1 _ c1 t rfl rfl (fun W' h => src_bytes (h.ext.holds (fun b hb => Nat.lt_of_lt_of_le (hF b hb) HLZ.out.ext.size) HYZ.out)) ?_
              refine hK _ ?_
              simp only [Act.put, List.setIfInBounds_toArray, List.set_cons_succ, List.set_cons_zero]
              clear hK K
              refine takeE 11 rfl (by kernel_rfl) (by kernel_rfl) (by kernel_rfl) rfl (fun _ _ _ _ h => h) rfl (fun K hK => ?_)
              go_big_quiet_op
              first | refine hK _ ?_ | refine ⟨_, fun _ _ => rfl, hK _ ?_⟩
              clear hK K
              refine takeE 12 rfl (by kernel_rfl) (by kernel_rfl) (by kernel_rfl) rfl (fun _ _ _ _ h => h) rfl (fun K hK => ?_)
              go_big_quiet_op
              first | refine hK _ ?_ | refine ⟨_, fun _ _ => rfl, hK _ ?_⟩
              clear hK K
              refine takeE 13 rfl (by kernel_rfl) (by kernel_rfl) (by kernel_rfl) rfl (fun _ _ _ _ h => h) rfl (fun K hK => ?_)
              go_big_quiet_op
              first | refine hK _ ?_ | refine ⟨_, fun _ _ => rfl, hK _ ?_⟩
              clear hK K
              refine doneM (by kernel_rfl) ?_ _
              have hc0 := HCZ.out
              have hc1x := HCL.out w0 (Ext.refl _)
              have hfr : w0.frozen? ⟨gl, i, none⟩ = false := World.ownsRow.frozenAt (h := HLZ.out.last) i
              have hcv : (convert 22 9 (.slice A1 t.length c1)).run Try.prog w0 = .ok (.string (strOf t)) w0 := run_str _ 22 9 5 Try.underlying22 Try.underlying5 Try.underlying9 A1 c1 t (src_bytes HYZ.out)
              go_wp2_with fail
              have hst := (World.ownsRow.stored HLZ.out.last i (.string (strOf t))).2
              have HMM := Lib.hid (HLZ.out.toLogsMem.stored i t)
              have HBDN := Lib.hid (HBDZ.out.keep hst (by intro e; cases e; omega))
              have hFk : ∀ b, F b → (w0.setCell ⟨gl, i, none⟩ (.string (strOf t))).heap[b]? = w0.heap[b]? := fun b hb => hst.block b (Nat.lt_of_lt_of_le (hF b hb) HLZ.out.ext.size) (by have := hF b hb; intro e; cases e; omega)
              have HYN := Lib.hid (Ty.keep (t := .sl .u8) hFk (fun _ h => h) HYZ.out)
              have HCN := Lib.hid (show (w0.setCell ⟨gl, i, none⟩ (.string (strOf t))).cell? (adT.add k) = some (.slice A1 t.length c1) from (World.cell?_of_block (by rw [add_block]; exact hFk _ hfT)).trans HCZ.out)
              have HRN := Lib.hid (HLZ.out.rel.old d t (by have := HD32.out; omega) i hik1 HIK2.out)
              have HMN := HMV
              have HFN := Lib.hid (show ks.length ≤ k + 1 by have := HLZ.out.few; omega)
              clear HLZ HBDZ HYZ HCZ hst hFk hc0 hc1x hfr hcv HCL HIK2 HMV
              generalize ls.set i t = ls' at HMM HRN ⊢
              generalize w0.setCell ⟨gl, i, none⟩ (.string (strOf t)) = W at *
              go_wp2_with fail
              refine wp_region_draw_tail 5 (by kernel_rfl) (by kernel_rfl) (by kernel_rfl) ?_
              simp only [List.take_succ_cons, List.take_zero, List.drop_succ_cons, List.drop_zero]
              go_big_quiet_want
              refine quiet_agg 24 _ rfl _ rfl (bv d) _ Try.underlying24 rfl (by rw [bv_length, HD32.out]; kernel_rfl) (fun W' h => by obtain ⟨nq, rfl⟩ := h; exact HBDN.out.cells) ?_
              simp only [Act.put, List.setIfInBounds_toArray, List.set_cons_succ, List.set_cons_zero]
              go_big_quiet_on
              repeat (go_big_quiet_step (fail))
              go_big_quiet_want
              refine quiet_cell _ _ rfl _ rfl _ _ Try.underlying22 rfl (fun W' h => by obtain ⟨nq, rfl⟩ := h; exact HCN.out) ?_
              simp only [Act.put, List.setIfInBounds_toArray, List.set_cons_succ, List.set_cons_zero]
              go_big_quiet_on
              refine wpQuiet_nil ?_
              rintro _ ⟨nq, rfl⟩
              have hxn : Ext W (W.drewN nq) := (Ext.refl W).drewN nq
              have HMZ := Lib.hid (HMM.out.later hxn)
              have HYM := Lib.hid (hxn.holds (fun b hb => Nat.lt_of_lt_of_le (hF b hb) HMM.out.ext.size) HYN.out)
              clear HMM HYN HBDN HCN hxn
              generalize W.drewN nq = W at HMZ HYM ⊢
              have hk60' : k < 60 := by omega
              go_wp2_with fail
              refine (Note_any HMZ.out d t _ F HD32.out (by omega) HYM.out hF (by have := HT5.out; omega)).mono ?_
              rintro e W2 ⟨rfl, b, hb, hnd⟩
              have HMW := Lib.hid (HMZ.out.noted hb hnd HMN.out)
              clear HMZ HYM hb hnd HMN
              have hsz := HRN.out.size
              go_wp2_with fail
              refine (Met_at _ _ _ _ HMW.out.log).mono ?_
              rintro e W3 ⟨rfl, rfl⟩
              have hne : ((!(strOf ls[i]).toList == (strOf t).toList) != (!(strOf ls[i]).toList == (strOf t).toList)) = false := by simp
              go_wp2_with fail
              refine (Many_at _ _ _ _ _ _ HMW.out.log HMW.out.map_).mono ?_
              rintro e W3 ⟨rfl, rfl⟩
              rw [hsz]
              go_wp2_with fail
              go_roundw
              case rel => exact ⟨k + 1, _, _, _, _, _, by omega, by omega, by go_num, rfl, ⟨HMW.out, HRN.out, HFN.out⟩⟩
              case measure => simp [intOf]; omega
            · have HMV := Lib.hid (show ∀ s, D.atKey (klit d) (slit []) = slit s → metN D d t true s = true from fun s hs => by
                rw [HLZ.out.rel.met_old d t s true (by have := HD32.out; omega) i hik1 hil HIK2.out hs]; simp [strOf_toList])
              refine startM Since (by kernel_rfl) ?_
              (try simp only [Act.put, List.setIfInBounds_toArray, List.set_cons_succ, List.set_cons_zero])
              rw [HW0.out]
              clear HW0
              refine takeE 0 rfl (by kernel_rfl) (by kernel_rfl) (by kernel_rfl) rfl (fun _ _ _ _ h => h) rfl (fun K hK => ?_)
              go_big_quiet_op
              first | refine hK _ ?_ | refine ⟨_, fun _ _ => rfl, hK _ ?_⟩
              clear hK K
              refine takeE 1 rfl (by kernel_rfl) (by kernel_rfl) (by kernel_rfl) rfl (fun _ _ _ _ h => h) rfl (fun K hK => ?_)
              go_big_quiet_op
              first | refine hK _ ?_ | refine ⟨_, fun _ _ => rfl, hK _ ?_⟩
              clear hK K
              refine skipE 2 rfl (by kernel_rfl) (by kernel_rfl) (by kernel_rfl) (fun _ _ _ _ h => h) rfl ?_
              (try simp only [Act.put, List.setIfInBounds_toArray, List.set_cons_succ, List.set_cons_zero])
              refine skipE 3 rfl (by kernel_rfl) (by kernel_rfl) (by kernel_rfl) (fun _ _ _ _ h => h) rfl ?_
              (try simp only [Act.put, List.setIfInBounds_toArray, List.set_cons_succ, List.set_cons_zero])
              refine skipE 4 rfl (by kernel_rfl) (by kernel_rfl) (by kernel_rfl) (fun _ _ _ _ h => h) rfl ?_
              (try simp only [Act.put, List.setIfInBounds_toArray, List.set_cons_succ, List.set_cons_zero])
              refine skipE 5 rfl (by kernel_rfl) (by kernel_rfl) (by kernel_rfl) (fun _ _ _ _ h => h) rfl ?_
              (try simp only [Act.put, List.setIfInBounds_toArray, List.set_cons_succ, List.set_cons_zero])
              refine skipE 6 rfl (by kernel_rfl) (by kernel_rfl) (by kernel_rfl) (fun _ _ _ _ h => h) rfl ?_
              (try simp only [Act.put, List.setIfInBounds_toArray, List.set_cons_succ, List.set_cons_zero])
              refine skipE 7 rfl (by kernel_rfl) (by kernel_rfl) (by kernel_rfl) (fun _ _ _ _ h => h) rfl ?_
              (try simp only [Act.put, List.setIfInBounds_toArray, List.set_cons_succ, List.set_cons_zero])
              refine skipE 8 rfl (by kernel_rfl) (by kernel_rfl) (by kernel_rfl) (fun _ _ _ _ h => h) rfl ?_
              (try simp only [Act.put, List.setIfInBounds_toArray, List.set_cons_succ, List.set_cons_zero])
              refine skipE 9 rfl (by kernel_rfl) (by kernel_rfl) (by kernel_rfl) (fun _ _ _ _ h => h) rfl ?_
              (try simp only [Act.put, List.setIfInBounds_toArray, List.set_cons_succ, List.set_cons_zero])
              refine skipE 10 rfl (by kernel_rfl) (by kernel_rfl) (by kernel_rfl) (fun _ _ _ _ h => h) rfl ?_
              (try simp only [Act.put, List.setIfInBounds_toArray, List.set_cons_succ, List.set_cons_zero])
              refine skipE 11 rfl (by kernel_rfl) (by kernel_rfl) (by kernel_rfl) (fun _ _ _ _ h => h) rfl ?_
              (try simp only [Act.put, List.setIfInBounds_toArray, List.set_cons_succ, List.set_cons_zero])
              refine takeE 12 rfl (by kernel_rfl) (by kernel_rfl) (by kernel_rfl) rfl (fun _ _ _ _ h => h) rfl (fun K hK => ?_)
              go_big_quiet_op
              first | refine hK _ ?_ | refine ⟨_, fun _ _ => rfl, hK _ ?_⟩
              clear hK K
              refine takeE 13 rfl (by kernel_rfl) (by kernel_rfl) (by kernel_rfl) rfl (fun _ _ _ _ h => h) rfl (fun K hK => ?_)
              go_big_quiet_op
              first | refine hK _ ?_ | refine ⟨_, fun _ _ => rfl, hK _ ?_⟩
              clear hK K
              refine doneM (by kernel_rfl) ?_ _
              have hc0 := HCZ.out
              have hc1x := HCL.out w0 (Ext.refl _)
              have hfr : w0.frozen? ⟨gl, i, none⟩ = false := World.ownsRow.frozenAt (h := HLZ.out.last) i
              have hcv : (convert 22 9 (.slice A1 t.length c1)).run Try.prog w0 = .ok (.string (strOf t)) w0 := run_str _ 22 9 5 Try.underlying22 Try.underlying5 Try.underlying9 A1 c1 t (src_bytes HYZ.out)
              go_wp2_with fail
              have hst := (World.ownsRow.stored HLZ.out.last i (.string (strOf t))).2
              have HMM := Lib.hid (HLZ.out.toLogsMem.stored i t)
              have HBDN := Lib.hid (HBDZ.out.keep hst (by intro e; cases e; omega))
              have hFk : ∀ b, F b → (w0.setCell ⟨gl, i, none⟩ (.string (strOf t))).heap[b]? = w0.heap[b]? := fun b hb => hst.block b (Nat.lt_of_lt_of_le (hF b hb) HLZ.out.ext.size) (by have := hF b hb; intro e; cases e; omega)
              have HYN := Lib.hid (Ty.keep (t := .sl .u8) hFk (fun _ h => h) HYZ.out)
              have HCN := Lib.hid (show (w0.setCell ⟨gl, i, none⟩ (.string (strOf t))).cell? (adT.add k) = some (.slice A1 t.length c1) from (World.cell?_of_block (by rw [add_block]; exact hFk _ hfT)).trans HCZ.out)
              have HRN := Lib.hid (HLZ.out.rel.old d t (by have := HD32.out; omega) i hik1 HIK2.out)
              have HMN := HMV
              have HFN := Lib.hid (show ks.length ≤ k + 1 by have := HLZ.out.few; omega)
              clear HLZ HBDZ HYZ HCZ hst hFk hc0 hc1x hfr hcv HCL HIK2 HMV
              generalize ls.set i t = ls' at HMM HRN ⊢
              generalize w0.setCell ⟨gl, i, none⟩ (.string (strOf t)) = W at *
              go_wp2_with fail
              refine wp_region_draw_tail 5 (by kernel_rfl) (by kernel_rfl) (by kernel_rfl) ?_
              simp only [List.take_succ_cons, List.take_zero, List.drop_succ_cons, List.drop_zero]
              go_big_quiet_want
              refine quiet_agg 24 _ rfl _ rfl (bv d) _ Try.underlying24 rfl (by rw [bv_length, HD32.out]; kernel_rfl) (fun W' h => by obtain ⟨nq, rfl⟩ := h; exact HBDN.out.cells) ?_
              simp only [Act.put, List.setIfInBounds_toArray, List.set_cons_succ, List.set_cons_zero]
              go_big_quiet_on
              repeat (go_big_quiet_step (fail))
              go_big_quiet_want
              refine quiet_cell _ _ rfl _ rfl _ _ Try.underlying22 rfl (fun W' h => by obtain ⟨nq, rfl⟩ := h; exact HCN.out) ?_
              simp only [Act.put, List.setIfInBounds_toArray, List.set_cons_succ, List.set_cons_zero]
              go_big_quiet_on
              refine wpQuiet_nil ?_
              rintro _ ⟨nq, rfl⟩
              have hxn : Ext W (W.drewN nq) := (Ext.refl W).drewN nq
              have HMZ := Lib.hid (HMM.out.later hxn)
              have HYM := Lib.hid (hxn.holds (fun b hb => Nat.lt_of_lt_of_le (hF b hb) HMM.out.ext.size) HYN.out)
              clear HMM HYN HBDN HCN hxn
              generalize W.drewN nq = W at HMZ HYM ⊢
              have hk60' : k < 60 := by omega
              go_wp2_with fail
              refine (Note_any HMZ.out d t _ F HD32.out (by omega) HYM.out hF (by have := HT5.out; omega)).mono ?_
              rintro e W2 ⟨rfl, b, hb, hnd⟩
              have HMW := Lib.hid (HMZ.out.noted hb hnd HMN.out)
              clear HMZ HYM hb hnd HMN
              have hsz := HRN.out.size
              go_wp2_with fail
              refine (Met_at _ _ _ _ HMW.out.log).mono ?_
              rintro e W3 ⟨rfl, rfl⟩
              have hne : (true != true) = false := by simp
              go_wp2_with fail
              refine (Many_at _ _ _ _ _ _ HMW.out.log HMW.out.map_).mono ?_
              rintro e W3 ⟨rfl, rfl⟩
              rw [hsz]
              go_wp2_with fail
              go_roundw
              case rel => exact ⟨k + 1, _, _, _, _, _, by omega, by omega, by go_num, rfl, ⟨HMW.out, HRN.out, HFN.out⟩⟩
              case measure => simp [intOf]; omega

    · obtain rfl : k = ds.length := by omega
      have hx := HL.out.ext
      go_wp2_with (first
        | ((with_reducible refine wpDst 106 rfl ?_); refine wpList_build (.inl rfl) 25 _ rfl (.agg (bv (List.replicate 32 0)).toArray) (by kernel_rfl) ?_)
        | fail)
      refine (Note_nil _ _ _ rfl _).mono ?_
      rintro e w3 ⟨rfl, hx3⟩
      go_wp2_with fail
      refine (awake_true _).mono ?_
      rintro e w4 ⟨rfl, hx4⟩
      go_wp2_with fail
      refine (Met_nil _).mono ?_
      rintro e w5 ⟨rfl, rfl⟩
      go_wp2_with fail
      refine (Many_nil _).mono ?_
      rintro e w6 ⟨rfl, rfl⟩
      go_wp2
      go_ret
      exact ⟨rfl, hx.trans (hx3.trans hx4)⟩
end Go.Proofs.Ytklljkfnlakdaaa

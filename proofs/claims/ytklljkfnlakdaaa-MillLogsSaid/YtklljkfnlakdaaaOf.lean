/- Walks of the mill's Of, For, Lock. Condition: fewer than 2^59 bytes in all. -/
import Derived.Test.YtklljkfnlakdaaaWrite
import Derived.Test.YtklljkfnlakdaaaSum
set_option linter.unusedVariables false
set_option linter.unusedSimpArgs false
set_option linter.unnecessarySimpa false
namespace Go.Proofs.Ytklljkfnlakdaaa
open Go.RowKit

theorem sha_length (b : List UInt8) : (sha b).length = 32 := by
  have h := (blocks_ok (padded b) ((padded b).length / 64)).1
  show ((blocks (padded b) ((padded b).length / 64)).flatMap (be 4)).length = 32
  rw [be_flat, h]
theorem mill_new {w : World} {G : Nat} (hG : w.heap.size = G) : MillAt (w.alloc (.cells (nv firstK ++ bv (List.replicate 64 0) ++ [Value.int .u64 0]).toArray 65)) G [] := by
  subst hG
  exact ⟨List.replicate 64 0, by simp, by simp, Blk.new _ _ _⟩
/-- The new block that holds a result. -/
theorem new_store {w : World} {t : TypeId} {Z : List Value} {w' : World} (hx : Ext (w.alloc (.cells Z.toArray t)) w') : w'.heap[w.heap.size]? = some (.cells Z.toArray t (0, 0)) :=
  (hx.block _ (by simp) (by simp)).trans (heap_alloc_new w _)

set_option maxHeartbeats 400000 in
theorem Of (v : Value) (ps : List (List UInt8)) (w : World) (F : Fp) (hp : (Ty.sl (.sl .u8)).holds w F [v] ps) (hF : ∀ b, F b → b < w.heap.size) (hb : (ps.flatMap id).length < 576460752303423488) :
    Calls Try.prog 10 #[v] w fun e w' => e = .returned (.agg (bv (sha (ps.flatMap id))).toArray) ∧ Ext w w' := by
  have hz := digest_zero
  have hzl : (bv (List.replicate 32 0)).length = 32 := by simp
  generalize bv (List.replicate 32 0) = Z at hz hzl
  have HZL := Lib.hid hzl
  clear hzl
  go_enter Try.func10, Try.ntmps10
  go_wp2_with (first
    | (refine wpList_alloc _ rfl 25 rfl _ hz ?_)
    | fail)
  refine (New _).mono ?_
  rintro e w1 ⟨rfl, rfl⟩
  have hx1 : Ext w ((w.alloc (.cells Z.toArray 25)).alloc (.cells (nv firstK ++ bv (List.replicate 64 0) ++ [Value.int .u64 0]).toArray 65)) := ((Ext.refl w).alloc _).alloc _
  have hm1 := mill_new (w := w.alloc (.cells Z.toArray 25)) (G := w.heap.size + 1) (by simp)
  have hr1 := new_store ((Ext.refl (w.alloc (.cells Z.toArray 25))).alloc (.cells (nv firstK ++ bv (List.replicate 64 0) ++ [Value.int .u64 0]).toArray 65))
  generalize ((w.alloc (.cells Z.toArray 25)).alloc (.cells (nv firstK ++ bv (List.replicate 64 0) ++ [Value.int .u64 0]).toArray 65)) = w2 at hx1 hm1 hr1 ⊢
  go_wp2_with fail
  refine (Write (w.heap.size + 1) v [] ps w2 F (by simpa using hm1) (hx1.holds hF hp) (fun b hb => ⟨Nat.lt_of_lt_of_le (hF b hb) hx1.size, by have := hF b hb; omega⟩) (by simp only [List.length_nil]; omega)).mono ?_
  rintro e w3 ⟨rfl, hm3, hg3⟩
  rw [List.nil_append] at hm3
  have hx3 : Ext w w3 := grown_then hx1 hg3 (.inr (by rintro _ ⟨⟩; omega))
  have hr3 : Blk w3 w.heap.size 25 Z := Blk.keep (w := w2) hr1 hg3 (by simp)
  go_wp2_with fail
  refine (Sum (w.heap.size + 1) (ps.flatMap id) w3 (by simpa using hm3) hb).mono ?_
  rintro e w4 ⟨rfl, hx4⟩
  have hr4 : w4.heap[w.heap.size]? = some (.cells Z.toArray 25 (0, 0)) := hr3.keep hx4 (by simp)
  have hsl : (bv (sha (ps.flatMap id))).length = 32 := by rw [bv_length, sha_length]
  have hso := bv_one (sha (ps.flatMap id))
  generalize hR : bv (sha (ps.flatMap id)) = R at hsl hso ⊢
  have HR := Lib.hid hR
  have HSL := Lib.hid hsl
  clear hR hsl
  go_wp2_with (first
    | (refine wpList_store_row _ rfl 25 (.tmp 2) (.tmp 9) rfl w.heap.size rfl Z R _ rfl hr4 (digest_size HSL.out) (by rw [HSL.out, HZL.out]) hso ?_)
    | fail)
  have hc : Cells (w4.setRow w.heap.size R.toArray) ⟨w.heap.size, 0, none⟩ R := Blk.cells (t := 25) (setRow_at hr4)
  (try simp only [Exit.inBlock, Exit.then])
  refine bodyPost_ret (results_agg rfl _ _ _ _ _ rfl Try.underlying25 rfl (digest_size HSL.out) hc) rfl ?_
  exact ⟨by rw [HR.out], setRow_grown (hx3.trans hx4) _ _ (Nat.le_refl _)⟩

/-- What is summed for a domain of parts. -/
def textM (d : UInt8) (ps : List (List UInt8)) : List UInt8 := d :: UInt8.ofNat ps.length :: ps.flatMap blob
theorem parts_new {w : World} {G n : Nat} {vs : List Value} {ps : List (List UInt8)} {F : Fp} {T : TypeId} (hG : w.heap.size = G) (hn : ps.length = n) (hm : n ≤ maxLen) (h : AllH ((Ty.sl .u8).holds w F) vs ps) (hF : ∀ b, F b → b < w.heap.size) :
    (Ty.sl (.sl .u8)).holds (w.alloc (.cells vs.toArray T)) (fun b => F b ∨ b = G) [.slice (some ⟨G, 0, none⟩) n n] ps :=
  sl_made (t := .sl .u8) hG (.inr rfl) hn hm (AllH.mono (fun c a _ h => Ty.keep (t := .sl .u8) (fun b hb => Below.heap_alloc _ _ b (hF b hb)) (fun _ h => .inl h) h) h)
theorem bytes_new {w : World} {G n : Nat} {bs : List UInt8} {T : TypeId} {fr : Nat × Nat} (hG : w.heap.size = G) (hn : bs.length = n) (hm : n ≤ maxLen) : (Ty.sl .u8).holds (w.alloc (.cells (bv bs).toArray T fr)) (fun b => b = G) [.slice (some ⟨G, 0, none⟩) n n] bs :=
  sl_made (t := .u8) hG rfl hn hm (AllH.bytes.2 rfl)
theorem allH_two {α : Type} {R : List Value → α → Prop} {v1 v2 : Value} {a b : α} (h1 : R [v1] a) (h2 : R [v2] b) : AllH R [v1, v2] [a, b] := ⟨[v1], [v2], rfl, h1, [v2], [], rfl, h2, rfl⟩

set_option maxHeartbeats 1000000 in
theorem For (d : UInt8) (v : Value) (ps : List (List UInt8)) (w : World) (F : Fp) (hp : (Ty.sl (.sl .u8)).holds w F [v] ps) (hF : ∀ b, F b → b < w.heap.size) (hb : (ps.flatMap blob).length < 288230376151711744) :
    Calls Try.prog 17 #[.int .u8 d.toNat, v] w fun e w' => e = .returned (.agg (bv (sha (textM d ps))).toArray) ∧ Ext w w' := by
  have hz := digest_zero
  have hzl : (bv (List.replicate 32 0)).length = 32 := by simp
  generalize bv (List.replicate 32 0) = Z at hz hzl
  have HZL := Lib.hid hzl
  clear hzl
  have hp0 := hp
  obtain ⟨A, c, xs, hv, hlc, hc, hA, hcell, hall⟩ := hp
  cases hv
  unfold maxLen at hc
  obtain ⟨lb, hlb⟩ : ∃ lb : UInt8, lb = UInt8.ofNat ps.length := ⟨_, rfl⟩
  have hlb1 : (ps.length : Int) % 256 = (lb.toNat : Int) := by rw [hlb, UInt8.toNat_ofNat']; omega
  have HLB := Lib.hid hlb
  clear hlb
  go_enter Try.func17, Try.ntmps17
  go_wp2_with (first
    | (refine wpList_alloc _ rfl 25 rfl _ hz ?_)
    | fail)
  refine (New _).mono ?_
  rintro e w1 ⟨rfl, rfl⟩
  have hx1 : Ext w ((w.alloc (.cells Z.toArray 25)).alloc (.cells (nv firstK ++ bv (List.replicate 64 0) ++ [Value.int .u64 0]).toArray 65)) := ((Ext.refl w).alloc _).alloc _
  have hm1 := mill_new (w := w.alloc (.cells Z.toArray 25)) (G := w.heap.size + 1) (by simp)
  have hr1 := new_store ((Ext.refl (w.alloc (.cells Z.toArray 25))).alloc (.cells (nv firstK ++ bv (List.replicate 64 0) ++ [Value.int .u64 0]).toArray 65))
  generalize ((w.alloc (.cells Z.toArray 25)).alloc (.cells (nv firstK ++ bv (List.replicate 64 0) ++ [Value.int .u64 0]).toArray 65)) = w2 at hx1 hm1 hr1 ⊢
  go_wp2_with fail
  refine (Write (w.heap.size + 1) _ [] [[d, lb]] _ (fun b => b = w2.heap.size ∨ b = w2.heap.size + 1) ((MillAt.keep (row := none) (by simpa using hm1) (((Ext.refl w2).alloc _).alloc _) (by simp)))
    (parts_new (w := w2.alloc (.cells (bv [d, lb]).toArray 5)) (by simp) rfl (by simp [maxLen]) (AllH.one (R := (Ty.sl .u8).holds _ _) (bytes_new (bs := [d, lb]) rfl rfl (by simp [maxLen]))) (by rintro b rfl; simp)) (by have := hm1.lt; rintro b (rfl | rfl) <;> exact ⟨by simp <;> omega, by omega⟩) (by simp)).mono ?_
  rintro e w3 ⟨rfl, hm3, hg3⟩
  have hx3 : Ext w w3 := grown_then ((hx1.alloc _).alloc _) hg3 (.inr (by rintro _ ⟨⟩; omega))
  have hr3 : Blk w3 w.heap.size 25 Z := (Blk.keep (w := w2) hr1 (((Ext.refl w2).alloc _).alloc _) (by simp)).keep hg3 (by simp)
  have hm3 : MillAt w3 (w.heap.size + 1) [d, lb] := hm3
  clear hx1 hm1 hr1 hg3
  go_wp2
  go_loopw [19] (fun i wr => ∃ k : Nat, k ≤ ps.length ∧ i = .int .i64 k ∧ Ext w wr ∧ MillAt wr (w.heap.size + 1) ([d, lb] ++ (ps.take k).flatMap blob) ∧ Blk wr w.heap.size 25 Z) (fun i _ => ps.length - (intOf i).toNat)
  case atStart => exact ⟨0, by omega, rfl, hx3, by simpa using hm3, hr3⟩
  case round =>
    clear hx3 hm3 hr3
    obtain ⟨k, hk, rfl, hx, hm, hr⟩ := hrel
    by_cases hlt : k < ps.length
    · obtain ⟨ad, rfl, hf, hcells⟩ := hcell (by rintro rfl; simp at hlt)
      obtain ⟨y, hy, hyh⟩ := AllH.sl_at hall hlt
      have hcx := (hcells.keep (hx.same hF _ hf)) k _ hy
      have hyr := hx.holds hF hyh
      obtain ⟨A1, c1, xs1, hv1, hlc1, hc1, _⟩ := hyh
      cases hv1
      unfold maxLen at hc1
      have hbd := flat_len_step blob ps k hlt
      have hbl : (blob ps[k]).length = 4 + ps[k].length := by simp [blob, be_length]
      have hstep := flat_step blob ps k hlt
      have HY := Lib.hid hyr
      have HM := Lib.hid hm
      have HBL := Lib.hid hbl
      have HST := Lib.hid hstep
      rw [hbl] at hbd
      clear hyr hm hbl hstep hy
      generalize hpk : ps[k] = p at *
      clear hpk
      go_wp2_with fail
      refine (Four_i _ (p.length % 4294967296) _ (by omega) (by omega)).mono ?_
      rintro e w4 ⟨rfl, rfl⟩
      rw [be_mod4]
      go_wp2_with fail
      refine (Write (w.heap.size + 1) _ _ [be 4 p.length, p] _ (fun b => (F b ∨ b = wr.heap.size) ∨ b = wr.heap.size + 1) (HM.out.keep (((Ext.refl wr).alloc _).alloc _) (by simp))
        (parts_new (w := wr.alloc (.cells (bv (be 4 p.length)).toArray 5)) (vs := [_, _]) (by simp) rfl (by simp [maxLen])
          (allH_two (R := (Ty.sl .u8).holds _ _) (Ty.keep (t := .sl .u8) (fun _ _ => rfl) (fun _ h => .inr h) (bytes_new (bs := be 4 p.length) rfl (be_length _ _) (by simp [maxLen]))) (Ty.keep (t := .sl .u8) (fun b hb => Below.heap_alloc _ _ b (Nat.lt_of_lt_of_le (hF b hb) hx.size)) (fun _ h => .inl h) HY.out))
          (by rintro b (hb | rfl)
              · have := hF b hb; have := hx.size; simp; omega
              · simp))
        (by have := HM.out.lt
            have := hx.size
            rintro b ((hb | rfl) | rfl)
            · have := hF b hb; exact ⟨by simp; omega, by omega⟩
            · exact ⟨by simp; omega, by omega⟩
            · exact ⟨by simp, by omega⟩)
        (by simp only [List.length_append, List.length_cons, List.length_nil, List.flatMap_cons, List.flatMap_nil, id, be_length]; omega)).mono ?_
      rintro e w5 ⟨rfl, hm5, hg5⟩
      have hx5 : Ext w w5 := grown_then ((hx.alloc _).alloc _) hg5 (.inr (by rintro _ ⟨⟩; omega))
      have hr5 : Blk w5 w.heap.size 25 Z := (Blk.keep (w := wr) hr (((Ext.refl wr).alloc _).alloc _) (by simp)).keep hg5 (by simp)
      have e5 : [be 4 p.length, p].flatMap id = blob p := by simp [blob]
      rw [e5, List.append_assoc, ← HST.out] at hm5
      have HM5 := Lib.hid hm5
      clear hm5 e5
      go_wp2
      go_roundw
      case rel => exact ⟨k + 1, by omega, by go_num, hx5, HM5.out, hr5⟩
      case measure => simp [intOf]; omega
    · obtain rfl : k = ps.length := by omega
      rw [List.take_length] at hm
      have htx : [d, lb] ++ ps.flatMap blob = textM d ps := by rw [HLB.out]; rfl
      rw [htx] at hm
      have htl : (textM d ps).length = 2 + (ps.flatMap blob).length := by simp [textM]; omega
      go_wp2_with fail
      refine (Sum (w.heap.size + 1) (textM d ps) wr hm (by omega)).mono ?_
      rintro e w4 ⟨rfl, hx4⟩
      have hr4 : w4.heap[w.heap.size]? = some (.cells Z.toArray 25 (0, 0)) := hr.keep hx4 (by simp)
      have hsl : (bv (sha (textM d ps))).length = 32 := by rw [bv_length, sha_length]
      have hso := bv_one (sha (textM d ps))
      generalize hR : bv (sha (textM d ps)) = R at hsl hso ⊢
      have HR := Lib.hid hR
      have HSL := Lib.hid hsl
      clear hR hsl htx htl
      go_wp2_with (first
        | (refine wpList_store_row _ rfl 25 (.tmp 4) (.tmp 33) rfl w.heap.size rfl Z R _ rfl hr4 (digest_size HSL.out) (by rw [HSL.out, HZL.out]) hso ?_)
        | fail)
      have hc : Cells (w4.setRow w.heap.size R.toArray) ⟨w.heap.size, 0, none⟩ R := Blk.cells (t := 25) (setRow_at hr4)
      (try simp only [Exit.inBlock, Exit.then])
      refine bodyPost_ret (results_agg rfl _ _ _ _ _ rfl Try.underlying25 rfl (digest_size HSL.out) hc) rfl ?_
      exact ⟨by rw [HR.out], setRow_grown (hx.trans hx4) _ _ (Nat.le_refl _)⟩
theorem For_i (d : UInt8) (x : Int) (hx : x = (d.toNat : Int)) (v : Value) (ps : List (List UInt8)) (w : World) (F : Fp) (hp : (Ty.sl (.sl .u8)).holds w F [v] ps) (hF : ∀ b, F b → b < w.heap.size) (hb : (ps.flatMap blob).length < 288230376151711744) :
    Calls Try.prog 17 #[.int .u8 x, v] w fun e w' => e = .returned (.agg (bv (sha (textM d ps))).toArray) ∧ Ext w w' := by
  subst hx; exact For d v ps w F hp hF hb
set_option maxHeartbeats 400000 in
theorem Lock (s : List UInt8) (hs : s.length = 32) (w : World) :
    Calls Try.prog 19 #[.agg (bv s).toArray] w fun e w' => e = .returned (.agg (bv (sha (textM 6 [s]))).toArray) ∧ Ext w w' := by
  have hz : (Try.prog.info? 42).bind (fun i => i.zero.map (·.cells)) = some (bv (List.replicate 32 0)).toArray := by kernel_rfl
  have hss : ∀ {n : Nat}, n = 32 → (Try.prog.info? 42).map (·.size) = some n := by rintro _ rfl; kernel_rfl
  have hzl : (bv (List.replicate 32 0)).length = 32 := by simp
  have hbl := bytes_new (w := w) (bs := s) (T := 69) (fr := (0, 0)) rfl hs (by simp [maxLen])
  generalize bv (List.replicate 32 0) = Z at hz hzl
  have HZL := Lib.hid hzl
  have HBL := Lib.hid hbl
  clear hzl hbl
  generalize hB : bv s = B at HBL ⊢
  have HB := Lib.hid hB
  clear hB
  go_enter Try.func19, Try.ntmps19
  go_wp2_with (first
    | (refine wpList_alloc _ rfl 42 rfl _ hz ?_)
    | fail)
  have hv : (Ty.sl (.sl .u8)).holds (((w.alloc (.cells B.toArray 69)).alloc (.cells Z.toArray 42)).alloc (.cells #[Value.slice (some ⟨w.heap.size, 0, none⟩) 32 32] 22)) (fun b => b = w.heap.size ∨ b = w.heap.size + 1 + 1) [.slice (some ⟨w.heap.size + 1 + 1, 0, none⟩) 1 1] [s] :=
    parts_new (w := (w.alloc (.cells B.toArray 69)).alloc (.cells Z.toArray 42)) (by simp) rfl (by simp [maxLen]) (AllH.one (R := (Ty.sl .u8).holds _ _) (Ty.keep (t := .sl .u8) (by rintro b rfl; exact Below.heap_alloc _ _ _ (by simp)) (fun _ h => h) HBL.out)) (by rintro b rfl; simp; omega)
  refine (For_i 6 6 rfl _ [s] _ _ hv (by rintro b (rfl | rfl) <;> simp <;> omega) (by simp [blob, be_length, hs])).mono ?_
  rintro e w4 ⟨rfl, hx4⟩
  have hx5 : Ext w w4 := ((((Ext.refl w).alloc _).alloc _).alloc _).trans hx4
  have hr4 : w4.heap[w.heap.size + 1]? = some (.cells Z.toArray 42 (0, 0)) := by
    have h := new_store (w := w.alloc (.cells B.toArray 69)) (t := 42) (Z := Z) (((Ext.refl _).alloc (.cells #[Value.slice (some ⟨w.heap.size, 0, none⟩) 32 32] 22)).trans hx4)
    simpa using h
  have hsl : (bv (sha (textM 6 [s]))).length = 32 := by rw [bv_length, sha_length]
  have hso := bv_one (sha (textM 6 [s]))
  generalize hR : bv (sha (textM 6 [s])) = R at hsl hso ⊢
  have HR := Lib.hid hR
  have HSL := Lib.hid hsl
  clear hR hsl hv
  go_wp2_with (first
    | (refine wpList_store_row _ rfl 42 (.tmp 2) (.tmp 5) rfl (w.heap.size + 1) rfl Z R _ rfl hr4 (hss HSL.out) (by rw [HSL.out, HZL.out]) hso ?_)
    | fail)
  have hc : Cells (w4.setRow (w.heap.size + 1) R.toArray) ⟨w.heap.size + 1, 0, none⟩ R := Blk.cells (t := 42) (setRow_at hr4)
  (try simp only [Exit.inBlock, Exit.then])
  refine bodyPost_ret (results_agg rfl _ _ _ _ _ rfl Try.underlying42 rfl (hss HSL.out) hc) rfl ?_
  exact ⟨by rw [HR.out], setRow_grown hx5 _ _ (by omega)⟩
end Go.Proofs.Ytklljkfnlakdaaa

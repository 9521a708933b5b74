/- MillApart: where the parts have fewer than 2^32 bytes, the law returns true. -/
import Derived.Test.YtklljkfnlakdaaaApart1
import Derived.Test.YtklljkfnlakdaaaOpenU
import Derived.Test.YtklljkfnlakdaaaRtext
import Derived.Test.YtklljkfnlakdaaaMono
import Derived.Test.YtklljkfnlakdaaaMAwake
set_option linter.unusedVariables false
set_option linter.unusedSimpArgs false
set_option linter.unnecessarySimpa false
namespace Go.Proofs.Ytklljkfnlakdaaa
open Go.RowKit

def sameB (a b : UInt8) (l m : List (List UInt8)) (k : Nat) : Bool := decide (a = b ∧ l.length = m.length ∧ l.take k = m.take k)

theorem text_str (d : UInt8) (v : Value) (ps : List (List UInt8)) (w : World) (F : Fp) (hp : (Ty.sl (.sl .u8)).holds w F [v] ps) (hF : ∀ b, F b → b < w.heap.size) (hb : (ps.flatMap blob).length < 1099511627776) :
    Calls Try.prog 16 #[.int .u8 d.toNat, v] w fun e w' => ∃ A c, e = .returned (.slice A (textM d ps).length c) ∧ Ext w w' ∧ ∀ w'', Ext w' w'' → (convert 22 9 (.slice A (textM d ps).length c)).run Try.prog w'' = .ok (.string (strOf (textM d ps))) w'' :=
  (Ref_Text d v ps w F hp hF hb).mono fun e w' h => by
    obtain ⟨v', rfl, ho, hf⟩ := h
    obtain ⟨A, c, rfl⟩ := ho.form
    exact ⟨A, c, rfl, hf.ext, fun w'' hx => run_str w'' _ _ _ Try.underlying22 Try.underlying5 Try.underlying9 A c _ (ho.ext hx).src⟩

set_option maxRecDepth 100000 in
set_option maxHeartbeats 2000000 in
theorem apart_walk (a b : UInt8) (v u : Value) (l m : List (List UInt8)) (w : World) (F : Fp) (hp : (Ty.sl (.sl .u8)).holds w F [v] l) (hq : (Ty.sl (.sl .u8)).holds w F [u] m) (hF : ∀ b, F b → b < w.heap.size)
    (hl4 : ∀ p ∈ l, p.length < 4194304) (hm4 : ∀ p ∈ m, p.length < 4194304) (hlb : (l.flatMap blob).length < 4194304) (hmb : (m.flatMap blob).length < 4194304) :
    Calls Try.prog 5 #[.int .u8 a.toNat, .int .u8 b.toNat, v, u] w fun e w' => e = .returned (.bool true) ∧ Ext w w' := by
  have hp0 := hp
  have hq0 := hq
  obtain ⟨A, c, xs, hv, hlc, hc, hA, hcell, hall⟩ := hp
  cases hv
  obtain ⟨B, d, ys, hv, hld, hd, hB, hcel2, hal2⟩ := hq
  cases hv
  unfold maxLen at hc hd
  by_cases hbig : 60 < l.length ∨ 60 < m.length
  · by_cases h1 : 60 < l.length
    all_goals
      go_enter Try.func5, Try.ntmps5
      go_wp2_with fail
      refine (awake_true _).mono ?_
      rintro e w1 ⟨rfl, hx1⟩
      go_wp2
      go_ret
      exact ⟨rfl, hx1⟩
  · have hl60 : l.length ≤ 60 := by omega
    have hm60 : m.length ≤ 60 := by omega
    clear hbig
    have HP := Lib.hid hp0
    have HQ := Lib.hid hq0
    have hgt : Try.prog.eqGuardType Try.prog.depth 25 = false := by kernel_rfl
    clear hp0 hq0
    have hsm : ∃ z : Bool, (z = true → a = b ∧ l.length = m.length) ∧ (z = false → ¬(a = b ∧ l = m)) ∧ ((a = b ∧ ((l.length : Int) == (m.length : Int)) = z) ∨ (((a.toNat : Int) == (b.toNat : Int)) = false ∧ z = false)) := by
      by_cases h1 : a = b
      · by_cases h2 : l.length = m.length
        · exact ⟨true, fun _ => ⟨h1, h2⟩, by simp, .inl ⟨h1, by simp [h2]⟩⟩
        · exact ⟨false, by simp, fun _ ⟨_, h⟩ => h2 (by rw [h]), .inl ⟨h1, by simp; omega⟩⟩
      · refine ⟨false, by simp, fun _ ⟨h, _⟩ => h1 h, .inr ⟨?_, rfl⟩⟩
        have : a.toNat ≠ b.toNat := fun h => h1 (UInt8.toNat_inj.1 h)
        simp; omega
    obtain ⟨z, hz1, hz2, hz⟩ := hsm
    obtain ⟨Q, hQ⟩ : ∃ Q : Prop, Q = (a = b) := ⟨_, rfl⟩
    rw [← hQ] at hz1 hz2
    have HQB := Lib.hid hQ
    clear hQ
    have HZ1 := Lib.hid hz1
    have HZ2 := Lib.hid hz2
    clear hz1 hz2
    have hta : ∀ W, Ext w W → Calls Try.prog 16 #[.int .u8 a.toNat, .slice A l.length c] W fun e w' => ∃ A c, e = .returned (.slice A (textM a l).length c) ∧ Ext W w' ∧ ∀ w'', Ext w' w'' → (convert 22 9 (.slice A (textM a l).length c)).run Try.prog w'' = .ok (.string (strOf (textM a l))) w'' :=
      fun W hx => text_str a _ l W F (hx.holds hF HP.out) (fun b hb => Nat.lt_of_lt_of_le (hF b hb) hx.size) (by omega)
    have htb : ∀ W, Ext w W → Calls Try.prog 16 #[.int .u8 b.toNat, .slice B m.length d] W fun e w' => ∃ A c, e = .returned (.slice A (textM b m).length c) ∧ Ext W w' ∧ ∀ w'', Ext w' w'' → (convert 22 9 (.slice A (textM b m).length c)).run Try.prog w'' = .ok (.string (strOf (textM b m))) w'' :=
      fun W hx => text_str b _ m W F (hx.holds hF HQ.out) (fun b hb => Nat.lt_of_lt_of_le (hF b hb) hx.size) (by omega)
    have hfa : ∀ W, Ext w W → Calls Try.prog 17 #[.int .u8 a.toNat, .slice A l.length c] W fun e w' => e = .returned (.agg (bv (sha (textM a l))).toArray) ∧ Ext W w' :=
      fun W hx => For a _ l W F (hx.holds hF HP.out) (fun b hb => Nat.lt_of_lt_of_le (hF b hb) hx.size) (by omega)
    have hfb : ∀ W, Ext w W → Calls Try.prog 17 #[.int .u8 b.toNat, .slice B m.length d] W fun e w' => e = .returned (.agg (bv (sha (textM b m))).toArray) ∧ Ext W w' :=
      fun W hx => For b _ m W F (hx.holds hF HQ.out) (fun b hb => Nat.lt_of_lt_of_le (hF b hb) hx.size) (by omega)
    have hQX : (Q ∧ l = m) ↔ textM a l = textM b m := by
      rw [HQB.out]
      constructor
      · rintro ⟨rfl, rfl⟩; rfl
      · exact fun h => textM_inj (by omega) (by omega) (fun p hp => by have := hl4 p hp; omega) (fun p hp => by have := hm4 p hp; omega) h
    generalize textM a l = X at hta hfa hQX
    generalize textM b m = Y at htb hfb hQX
    have HTA := Lib.hid hta
    have HTB := Lib.hid htb
    have HFA := Lib.hid hfa
    have HFB := Lib.hid hfb
    have HQX := Lib.hid hQX
    clear hta htb hfa hfb hQX HQB HP HQ hl4 hm4 hlb hmb
    rcases hz with ⟨hab, hz3⟩ | ⟨hab, rfl⟩
    all_goals
      (try subst hab)
      go_enter Try.func5, Try.ntmps5
      go_wp2
      go_loopw [9, 10] (fun s i wr => ∃ (k : Nat) (sm : Bool), k ≤ l.length ∧ i = .int .i64 k ∧ s = .bool sm ∧ Ext w wr ∧ (sm = true → Q ∧ l.length = m.length ∧ l.take k = m.take k) ∧ (sm = false → ¬(Q ∧ l = m))) (fun _ i _ => l.length - (intOf i).toNat)
      case atStart => exact ⟨0, _, by omega, rfl, rfl, Ext.refl _, by first | exact fun h => ⟨(HZ1.out h).1, (HZ1.out h).2, rfl⟩ | (intro h; cases h), by first | exact HZ2.out | exact fun _ => HZ2.out trivial | exact fun _ => HZ2.out rfl⟩
      case round =>
        obtain ⟨k, sm, hk, rfl, rfl, hx, hs1, hs2⟩ := hrel
        have hF1 : ∀ b, F b → b < wr.heap.size := fun b hb => Nat.lt_of_lt_of_le (hF b hb) hx.size
        by_cases hgo : sm = true ∧ k < l.length
        · obtain ⟨rfl, hlt⟩ := hgo
          obtain ⟨hab, hlen, htk⟩ := hs1 rfl
          have hlt2 : k < m.length := by omega
          obtain ⟨ad, rfl, hf, hcells⟩ := hcell (by rintro rfl; simp at hlt)
          obtain ⟨be, rfl, hf2, hcells2⟩ := hcel2 (by rintro rfl; simp at hlt2)
          obtain ⟨y, hy, hyh⟩ := AllH.sl_at hall hlt
          obtain ⟨y2, hy2, hyh2⟩ := AllH.sl_at hal2 hlt2
          have hcx := (hcells.keep (hx.same hF _ hf)) k _ hy
          have hcx2 := (hcells2.keep (hx.same hF _ hf2)) k _ hy2
          have hyr := hx.holds hF hyh
          have hyr2 := hx.holds hF hyh2
          obtain ⟨A1, c1, xs1, hv1, hlc1, hc1, _⟩ := hyh
          cases hv1
          obtain ⟨A2, c2, xs2, hv2, hlc2, hc2, _⟩ := hyh2
          cases hv2
          have HX := Lib.hid hx
          have HS := Lib.hid (show Q ∧ l.length = m.length ∧ l.take k = m.take k from ⟨hab, hlen, htk⟩)
          have HY := Lib.hid hyr
          have HY2 := Lib.hid hyr2
          have HCX := Lib.hid hcx
          have HCX2 := Lib.hid hcx2
          have HT1 := Lib.hid (List.take_succ_eq_append_getElem hlt)
          have HT2 := Lib.hid (List.take_succ_eq_append_getElem hlt2)
          have HLM := Lib.hid (show l = m → l[k] = m[k] from fun h => by subst h; rfl)
          generalize l[k] = p at *
          generalize m[k] = q at *
          have k0 : (0 : Int) ≤ (k : Int) := by omega
          have k1 : (k : Int) < (l.length : Int) := by omega
          have k2 : (k : Int) < (m.length : Int) := by omega
          clear hs1 hs2 hx hyr hyr2 hcx hcx2 hy hy2 htk hlen
          go_wp2
          refine wp_region_since (by kernel_rfl) (by kernel_rfl) ?_
          repeat (go_big_quiet_step (exact fun _ => rfl))
          go_big_quiet_want
          refine quiet_cell 22 (.tmp 41) rfl _ rfl (.slice A1 p.length c1) _ Try.underlying22 rfl (fun W h => (World.cell?_of_block (h.ext.block _ (World.block_lt_of_cell? _ _ HCX.out) (by simp))).trans HCX.out) ?_
          simp only [Act.put, List.setIfInBounds_toArray, List.set_cons_succ, List.set_cons_zero]
          go_big_quiet_on
          go_big_quiet_want
          refine quiet_str 22 9 (.tmp 42) rfl 5 Try.underlying22 Try.underlying5 Try.underlying9 A1 _ c1 p rfl rfl (fun W h => src_bytes (h.ext.holds hF1 HY.out)) ?_
          simp only [Act.put, List.setIfInBounds_toArray, List.set_cons_succ, List.set_cons_zero]
          go_big_quiet_on
          repeat (go_big_quiet_step (exact fun _ => rfl))
          go_big_quiet_want
          refine quiet_cell 22 (.tmp 46) rfl _ rfl (.slice A2 q.length c2) _ Try.underlying22 rfl (fun W h => (World.cell?_of_block (h.ext.block _ (World.block_lt_of_cell? _ _ HCX2.out) (by simp))).trans HCX2.out) ?_
          simp only [Act.put, List.setIfInBounds_toArray, List.set_cons_succ, List.set_cons_zero]
          go_big_quiet_on
          go_big_quiet_want
          refine quiet_str 22 9 (.tmp 47) rfl 5 Try.underlying22 Try.underlying5 Try.underlying9 A2 _ c2 q rfl rfl (fun W h => src_bytes (h.ext.holds hF1 HY2.out)) ?_
          simp only [Act.put, List.setIfInBounds_toArray, List.set_cons_succ, List.set_cons_zero]
          go_big_quiet_on
          repeat (go_big_quiet_step (exact fun _ => rfl))
          refine wpQuiet_nil ?_
          rintro W hW
          have hx2 := HX.out.trans hW.ext
          rw [strOf_eq]
          have hs3 : decide (p = q) = true → Q ∧ l.length = m.length ∧ l.take (k + 1) = m.take (k + 1) := fun h => by
            have := of_decide_eq_true h
            subst this
            exact ⟨HS.out.1, HS.out.2.1, by rw [HT1.out, HT2.out, HS.out.2.2]⟩
          have hs4 : decide (p = q) = false → ¬(Q ∧ l = m) := fun h ⟨_, e⟩ => of_decide_eq_false h (HLM.out e)
          have HS3 := Lib.hid hs3
          have HS4 := Lib.hid hs4
          have HX2 := Lib.hid hx2
          clear hs3 hs4 hx2
          generalize decide (p = q) = sm2 at *
          go_wp2
          go_roundw
          case rel => exact ⟨k + 1, sm2, by omega, by go_num, rfl, HX2.out, HS3.out, HS4.out⟩
          case measure => simp [intOf]; omega
        · have hsame : ∃ same : Bool, sm = same ∧ (same = true → Q ∧ l = m) ∧ (same = false → ¬(Q ∧ l = m)) := by
            refine ⟨sm, rfl, fun h => ?_, hs2⟩
            obtain rfl : k = l.length := by
              have : ¬ k < l.length := fun hlt => hgo ⟨h, hlt⟩
              omega
            obtain ⟨h1, h2, h3⟩ := hs1 h
            rw [List.take_length, h2, List.take_length] at h3
            exact ⟨h1, h3⟩
          obtain ⟨same, rfl, hsa, hsb⟩ := hsame
          have hgo2 : sm = false ∨ ¬ k < l.length := by
            cases sm
            · exact .inl rfl
            · exact .inr fun h => hgo ⟨rfl, h⟩
          clear hs1 hs2 hgo
          have hXY : sm = decide (X = Y) := by
            cases sm
            · simp [mt HQX.out.2 (hsb rfl)]
            · simp [HQX.out.1 (hsa rfl)]
          clear hsa hsb
          have HX := Lib.hid hx
          clear hx
          cases sm
          · have hne : ((strOf X).toList == (strOf Y).toList) = false := by rw [strOf_eq, ← hXY]
            clear hgo2 hXY
            go_wp2
            refine startM Since (by kernel_rfl) ?_
            refine stepM 0 rfl (by kernel_rfl) rfl (fun K hK => ?_)
            go_simp
            refine (awake_true _).mono ?_
            rintro e W1 ⟨rfl, hW1⟩
            have hX1 := HX.out.trans ((Ext.refl wr).drew.trans hW1)
            refine hK _ _ (hW1) ?_
            clear hK K
            refine takeE 1 rfl (by kernel_rfl) (by kernel_rfl) (by kernel_rfl) rfl (fun _ _ _ _ h => h) rfl (fun K hK => ?_)
            go_big_quiet_op
            first | refine hK _ ?_ | refine ⟨_, fun _ _ => rfl, hK _ ?_⟩
            clear hK K
            refine takeE 2 rfl (by kernel_rfl) (by kernel_rfl) (by kernel_rfl) rfl (fun _ _ _ _ h => h) rfl (fun K hK => ?_)
            go_big_quiet_op
            first | refine hK _ ?_ | refine ⟨_, fun _ _ => rfl, hK _ ?_⟩
            clear hK K
            refine takeE 3 rfl (by kernel_rfl) (by kernel_rfl) (by kernel_rfl) rfl (fun _ _ _ _ h => h) rfl (fun K hK => ?_)
            go_big_quiet_op
            first | refine hK _ ?_ | refine ⟨_, fun _ _ => rfl, hK _ ?_⟩
            clear hK K
            refine takeE 6 rfl (by kernel_rfl) (by kernel_rfl) (by kernel_rfl) rfl (fun _ _ _ _ h => h) rfl (fun K hK => ?_)
            go_big_quiet_op
            first | refine hK _ ?_ | refine ⟨_, fun _ _ => rfl, hK _ ?_⟩
            clear hK K
            refine takeE 7 rfl (by kernel_rfl) (by kernel_rfl) (by kernel_rfl) rfl (fun _ _ _ _ h => h) rfl (fun K hK => ?_)
            go_big_quiet_op
            first | refine hK _ ?_ | refine ⟨_, fun _ _ => rfl, hK _ ?_⟩
            clear hK K
            refine takeE 11 rfl (by kernel_rfl) (by kernel_rfl) (by kernel_rfl) rfl (fun _ _ _ _ h => h) rfl (fun K hK => ?_)
            go_big_quiet_op
            first | refine hK _ ?_ | refine ⟨_, fun _ _ => rfl, hK _ ?_⟩
            clear hK K
            refine stepM 4 rfl (by kernel_rfl) rfl (fun K hK => ?_)
            go_simp
            refine (HTA.out _ hX1).mono ?_
            rintro e W2 ⟨A2, c2, rfl, hW2, hcv⟩
            have hX2 := hX1.trans hW2
            refine hK _ _ (hW2) ?_
            clear hK K
            refine takeE 5 rfl (by kernel_rfl) (by kernel_rfl) (by kernel_rfl) rfl (fun _ _ _ _ h => h) rfl (fun K hK => ?_)
            refine quiet_conv _ _ (.tmp 54) rfl _ _ rfl (fun w' hw' => hcv w' hw') ?_
            refine hK _ ?_
            simp only [Act.put, List.setIfInBounds_toArray, List.set_cons_succ, List.set_cons_zero]
            clear hK K
            refine stepM 8 rfl (by kernel_rfl) rfl (fun K hK => ?_)
            go_simp
            refine (HTB.out _ hX2).mono ?_
            rintro e W3 ⟨A3, c3, rfl, hW3, hcw⟩
            have hX3 := hX2.trans hW3
            refine hK _ _ (hW3) ?_
            clear hK K
            refine takeE 9 rfl (by kernel_rfl) (by kernel_rfl) (by kernel_rfl) rfl (fun _ _ _ _ h => h) rfl (fun K hK => ?_)
            refine quiet_conv _ _ (.tmp 58) rfl _ _ rfl (fun w' hw' => hcw w' hw') ?_
            refine hK _ ?_
            simp only [Act.put, List.setIfInBounds_toArray, List.set_cons_succ, List.set_cons_zero]
            clear hK K
            refine takeE 10 rfl (by kernel_rfl) (by kernel_rfl) (by kernel_rfl) rfl (fun _ _ _ _ h => h) rfl (fun K hK => ?_)
            go_big_quiet_op
            first | refine hK _ ?_ | refine ⟨_, fun _ _ => rfl, hK _ ?_⟩
            clear hK K
            refine takeE 12 rfl (by kernel_rfl) (by kernel_rfl) (by kernel_rfl) rfl (fun _ _ _ _ h => h) rfl (fun K hK => ?_)
            go_big_quiet_op
            first | refine hK _ ?_ | refine ⟨_, fun _ _ => rfl, hK _ ?_⟩
            clear hK K
            refine takeE 13 rfl (by kernel_rfl) (by kernel_rfl) (by kernel_rfl) rfl (fun _ _ _ _ h => h) rfl (fun K hK => ?_)
            go_big_quiet_op
            first | refine hK _ ?_ | refine ⟨_, fun _ _ => rfl, hK _ ?_⟩
            clear hK K
            refine takeE 14 rfl (by kernel_rfl) (by kernel_rfl) (by kernel_rfl) rfl (fun _ _ _ _ h => h) rfl (fun K hK => ?_)
            go_big_quiet_op
            first | refine hK _ ?_ | refine ⟨_, fun _ _ => rfl, hK _ ?_⟩
            clear hK K
            refine takeE 15 rfl (by kernel_rfl) (by kernel_rfl) (by kernel_rfl) rfl (fun _ _ _ _ h => h) rfl (fun K hK => ?_)
            go_big_quiet_op
            first | refine hK _ ?_ | refine ⟨_, fun _ _ => rfl, hK _ ?_⟩
            clear hK K
            refine takeE 16 rfl (by kernel_rfl) (by kernel_rfl) (by kernel_rfl) rfl (fun _ _ _ _ h => h) rfl (fun K hK => ?_)
            go_big_quiet_op
            first | refine hK _ ?_ | refine ⟨_, fun _ _ => rfl, hK _ ?_⟩
            clear hK K
            refine takeE 17 rfl (by kernel_rfl) (by kernel_rfl) (by kernel_rfl) rfl (fun _ _ _ _ h => h) rfl (fun K hK => ?_)
            go_big_quiet_op
            first | refine hK _ ?_ | refine ⟨_, fun _ _ => rfl, hK _ ?_⟩
            clear hK K
            refine skipE 18 rfl (by kernel_rfl) (by kernel_rfl) (by kernel_rfl) (fun _ _ _ _ h => h) rfl ?_
            (try simp only [Act.put, List.setIfInBounds_toArray, List.set_cons_succ, List.set_cons_zero])
            refine skipE 19 rfl (by kernel_rfl) (by kernel_rfl) (by kernel_rfl) (fun _ _ _ _ h => h) rfl ?_
            (try simp only [Act.put, List.setIfInBounds_toArray, List.set_cons_succ, List.set_cons_zero])
            refine skipE 20 rfl (by kernel_rfl) (by kernel_rfl) (by kernel_rfl) (fun _ _ _ _ h => h) rfl ?_
            (try simp only [Act.put, List.setIfInBounds_toArray, List.set_cons_succ, List.set_cons_zero])
            refine skipE 21 rfl (by kernel_rfl) (by kernel_rfl) (by kernel_rfl) (fun _ _ _ _ h => h) rfl ?_
            (try simp only [Act.put, List.setIfInBounds_toArray, List.set_cons_succ, List.set_cons_zero])
            refine skipE 22 rfl (by kernel_rfl) (by kernel_rfl) (by kernel_rfl) (fun _ _ _ _ h => h) rfl ?_
            (try simp only [Act.put, List.setIfInBounds_toArray, List.set_cons_succ, List.set_cons_zero])
            refine skipE 23 rfl (by kernel_rfl) (by kernel_rfl) (by kernel_rfl) (fun _ _ _ _ h => h) rfl ?_
            (try simp only [Act.put, List.setIfInBounds_toArray, List.set_cons_succ, List.set_cons_zero])
            refine skipE 24 rfl (by kernel_rfl) (by kernel_rfl) (by kernel_rfl) (fun _ _ _ _ h => h) rfl ?_
            (try simp only [Act.put, List.setIfInBounds_toArray, List.set_cons_succ, List.set_cons_zero])
            refine takeE 25 rfl (by kernel_rfl) (by kernel_rfl) (by kernel_rfl) rfl (fun _ _ _ _ h => h) rfl (fun K hK => ?_)
            go_big_quiet_op
            first | refine hK _ ?_ | refine ⟨_, fun _ _ => rfl, hK _ ?_⟩
            clear hK K
            refine takeE 26 rfl (by kernel_rfl) (by kernel_rfl) (by kernel_rfl) rfl (fun _ _ _ _ h => h) rfl (fun K hK => ?_)
            go_big_quiet_op
            first | refine hK _ ?_ | refine ⟨_, fun _ _ => rfl, hK _ ?_⟩
            clear hK K
            refine takeE 27 rfl (by kernel_rfl) (by kernel_rfl) (by kernel_rfl) rfl (fun _ _ _ _ h => h) rfl (fun K hK => ?_)
            go_big_quiet_op
            first | refine hK _ ?_ | refine ⟨_, fun _ _ => rfl, hK _ ?_⟩
            clear hK K
            refine doneM (by kernel_rfl) ?_ _
            go_wp2
            go_ret
            exact ⟨rfl, hX3⟩
          · have hle : ¬ k < l.length := by simpa using hgo2
            obtain rfl : X = Y := by simpa using hXY.symm
            have hne : ((strOf X).toList == (strOf X).toList) = true := by rw [strOf_eq]; simp
            clear hgo2 hXY
            go_wp2
            refine startM Since (by kernel_rfl) ?_
            refine stepM 0 rfl (by kernel_rfl) rfl (fun K hK => ?_)
            go_simp
            refine (awake_true _).mono ?_
            rintro e W1 ⟨rfl, hW1⟩
            have hX1 := HX.out.trans ((Ext.refl wr).drew.trans hW1)
            refine hK _ _ (hW1) ?_
            clear hK K
            refine takeE 1 rfl (by kernel_rfl) (by kernel_rfl) (by kernel_rfl) rfl (fun _ _ _ _ h => h) rfl (fun K hK => ?_)
            go_big_quiet_op
            first | refine hK _ ?_ | refine ⟨_, fun _ _ => rfl, hK _ ?_⟩
            clear hK K
            refine takeE 2 rfl (by kernel_rfl) (by kernel_rfl) (by kernel_rfl) rfl (fun _ _ _ _ h => h) rfl (fun K hK => ?_)
            go_big_quiet_op
            first | refine hK _ ?_ | refine ⟨_, fun _ _ => rfl, hK _ ?_⟩
            clear hK K
            refine takeE 3 rfl (by kernel_rfl) (by kernel_rfl) (by kernel_rfl) rfl (fun _ _ _ _ h => h) rfl (fun K hK => ?_)
            go_big_quiet_op
            first | refine hK _ ?_ | refine ⟨_, fun _ _ => rfl, hK _ ?_⟩
            clear hK K
            refine takeE 6 rfl (by kernel_rfl) (by kernel_rfl) (by kernel_rfl) rfl (fun _ _ _ _ h => h) rfl (fun K hK => ?_)
            go_big_quiet_op
            first | refine hK _ ?_ | refine ⟨_, fun _ _ => rfl, hK _ ?_⟩
            clear hK K
            refine takeE 7 rfl (by kernel_rfl) (by kernel_rfl) (by kernel_rfl) rfl (fun _ _ _ _ h => h) rfl (fun K hK => ?_)
            go_big_quiet_op
            first | refine hK _ ?_ | refine ⟨_, fun _ _ => rfl, hK _ ?_⟩
            clear hK K
            refine takeE 11 rfl (by kernel_rfl) (by kernel_rfl) (by kernel_rfl) rfl (fun _ _ _ _ h => h) rfl (fun K hK => ?_)
            go_big_quiet_op
            first | refine hK _ ?_ | refine ⟨_, fun _ _ => rfl, hK _ ?_⟩
            clear hK K
            refine stepM 4 rfl (by kernel_rfl) rfl (fun K hK => ?_)
            go_simp
            refine (HTA.out _ hX1).mono ?_
            rintro e W2 ⟨A2, c2, rfl, hW2, hcv⟩
            have hX2 := hX1.trans hW2
            refine hK _ _ (hW2) ?_
            clear hK K
            refine takeE 5 rfl (by kernel_rfl) (by kernel_rfl) (by kernel_rfl) rfl (fun _ _ _ _ h => h) rfl (fun K hK => ?_)
            refine quiet_conv _ _ (.tmp 54) rfl _ _ rfl (fun w' hw' => hcv w' hw') ?_
            refine hK _ ?_
            simp only [Act.put, List.setIfInBounds_toArray, List.set_cons_succ, List.set_cons_zero]
            clear hK K
            refine stepM 8 rfl (by kernel_rfl) rfl (fun K hK => ?_)
            go_simp
            refine (HTB.out _ hX2).mono ?_
            rintro e W3 ⟨A3, c3, rfl, hW3, hcw⟩
            have hX3 := hX2.trans hW3
            refine hK _ _ (hW3) ?_
            clear hK K
            refine takeE 9 rfl (by kernel_rfl) (by kernel_rfl) (by kernel_rfl) rfl (fun _ _ _ _ h => h) rfl (fun K hK => ?_)
            refine quiet_conv _ _ (.tmp 58) rfl _ _ rfl (fun w' hw' => hcw w' hw') ?_
            refine hK _ ?_
            simp only [Act.put, List.setIfInBounds_toArray, List.set_cons_succ, List.set_cons_zero]
            clear hK K
            refine takeE 10 rfl (by kernel_rfl) (by kernel_rfl) (by kernel_rfl) rfl (fun _ _ _ _ h => h) rfl (fun K hK => ?_)
            go_big_quiet_op
            first | refine hK _ ?_ | refine ⟨_, fun _ _ => rfl, hK _ ?_⟩
            clear hK K
            refine takeE 12 rfl (by kernel_rfl) (by kernel_rfl) (by kernel_rfl) rfl (fun _ _ _ _ h => h) rfl (fun K hK => ?_)
            go_big_quiet_op
            first | refine hK _ ?_ | refine ⟨_, fun _ _ => rfl, hK _ ?_⟩
            clear hK K
            refine takeE 13 rfl (by kernel_rfl) (by kernel_rfl) (by kernel_rfl) rfl (fun _ _ _ _ h => h) rfl (fun K hK => ?_)
            go_big_quiet_op
            first | refine hK _ ?_ | refine ⟨_, fun _ _ => rfl, hK _ ?_⟩
            clear hK K
            refine takeE 14 rfl (by kernel_rfl) (by kernel_rfl) (by kernel_rfl) rfl (fun _ _ _ _ h => h) rfl (fun K hK => ?_)
            go_big_quiet_op
            first | refine hK _ ?_ | refine ⟨_, fun _ _ => rfl, hK _ ?_⟩
            clear hK K
            refine takeE 15 rfl (by kernel_rfl) (by kernel_rfl) (by kernel_rfl) rfl (fun _ _ _ _ h => h) rfl (fun K hK => ?_)
            go_big_quiet_op
            first | refine hK _ ?_ | refine ⟨_, fun _ _ => rfl, hK _ ?_⟩
            clear hK K
            refine takeE 16 rfl (by kernel_rfl) (by kernel_rfl) (by kernel_rfl) rfl (fun _ _ _ _ h => h) rfl (fun K hK => ?_)
            go_big_quiet_op
            first | refine hK _ ?_ | refine ⟨_, fun _ _ => rfl, hK _ ?_⟩
            clear hK K
            refine takeE 17 rfl (by kernel_rfl) (by kernel_rfl) (by kernel_rfl) rfl (fun _ _ _ _ h => h) rfl (fun K hK => ?_)
            go_big_quiet_op
            first | refine hK _ ?_ | refine ⟨_, fun _ _ => rfl, hK _ ?_⟩
            clear hK K
            refine takeE 18 rfl (by kernel_rfl) (by kernel_rfl) (by kernel_rfl) rfl (fun _ _ _ _ h => h) rfl (fun K hK => ?_)
            go_big_quiet_op
            first | refine hK _ ?_ | refine ⟨_, fun _ _ => rfl, hK _ ?_⟩
            clear hK K
            refine takeE 19 rfl (by kernel_rfl) (by kernel_rfl) (by kernel_rfl) rfl (fun _ _ _ _ h => h) rfl (fun K hK => ?_)
            go_big_quiet_op
            first | refine hK _ ?_ | refine ⟨_, fun _ _ => rfl, hK _ ?_⟩
            clear hK K
            refine takeE 21 rfl (by kernel_rfl) (by kernel_rfl) (by kernel_rfl) rfl (fun _ _ _ _ h => h) rfl (fun K hK => ?_)
            go_big_quiet_op
            first | refine hK _ ?_ | refine ⟨_, fun _ _ => rfl, hK _ ?_⟩
            clear hK K
            refine takeE 22 rfl (by kernel_rfl) (by kernel_rfl) (by kernel_rfl) rfl (fun _ _ _ _ h => h) rfl (fun K hK => ?_)
            go_big_quiet_op
            first | refine hK _ ?_ | refine ⟨_, fun _ _ => rfl, hK _ ?_⟩
            clear hK K
            refine stepM 20 rfl (by kernel_rfl) rfl (fun K hK => ?_)
            go_simp
            refine (HFA.out _ hX3).mono ?_
            rintro e W4 ⟨rfl, hW4⟩
            have hX4 := hX3.trans hW4
            refine hK _ _ (hW4) ?_
            clear hK K
            refine stepM 23 rfl (by kernel_rfl) rfl (fun K hK => ?_)
            go_simp
            refine (HFB.out _ hX4).mono ?_
            rintro e W5 ⟨rfl, hW5⟩
            have hX5 := hX4.trans hW5
            refine hK _ _ (hW5) ?_
            clear hK K
            refine takeE 24 rfl (by kernel_rfl) (by kernel_rfl) (by kernel_rfl) rfl (fun _ _ _ _ h => h) rfl (fun K hK => ?_)
            refine quiet_eqSame 25 _ (.tmp 70) (.tmp 73) rfl 5 32 Try.underlying25 Try.underlying5 (by kernel_rfl) hgt (sha X) rfl rfl (sha_length _) ?_
            refine hK _ ?_
            simp only [Act.put, List.setIfInBounds_toArray, List.set_cons_succ, List.set_cons_zero]
            clear hK K
            refine takeE 25 rfl (by kernel_rfl) (by kernel_rfl) (by kernel_rfl) rfl (fun _ _ _ _ h => h) rfl (fun K hK => ?_)
            go_big_quiet_op
            first | refine hK _ ?_ | refine ⟨_, fun _ _ => rfl, hK _ ?_⟩
            clear hK K
            refine takeE 26 rfl (by kernel_rfl) (by kernel_rfl) (by kernel_rfl) rfl (fun _ _ _ _ h => h) rfl (fun K hK => ?_)
            go_big_quiet_op
            first | refine hK _ ?_ | refine ⟨_, fun _ _ => rfl, hK _ ?_⟩
            clear hK K
            refine takeE 27 rfl (by kernel_rfl) (by kernel_rfl) (by kernel_rfl) rfl (fun _ _ _ _ h => h) rfl (fun K hK => ?_)
            go_big_quiet_op
            first | refine hK _ ?_ | refine ⟨_, fun _ _ => rfl, hK _ ?_⟩
            clear hK K
            refine doneM (by kernel_rfl) ?_ _
            go_wp2
            go_ret
            exact ⟨rfl, hX5⟩
theorem mass_bytes : ∀ (p : List UInt8), sumOf Ty.u8.mass p = p.length
  | [] => rfl
  | x :: p => by
    have h := mass_bytes p
    have e : sumOf Ty.u8.mass (x :: p) = 1 + sumOf Ty.u8.mass p := rfl
    rw [e, h, List.length_cons]; omega
theorem mass_parts : ∀ (l : List (List UInt8)), (l.flatMap blob).length ≤ 4 * sumOf (Ty.sl .u8).mass l ∧ ∀ p ∈ l, p.length ≤ sumOf (Ty.sl .u8).mass l
  | [] => by simp [sumOf]
  | q :: l => by
    obtain ⟨h1, h2⟩ := mass_parts l
    have hq : (Ty.sl .u8).mass q = q.length + 1 := congrArg (· + 1) (mass_bytes q)
    refine ⟨?_, fun p hp => ?_⟩
    · rw [List.flatMap_cons, List.length_append]
      simp only [sumOf, hq, blob, List.length_append, be_length] at *
      omega
    · simp only [sumOf, hq]
      rcases List.mem_cons.1 hp with rfl | hp
      · omega
      · have := h2 p hp; omega
theorem apart_upto (a b : UInt8) (v u : Value) (l m : List (List UInt8)) (w : World) (F : Fp) (hp : (Ty.sl (.sl .u8)).holds w F [v] l) (hq : (Ty.sl (.sl .u8)).holds w F [u] m) (hF : ∀ b, F b → b < w.heap.size)
    (h1 : (Ty.sl (.sl .u8)).mass l ≤ 1048576) (h2 : (Ty.sl (.sl .u8)).mass m ≤ 1048576) :
    Calls Try.prog 5 #[.int .u8 a.toNat, .int .u8 b.toNat, v, u] w fun e w' => e = .returned (.bool true) ∧ Ext w w' := by
  have e1 : (Ty.sl (.sl .u8)).mass l = sumOf (Ty.sl .u8).mass l + 1 := rfl
  have e2 : (Ty.sl (.sl .u8)).mass m = sumOf (Ty.sl .u8).mass m + 1 := rfl
  obtain ⟨k1, k2⟩ := mass_parts l
  obtain ⟨k3, k4⟩ := mass_parts m
  exact apart_walk a b v u l m w F hp hq hF (fun p hp => by have := k2 p hp; omega) (fun p hp => by have := k4 p hp; omega) (by omega) (by omega)
end Go.Proofs.Ytklljkfnlakdaaa

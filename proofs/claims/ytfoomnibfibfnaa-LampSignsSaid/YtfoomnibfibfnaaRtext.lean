/- The walk of the reference's Text. Condition: the texts come to fewer than 2^40 bytes. -/
import Derived.Test.YtfoomnibfibfnaaOf
set_option linter.unusedVariables false
set_option linter.unusedSimpArgs false
set_option linter.unnecessarySimpa false
namespace Go.Proofs.Ytfoomnibfibfnaa
open Go.RowKit

theorem four_bytes (n : Nat) (a b c d : Int) (h1 : a = ((n / 16777216 : Nat) : Int) % 256) (h2 : b = ((n / 65536 : Nat) : Int) % 256) (h3 : c = ((n / 256 : Nat) : Int) % 256) (h4 : d = (n : Int) % 256) :
    [Value.int .u8 a, Value.int .u8 b, Value.int .u8 c, Value.int .u8 d] = bv (be 4 n) := by
  subst h1 h2 h3 h4
  simp only [be, bv, List.map_cons, List.map_nil, UInt8.toNat_ofNat', Nat.reducePow, Nat.div_one]
  simp only [Int.natCast_emod]
  rfl

theorem four_list (n : Nat) : bv (be 4 n) = [Value.int .u8 ((n : Int) / 16777216 % 256), Value.int .u8 ((n : Int) / 65536 % 256), Value.int .u8 ((n : Int) / 256 % 256), Value.int .u8 ((n : Int) % 256)] := (four_bytes n _ _ _ _ (by omega) (by omega) (by omega) (by omega)).symm
set_option maxRecDepth 100000 in
set_option maxHeartbeats 1000000 in
theorem Ref_Text (d : UInt8) (v : Value) (ps : List (List UInt8)) (w : World) (F : Fp) (hp : (Ty.sl (.sl .u8)).holds w F [v] ps) (hF : ∀ b, F b → b < w.heap.size) (hb : (ps.flatMap blob).length < 1099511627776) :
    Calls Try.prog 46 #[.int .u8 d.toNat, v] w fun e w' => ∃ v', e = .returned v' ∧ OwnB w' v' (textM d ps) ∧ Fresh w w' v' := by
  obtain ⟨i0, hi, hz0, hz1, hz2⟩ := info_parts u8_info
  obtain ⟨A, c, xs, hv, hlc, hc, hA, hcell, hall⟩ := hp
  cases hv
  unfold maxLen at hc
  obtain ⟨lb, hlb⟩ : ∃ lb : UInt8, lb = UInt8.ofNat ps.length := ⟨_, rfl⟩
  have hlb1 : (ps.length : Int) % 256 = (lb.toNat : Int) := by rw [hlb, UInt8.toNat_ofNat']; omega
  have HLB := Lib.hid hlb
  clear hlb
  go_enter Try.func46, Try.ntmps46
  go_wp2
  have hst : OwnB (w.alloc (.cells #[Value.int .u8 (d.toNat : Int), Value.int .u8 (lb.toNat : Int)] 5)) (.slice (some ⟨w.heap.size, 0, none⟩) 2 2) ([d, lb] ++ (ps.take 0).flatMap blob) := own_lit (cs := bv [d, lb]) rfl rfl (by simp [maxLen])
  have hfr : Fresh w (w.alloc (.cells #[Value.int .u8 (d.toNat : Int), Value.int .u8 (lb.toNat : Int)] 5)) (.slice (some ⟨w.heap.size, 0, none⟩) 2 2) := ⟨((Ext.refl w).alloc _).any _, .inr (by intro g hg; cases hg; exact Nat.le_refl _)⟩
  clear hlb1
  go_loopw [5, 6] (fun vb i wr => ∃ k : Nat, k ≤ ps.length ∧ i = .int .i64 k ∧ OwnB wr vb ([d, lb] ++ (ps.take k).flatMap blob) ∧ Fresh w wr vb) (fun _ i _ => ps.length - (intOf i).toNat)
  case atStart => exact ⟨0, by omega, rfl, hst, hfr⟩
  case round =>
    clear hst hfr
    obtain ⟨k, hk, rfl, ho, hfr⟩ := hrel
    by_cases hlt : k < ps.length
    · have hx : Ext w wr := Fresh.ext hfr
      obtain ⟨ad, rfl, hf, hcells⟩ := hcell (by rintro rfl; simp at hlt)
      obtain ⟨y, hy, hyh⟩ := AllH.sl_at hall hlt
      have hcx := (hcells.keep (hx.same hF _ hf)) k _ hy
      have HYW := Lib.hid hyh
      have HYC := Lib.hid hy
      obtain ⟨A1, c1, xs1, hv1, hlc1, hc1, _⟩ := hyh
      cases hv1
      unfold maxLen at hc1
      have hbd := flat_len_step blob ps k hlt
      have hbl : (blob ps[k]).length = 4 + ps[k].length := by simp [blob, be_length]
      have hstep := flat_step blob ps k hlt
      rw [hbl] at hbd
      generalize hB : [d, lb] ++ (ps.take k).flatMap blob = B at *
      have hBl : B.length = 2 + ((ps.take k).flatMap blob).length := by rw [← hB]; simp; omega
      have hnew : [d, lb] ++ (ps.take (k + 1)).flatMap blob = (B ++ be 4 ps[k].length) ++ ps[k] := by rw [hstep, ← hB]; simp [blob]
      have HNEW := Lib.hid hnew
      clear hbl hstep hy hnew hB
      generalize hpk : ps[k] = p at *
      clear hpk
      have HBL := Lib.hid hBl
      have hB40 : B.length + 4 + p.length < 1099511627790 := by omega
      have q1 : (0 : Int) ≤ (p.length : Int) := by omega
      clear hBl
      go_wp2_with (first
        | (at_builtin; refine wpList_app _ rfl (.tmp 24) (.tmp 36) _ _ rfl _ _ i0 _ 1 1 Try.underlying55 Try.underlying55 hi hz0 hz1 hz2 rfl (by decide) _ _ _ rfl (Own.ext ho ((Ext.refl _).alloc _)) _ _ _ [Value.int .u8 _, Value.int .u8 _, Value.int .u8 _, Value.int .u8 _] rfl rfl (src_new _ _ _ _) (by simp [Value.oneCell']) (by unfold maxLen; omega) (by omega) ?_; intro v3 w3 ho3 hm3; have hfr3 : Fresh w w3 v3 := hfr.trans (Moved.pre ((Ext.refl _).alloc _) hm3); have hcx3 := (hcells.keep ((Fresh.ext hfr3).same hF _ hf)) k _ HYC.out; have ho3 : OwnB w3 v3 (B ++ be 4 p.length) := OwnB.app (by rw [be_length, four_list]; exact ho3); have hbl3 : (B ++ be 4 p.length).length = B.length + 4 := by simp [be_length])
        | (at_builtin; refine wpList_app _ rfl (.tmp 38) (.tmp 42) _ _ rfl _ _ i0 _ 1 1 Try.underlying55 Try.underlying55 hi hz0 hz1 hz2 rfl (by decide) _ _ _ rfl ho3 _ _ _ (bv p) rfl (by simp) (src_bytes ((Fresh.ext hfr3).holds hF HYW.out)) (bv_one _) (by rw [hbl3]; unfold maxLen; omega) (by rw [hbl3]; omega) ?_; intro v4 w4 ho4 hm4)
        | fail)
      go_roundw
      case rel =>
        exact ⟨k + 1, by omega, by go_num, by rw [HNEW.out]; exact OwnB.app ho4, hfr3.trans hm4⟩
      case measure => simp [intOf]; omega
    · obtain rfl : k = ps.length := by omega
      go_wp2
      go_ret
      refine ⟨_, rfl, ?_, hfr⟩
      have e : [d, lb] ++ (ps.take ps.length).flatMap blob = textM d ps := by rw [List.take_length, HLB.out]; rfl
      rw [← e]; exact ho
end Go.Proofs.Ytfoomnibfibfnaa

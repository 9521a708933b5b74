/- Walk of the law PactKeeps. Conditions: the numbers are in their bounds. -/
import Derived.Test.YtnpolfihbfdggaaPTurns2
import Derived.Test.YtnpolfihbfdggaaPKeepsM
set_option linter.unusedVariables false
set_option linter.unusedSimpArgs false
set_option linter.unnecessarySimpa false
namespace Go.Proofs.Ytnpolfihbfdggaa
open Go.RowKit

theorem rop_zero : (Try.prog.info? 32).bind (fun i => i.zero.map (·.cells)) = some zop.toArray := by kernel_rfl
/-- One of a list of wishes. -/
theorem wishes_at {w w' : World} {F : Fp} {xs : List Value} {l : List WishT.Data} {ad : Addr} {k : Nat} (hall : AllH (WishT.holds w F) xs l) (hc : Cells w' ad xs) (hk : k < l.length) :
    ∃ o : Wish, Cells w' (ad.add (k * 39)) (wishCells o) ∧ CondOk o.c ∧ o.am < M64 ∧ o.id < M64 ∧ (Lit.int .i64 o.kind).wf = true := by
  have h := AllH.elem hall hk
  obtain ⟨o, ho, hok⟩ := wish_holds h
  have e : WishT.size = 39 := rfl
  rw [e] at ho
  have h3 := (hc.drop (k * 39)).take 39
  rw [ho] at h3
  exact ⟨o, h3, hok⟩
theorem add_one (a : Addr) : a.add 1 = ⟨a.block, a.off + 1, none⟩ := by simp [Addr.add]
/-- What is kept round by round. -/
structure KeepInv (w wr : World) (g5 : Nat) (PC : List Value) (p0 p1 : Nat) (s : St) (v : Value) : Prop where
  ext : Ext w wr
  pc : Blk wr w.heap.size 24 PC
  st : Blk wr g5 36 (stc s v)
  own : OwnC wr v s.cs
  far : ∀ b, v.ownBlock = some b → w.heap.size + 1 ≤ b ∧ b ≠ g5
  ok : StOk s
  snd : soundM s p0 p1 = 0
theorem keep_next {w w13 : World} {g5 : Nat} {PC XC R : List Value} {p0 p1 : Nat} {n : St} {v2 : Value} (hx : Ext w w13) (hpc : Blk w13 w.heap.size 24 PC) (hr5 : w13.heap[g5]? = some (.cells XC.toArray 36 (0, 0))) (hon : OwnC w13 v2 n.cs) (hfn : ∀ b, v2.ownBlock = some b → w.heap.size + 1 ≤ b ∧ b ≠ g5) (hok : StOk n) (hs : soundM n p0 p1 = 0) (hR : R = stc n v2) (hg : w.heap.size + 1 ≤ g5) :
    KeepInv w (w13.setRow g5 R.toArray) g5 PC p0 p1 n v2 :=
  ⟨grown_then hx (setRow_only _) (.inr (by rintro b ⟨⟩; omega)), hpc.keep (setRow_only _) (by simp; omega), by rw [← hR]; exact setRow_at hr5, hon.keep (setRow_only _) (fun b hb e => (hfn b hb).2 (by simpa using e)), hfn, hok, hs⟩
set_option maxRecDepth 100000 in
set_option maxHeartbeats 4000000 in
theorem Keeps1 (p0 p1 : Nat) (ops : List WishT.Data) (A : Option Addr) (c : Nat) (w : World) (F : Fp) (PC Z ZO : List Value) (hPC : ptc p0 p1 = PC) (hp0 : p0 < M64) (hp1 : p1 < M64) (hl : (Ty.sl WishT).holds w F [.slice A (List.length (α := WishT.Data) ops) c] ops) (hF : ∀ b, F b → b < w.heap.size)
    (hz : (Try.prog.info? 36).bind (fun i => i.zero.map (·.cells)) = some Z.toArray) (hzl : Z.length = 7) (hzo : (Try.prog.info? 32).bind (fun i => i.zero.map (·.cells)) = some ZO.toArray) (hzol : ZO.length = 39) :
    Calls Try.prog 4 #[.agg PC.toArray, .slice A (List.length (α := WishT.Data) ops) c] w fun e w' => e = .returned (.bool true) ∧ Ext w w' := by
  obtain ⟨A', c', xs, hv, hlc, hcm, hA, hcell, hall⟩ := hl
  cases hv
  unfold maxLen at hcm
  have hpl : PC.length = 2 := by rw [← hPC]; rfl
  have HPL := Lib.hid hpl
  have HPC := Lib.hid hPC
  have HZL := Lib.hid hzl
  have HZOL := Lib.hid hzol
  have HALL := Lib.hid hall
  clear hpl hPC hzl hzol hall
  go_enter Try.func4, Try.ntmps4
  go_wp2_with (first
    | (go_at_call 16; refine (New 1 _ (by decide)).mono ?_; rintro e w1 ⟨rfl, hx1⟩)
    | (refine wpList_alloc _ rfl 36 rfl _ hz ?_)
    | (refine wpList_store_new _ rfl 36 (.tmp 5) (.tmp 18) rfl rfl Z (stc s1 (.slice none 0 0)) _ rfl (state_size rfl) (by rw [HZL.out]; rfl) (stc_one _ _ _ _) ?_)
    | fail)
  have hI : KeepInv w (w1.alloc (.cells (stc s1 (.slice none 0 0)).toArray 36)) w1.heap.size PC p0 p1 s1 (.slice none 0 0) := by
    refine ⟨(((Ext.refl w).alloc _).trans hx1).alloc _, ((Blk.new w _ PC).keep hx1 (by simp)).keep ((Ext.refl _).alloc _) (by simp), Blk.new _ _ _, ⟨by simp [s1, St.zero], Own.nil _ _ _⟩, by simp [Value.ownBlock], s1_ok, ?_⟩
    simp [soundM, s1, St.zero, badM, freeM, heldM, ams, sumM, pick2, subL, hp0, hp1]
  have hg5 : w.heap.size + 1 ≤ w1.heap.size := by have := hx1.size; simpa using this
  generalize w1.alloc (.cells (stc s1 (.slice none 0 0)).toArray 36) = wI at *
  generalize w1.heap.size = g5 at *
  have HI := Lib.hid hI
  clear hI hx1
  go_loopw [6, 7, 8, 9, 10, 11, 12, 13, 14, 15, 16, 17, 21] (fun _ _ _ _ _ _ _ _ _ _ _ _ i wr => ∃ (k : Nat) (s : St) (v : Value), k ≤ List.length (α := WishT.Data) ops ∧ i = .int .i64 k ∧ KeepInv w wr g5 PC p0 p1 s v) (fun _ _ _ _ _ _ _ _ _ _ _ _ i _ => List.length (α := WishT.Data) ops - (intOf i).toNat)
  case atStart => exact ⟨0, _, _, by omega, rfl, HI.out⟩
  case round =>
    clear HI
    obtain ⟨k, s, v, hk, rfl, hI⟩ := hrel
    by_cases hlt : k < List.length (α := WishT.Data) ops
    · obtain ⟨ad, rfl, hf, hcells⟩ := hcell (by intro h; rw [h] at hlt; exact absurd hlt (Nat.not_lt_zero _))
      obtain ⟨o, hoc, hok, ham, hid, hkw⟩ := wishes_at HALL.out (hcells.keep (hI.ext.same hF _ hf)) hlt
      have hol := wishCells_len hok
      have hone := wish_one o
      have HOL := Lib.hid hol
      have ho3 : (wishCells o)[3]? = some (.int .i64 o.c.2.1) := rfl
      generalize hOC : wishCells o = OC at *
      have HOC := Lib.hid hOC
      clear hOC hol hcells
      obtain ⟨XC, hXC⟩ : ∃ XC, XC = stc s v := ⟨_, rfl⟩
      obtain ⟨rd, hrd⟩ : ∃ rd, rd = s.round := ⟨_, rfl⟩
      have hr200 : rd ≤ 200 := by rw [hrd]; exact (sound_zero hI.snd).1
      have d1 : (wr.alloc (.cells OC.toArray 32)).cell? ⟨g5, 1, none⟩ = some (.int .u64 (rd : Int)) := ((hI.st.keep ((Ext.refl wr).alloc _) (by simp)).cell 1).trans (by rw [hrd]; rfl)
      have hbO : Blk (wr.alloc (.cells OC.toArray 32)) wr.heap.size 32 OC := Blk.new _ _ _
      have c3 := (hbO.cell 3).trans ho3
      have f3 := hbO.free 3
      have hb01 := turn_side (rd + 1)
      have htn : ∀ W, Calls Try.prog 17 #[.int .u64 ((rd : Int) + 1)] W fun e w' => e = .returned (.int .i64 (turnM (rd + 1))) ∧ W = w' := fun W => by
        have h := Turn (rd + 1) W (by unfold M64; omega)
        simpa using h
      obtain ⟨b, hb⟩ : ∃ b, b = turnM (rd + 1) := ⟨_, rfl⟩
      rw [← hb] at htn hb01
      have HTN := Lib.hid htn
      have HB := Lib.hid hb
      have HB01 := Lib.hid hb01
      have HI := Lib.hid hI
      have HXC := Lib.hid hXC
      have HRD := Lib.hid hrd
      clear htn hI hXC hb hb01 hrd hbO ho3
      by_cases h40 : 40 ≤ k
      · go_wp2_with (first
          | (refine wpList_load_agg _ rfl 32 (.tmp 24) rfl _ rfl OC _ Try.underlying32 rfl (rop_size HOL.out) hoc ?_)
          | (refine wpList_alloc _ rfl 32 rfl _ hzo ?_)
          | (refine wpList_store_new _ rfl 32 (.tmp 7) (.tmp 25) rfl rfl ZO OC _ rfl (rop_size HOL.out) (by rw [HOL.out, HZOL.out]) hone ?_)
          | (go_at_call 9; refine (Awake _).mono ?_; rintro e w9 ⟨rfl, hx9⟩)
          | fail)
        go_ret
        exact ⟨rfl, (HI.out.ext.alloc _).trans hx9⟩
      · go_wp2_with (first
          | (refine wpList_load_agg _ rfl 32 (.tmp 24) rfl _ rfl OC _ Try.underlying32 rfl (rop_size HOL.out) hoc ?_)
          | (refine wpList_alloc _ rfl 32 rfl _ hzo ?_)
          | (refine wpList_store_new _ rfl 32 (.tmp 7) (.tmp 25) rfl rfl ZO OC _ rfl (rop_size HOL.out) (by rw [HOL.out, HZOL.out]) hone ?_)
          | (go_at_call 17; refine (HTN.out _).mono ?_; rintro e _ ⟨rfl, rfl⟩)
          | fail)
        obtain ⟨o', ho'⟩ : ∃ o' : Wish, o' = { o with c := (o.c.1, b, o.c.2.2) } := ⟨_, rfl⟩
        have hset : OC.set 3 (.int .i64 b) = wishCells o' := by rw [← HOC.out, ho']; rfl
        have hok' : CondOk o'.c := by rw [ho']; exact ⟨hok.id, by rcases HB01.out with e | e <;> (show (Lit.int .i64 b).wf = true; rw [e]; decide), hok.am, hok.hash, hok.exp⟩
        have ham' : o'.am < M64 := by rw [ho']; exact ham
        have hdl := wishCells_len hok'
        have hop := fun W => Op12 o' W hok'
        rw [hset]
        have hnx : NextJ Z XC PC (wishCells o') v s.cs b (nextM s p0 p1 b o').1 (nextM s p0 p1 b o').2 := by
          intro w0 al W ho hJ
          have h8 := (sound_zero HI.out.snd).2.1
          rw [HXC.out, ← HPC.out]
          refine (Next s v p0 p1 b o' W _ HI.out.ok hp0 hp1 hok' ham' (OwnC.holds (ho.ext hJ.ext)) (OwnC.lt (ho.ext hJ.ext)) (by omega)).mono ?_
          rintro e w' ⟨v2, rfl, ho2, hx, hn⟩
          exact ⟨_, v2, rfl, rfl, hJ.own' hx ho2 hn⟩
        obtain ⟨n, hn⟩ : ∃ n, n = (nextM s p0 p1 b o').1 := ⟨_, rfl⟩
        obtain ⟨z, hz'⟩ : ∃ z, z = (nextM s p0 p1 b o').2 := ⟨_, rfl⟩
        have e0 : (wishCells o')[0]? = some (.int .i64 o'.kind) := rfl
        have e38 := wish_38 hok'
        rw [← hn, ← hz'] at hnx
        generalize hDC : wishCells o' = DC at *
        have HDC := Lib.hid hDC
        have HN := Lib.hid hn
        have HZ' := Lib.hid hz'
        have HDL := Lib.hid hdl
        have HOP := Lib.hid hop
        have HN1 := Lib.hid hnx
        have HOK' := Lib.hid hok'
        have HO' := Lib.hid ho'
        have hXI : Ext wr (wr.alloc (.cells DC.toArray 32)).drew := ((Ext.refl wr).alloc _).drew
        have hb2 : Blk (wr.alloc (.cells DC.toArray 32)).drew wr.heap.size 32 DC := Blk.new wr _ _
        have hgw : g5 < wr.heap.size := HI.out.st.lt
        have hgp : w.heap.size < wr.heap.size := HI.out.pc.lt
        have hvw : ∀ b, v.ownBlock = some b → b < wr.heap.size := HI.out.own.lt
        refine startM (KeepB fun b => b < (wr.alloc (.cells DC.toArray 32)).drew.heap.size) (by kernel_rfl) ?_
        generalize (wr.alloc (.cells DC.toArray 32)).drew = w0 at *
        generalize wr.heap.size = g7 at *
        have hbx := HI.out.st.keep hXI (by simp)
        rw [← HXC.out] at hbx
        have hb1 := HI.out.pc.keep hXI (by simp)
        have hov2 := HI.out.own.ext hXI
        have hx3 := HI.out.ext.trans hXI
        have hxl : XC.length = 7 := by rw [HXC.out]; rfl
        have HXL := Lib.hid hxl
        have hcx := hbx.cells
        have hcp := hb1.cells
        have hco := hb2.cells
        have HBX := Lib.hid hbx
        have HBP := Lib.hid hb1
        have HBO := Lib.hid hb2
        have HCX := Lib.hid hcx
        have HCP := Lib.hid hcp
        have HCO := Lib.hid hco
        have HOX := Lib.hid hov2
        have HX3 := Lib.hid hx3
        have hJ := NJ.start w0 Z
        have HJ := Lib.hid hJ
        have HVW := Lib.hid hvw
        clear hbx hb1 hb2 hcx hcp hco hov2 hx3 hJ d1 c3 f3 hDC hn hz' hdl hop hnx hok' ho' hvw hXI hxl
        apply sharedL (fun g R W => ∃ v2, R = stc n v2 ∧ NJ w0 Z (some g) W v2 n.cs)
        · intro hM
          refine takeK 0 rfl (by kernel_rfl) (by kernel_rfl) (by kernel_rfl) rfl (fun _ _ _ _ h => h) rfl (fun K hK => ?_)
          refine quiet_agg 36 (.tmp 5) rfl _ rfl XC _ Try.underlying36 rfl (state_size HXL.out) (fun W' h => KeepB.cells h HCX.out (HBX.out.lt)) ?_
          refine hK _ ?_
          simp only [Act.put, List.setIfInBounds_toArray, List.set_cons_succ, List.set_cons_zero]
          clear hK K
          refine takeK 1 rfl (by kernel_rfl) (by kernel_rfl) (by kernel_rfl) rfl (fun _ _ _ _ h => h) rfl (fun K hK => ?_)
          refine quiet_agg 24 (.tmp 2) rfl _ rfl PC _ Try.underlying24 rfl (by rw [HPL.out]; kernel_rfl) (fun W' h => KeepB.cells h HCP.out (HBP.out.lt)) ?_
          refine hK _ ?_
          simp only [Act.put, List.setIfInBounds_toArray, List.set_cons_succ, List.set_cons_zero]
          clear hK K
          refine takeK 2 rfl (by kernel_rfl) (by kernel_rfl) (by kernel_rfl) rfl (fun _ _ _ _ h => h) rfl (fun K hK => ?_)
          go_big_quiet_op
          first | refine hK _ ?_ | refine ⟨_, fun _ _ => rfl, hK _ ?_⟩
          clear hK K
          refine takeK 3 rfl (by kernel_rfl) (by kernel_rfl) (by kernel_rfl) rfl (fun _ _ _ _ h => h) rfl (fun K hK => ?_)
          refine quiet_agg 32 (.tmp 7) rfl _ rfl DC _ Try.underlying32 rfl (rop_size HDL.out) (fun W' h => KeepB.cells h HCO.out (HBO.out.lt)) ?_
          refine hK _ ?_
          simp only [Act.put, List.setIfInBounds_toArray, List.set_cons_succ, List.set_cons_zero]
          clear hK K
          refine bothM 4 9 rfl rfl (by kernel_rfl) rfl rfl (fun K hK => ?_) (fun K hK => ?_)
          · go_simp
            refine (HOP.out _).mono ?_
            rintro e w6 ⟨rfl, hx6⟩
            have HJ := Lib.hid (HJ.out.step hx6)
            have hkb := HJ.out.2
            have HJ := Lib.hid HJ.out.1
            refine hK _ _ (hkb) ?_
            clear hK K
            refine bothM 5 9 rfl rfl (by kernel_rfl) rfl rfl (fun K hK => ?_) (fun K hK => ?_)
            · go_simp
              refine (HN1.out w0 _ _ HOX.out HJ.out).mono ?_
              rintro e w7 ⟨R, v2, rfl, hR, hJ, hkb2⟩
              have HJ := Lib.hid hJ
              clear hJ
              have HRR := Lib.hid hR
              clear hR
              refine hK _ _ (hkb2) ?_
              clear hK K
              refine takeK 6 rfl (by kernel_rfl) (by kernel_rfl) (by kernel_rfl) rfl (fun _ _ _ _ h => h) rfl (fun K hK => ?_)
              go_big_quiet_op
              first | refine hK _ ?_ | refine ⟨_, fun _ _ => rfl, hK _ ?_⟩
              clear hK K
              refine takeK 7 rfl (by kernel_rfl) (by kernel_rfl) (by kernel_rfl) rfl (fun _ _ _ _ h => h) rfl (fun K hK => ?_)
              go_big_quiet_op
              first | refine hK _ ?_ | refine ⟨_, fun _ _ => rfl, hK _ ?_⟩
              clear hK K
              refine takeK 8 rfl (by kernel_rfl) (by kernel_rfl) (by kernel_rfl) rfl (fun _ _ _ _ h => h) rfl (fun K hK => ?_)
              go_big_quiet_op
              first | refine hK _ ?_ | refine ⟨_, fun _ _ => rfl, hK _ ?_⟩
              clear hK K
              refine stepM 9 rfl (by kernel_rfl) rfl (fun K hK => ?_)
              refine wp_alloc_agg 36 rfl Z hz ?_
              refine hK _ _ (HJ.out.keepAlloc _) ?_
              clear hK K
              (try simp only [Act.put, List.setIfInBounds_toArray, List.set_cons_succ, List.set_cons_zero])
              have HJ := Lib.hid HJ.out.alloc
              have hJf := HJ.out
              revert hJf
              generalize w7.alloc (.cells Z.toArray 36) = W9
              generalize w7.heap.size = g9
              intro hJf
              exact hM g9 R W9 ⟨v2, HRR.out, hJf⟩
            · refine wp_alloc_agg 36 rfl Z hz ?_
              refine hK _ _ (HJ.out.keepAlloc _) ?_
              clear hK K
              (try simp only [Act.put, List.setIfInBounds_toArray, List.set_cons_succ, List.set_cons_zero])
              have HJ := Lib.hid HJ.out.alloc
              refine stepM 5 rfl (by kernel_rfl) rfl (fun K hK => ?_)
              go_simp
              refine (HN1.out w0 _ _ HOX.out HJ.out).mono ?_
              rintro e w7 ⟨R, v2, rfl, hR, hJ, hkb2⟩
              have HJ := Lib.hid hJ
              clear hJ
              have HRR := Lib.hid hR
              clear hR
              refine hK _ _ (hkb2) ?_
              clear hK K
              refine takeK 6 rfl (by kernel_rfl) (by kernel_rfl) (by kernel_rfl) rfl (fun _ _ _ _ h => h) rfl (fun K hK => ?_)
              go_big_quiet_op
              first | refine hK _ ?_ | refine ⟨_, fun _ _ => rfl, hK _ ?_⟩
              clear hK K
              refine takeK 7 rfl (by kernel_rfl) (by kernel_rfl) (by kernel_rfl) rfl (fun _ _ _ _ h => h) rfl (fun K hK => ?_)
              go_big_quiet_op
              first | refine hK _ ?_ | refine ⟨_, fun _ _ => rfl, hK _ ?_⟩
              clear hK K
              refine takeK 8 rfl (by kernel_rfl) (by kernel_rfl) (by kernel_rfl) rfl (fun _ _ _ _ h => h) rfl (fun K hK => ?_)
              go_big_quiet_op
              first | refine hK _ ?_ | refine ⟨_, fun _ _ => rfl, hK _ ?_⟩
              clear hK K
              refine relist (by kernel_rfl) (hM _ R _ ⟨v2, HRR.out, HJ.out⟩)
          · refine wp_alloc_agg 36 rfl Z hz ?_
            refine hK _ _ (HJ.out.keepAlloc _) ?_
            clear hK K
            (try simp only [Act.put, List.setIfInBounds_toArray, List.set_cons_succ, List.set_cons_zero])
            have HJ := Lib.hid HJ.out.alloc
            refine stepM 4 rfl (by kernel_rfl) rfl (fun K hK => ?_)
            go_simp
            refine (HOP.out _).mono ?_
            rintro e w6 ⟨rfl, hx6⟩
            have HJ := Lib.hid (HJ.out.step hx6)
            have hkb := HJ.out.2
            have HJ := Lib.hid HJ.out.1
            refine hK _ _ (hkb) ?_
            clear hK K
            refine stepM 5 rfl (by kernel_rfl) rfl (fun K hK => ?_)
            go_simp
            refine (HN1.out w0 _ _ HOX.out HJ.out).mono ?_
            rintro e w7 ⟨R, v2, rfl, hR, hJ, hkb2⟩
            have HJ := Lib.hid hJ
            clear hJ
            have HRR := Lib.hid hR
            clear hR
            refine hK _ _ (hkb2) ?_
            clear hK K
            refine takeK 6 rfl (by kernel_rfl) (by kernel_rfl) (by kernel_rfl) rfl (fun _ _ _ _ h => h) rfl (fun K hK => ?_)
            go_big_quiet_op
            first | refine hK _ ?_ | refine ⟨_, fun _ _ => rfl, hK _ ?_⟩
            clear hK K
            refine takeK 7 rfl (by kernel_rfl) (by kernel_rfl) (by kernel_rfl) rfl (fun _ _ _ _ h => h) rfl (fun K hK => ?_)
            go_big_quiet_op
            first | refine hK _ ?_ | refine ⟨_, fun _ _ => rfl, hK _ ?_⟩
            clear hK K
            refine takeK 8 rfl (by kernel_rfl) (by kernel_rfl) (by kernel_rfl) rfl (fun _ _ _ _ h => h) rfl (fun K hK => ?_)
            go_big_quiet_op
            first | refine hK _ ?_ | refine ⟨_, fun _ _ => rfl, hK _ ?_⟩
            clear hK K
            refine relist (by kernel_rfl) (hM _ R _ ⟨v2, HRR.out, HJ.out⟩)
        rintro g R W ⟨v2, hR, hJ⟩
        have hgb := hJ.blk g rfl
        have hrl : R.length = 7 := by rw [hR]; rfl
        have hro : ∀ u ∈ R, u.oneCell' = true := by obtain ⟨A2, c2, h⟩ := hJ.own.form; rw [hR, h]; exact stc_one _ _ _ _
        have HRL := Lib.hid hrl
        have HGB := Lib.hid hgb
        have HJ := Lib.hid hJ
        have HRE := Lib.hid hR
        clear hrl hgb hJ hR
        refine stepM 10 rfl (by kernel_rfl) rfl (fun K hK => ?_)
        refine wp_store_row 36 (.tmp 9) (.tmp 42) rfl g rfl Z R _ rfl HGB.out.2 (state_size HRL.out) (by rw [HRL.out, HZL.out]) hro ?_
        refine hK _ _ (fun b hb => (setRow_only _).block _ (Nat.lt_of_lt_of_le hb HJ.out.ext.size) (by have := HGB.out.1; simp; omega)) ?_
        clear hK K
        (try simp only [Act.put, List.setIfInBounds_toArray, List.set_cons_succ, List.set_cons_zero])
        refine takeK 11 rfl (by kernel_rfl) (by kernel_rfl) (by kernel_rfl) rfl (fun _ _ _ _ h => h) rfl (fun K hK => ?_)
        go_big_quiet_op
        first | refine hK _ ?_ | refine ⟨_, fun _ _ => rfl, hK _ ?_⟩
        clear hK K
        refine doneM (by kernel_rfl) ?_ _
        have hgg : g ≠ g7 ∧ g ≠ g5 ∧ g ≠ w.heap.size := by have h1 := HGB.out.1; have h2 := HBX.out.lt; have h3 := HBP.out.lt; have h4 := HBO.out.lt; omega
        have hX8 : Ext w (W.setRow g R.toArray) := grown_then (HX3.out.trans HJ.out.ext) (setRow_only _) (.inr (by rintro b ⟨⟩; have := HGB.out.1; have := HX3.out.size; omega))
        have hR8 : Blk (W.setRow g R.toArray) g 36 R := setRow_at HGB.out.2
        have hbx : Blk (W.setRow g R.toArray) g5 36 XC := (HBX.out.keep HJ.out.ext (by simp)).keep (setRow_only _) (by simp; omega)
        have hb1 : Blk (W.setRow g R.toArray) w.heap.size 24 PC := (HBP.out.keep HJ.out.ext (by simp)).keep (setRow_only _) (by simp; omega)
        have hb2 : Blk (W.setRow g R.toArray) g7 32 DC := (HBO.out.keep HJ.out.ext (by simp)).keep (setRow_only _) (by simp; omega)
        have hov2 : OwnC (W.setRow g R.toArray) v s.cs := (HOX.out.ext HJ.out.ext).keep (setRow_only _) (fun b hb e => by have h1 := HOX.out.lt b hb; have := HGB.out.1; cases e; omega)
        have hon : OwnC (W.setRow g R.toArray) v2 n.cs := HJ.out.own.keep (setRow_only _) (fun b hb e => (HJ.out.far b hb).2 e.symm)
        have hfn : ∀ b, v2.ownBlock = some b → w.heap.size + 1 ≤ b ∧ b ≠ g5 := fun b hb => by have h1 := (HJ.out.far b hb).1; have h2 := HBX.out.lt; have h3 := HBP.out.lt; omega
        have HX8 := Lib.hid hX8
        have HR8 := Lib.hid hR8
        have HBX := Lib.hid hbx
        have HBP := Lib.hid hb1
        have HBO := Lib.hid hb2
        have HOX := Lib.hid hov2
        have HON := Lib.hid hon
        have HFN := Lib.hid hfn
        clear hX8 hR8 hbx hb1 hb2 hov2 hon hfn HX3 HJ HGB HCX HCP HCO
        generalize W.setRow g R.toArray = V at *
        by_cases hz0 : z = 0
        · subst hz0
          have hnz : (nextM s p0 p1 b o').2 = 0 := HZ'.out.symm
          obtain ⟨hs0, hr2, hbt, hact, hnn, hns⟩ := next_zero hnz
          have hao := act_ok HI.out.ok hact (fun c hc => ((sound_zero hs0).2.2.1 c hc).1) HB01.out
          have hnok : StOk n := by
            rw [HN.out, hnn]
            exact ⟨hao.1.chan, by show s.round + 1 < M64; unfold M64; omega, hao.1.m0, hao.1.m1, hao.1.t0, hao.1.t1⟩
          have hns0 : soundM n p0 p1 = 0 := by rw [HN.out]; exact hns
          have hm01 : 1 - b = 0 ∨ 1 - b = 1 := by have := HB01.out; omega
          have hpure := fun h1 h2 h3 => keeps_pure (s := s) (p0 := p0) (p1 := p1) (b := b) (o := o') HB01.out hnz h1 h2 h3
          have hdf := fun hk => done_find (s := s) (p0 := p0) (p1 := p1) (b := b) (o := o') hk hact
          have hot := fun W => Other b W (by have := HB01.out; omega) (by have := HB01.out; omega)
          have h8 := (sound_zero HI.out.snd).2.1
          have h8n := (sound_zero hns0).2.1
          have hwa : ∀ W, Ext V W → Calls Try.prog 19 #[.agg XC.toArray, .agg PC.toArray, .int .i64 (1 - b)] W fun e w' => e = .returned (.tuple #[.int .u64 ((worthM s p0 p1 (1 - b)).1 : Int), .bool (worthM s p0 p1 (1 - b)).2]) ∧ Ext W w' := fun W h => by
            rw [HXC.out, ← HPC.out]
            exact Worth s v p0 p1 (1 - b) hm01 W _ HI.out.ok hp0 hp1 (OwnC.holds (HOX.out.ext h)) (OwnC.lt (HOX.out.ext h)) (by omega)
          have hwn : ∀ W, Ext V W → Calls Try.prog 19 #[.agg R.toArray, .agg PC.toArray, .int .i64 (1 - b)] W fun e w' => e = .returned (.tuple #[.int .u64 ((worthM n p0 p1 (1 - b)).1 : Int), .bool (worthM n p0 p1 (1 - b)).2]) ∧ Ext W w' := fun W h => by
            rw [HRE.out, ← HPC.out]
            exact Worth n v2 p0 p1 (1 - b) hm01 W _ hnok hp0 hp1 (OwnC.holds (HON.out.ext h)) (OwnC.lt (HON.out.ext h)) (by omega)
          have hfd : ∀ W, Ext V W → Calls Try.prog 20 #[.agg XC.toArray, .int .u64 (o'.id : Int)] W fun e w' => e = .returned (.int .i64 (findM s.cs o'.id)) ∧ Ext W w' := fun W h => by
            rw [HXC.out]
            exact Find s v o'.id W _ (OwnC.holds (HOX.out.ext h)) (OwnC.lt (HOX.out.ext h))
          rw [← HN.out] at hpure
          obtain ⟨m, hm⟩ : ∃ m, m = 1 - b := ⟨_, rfl⟩
          rw [← hm] at hpure hot hwa hwn
          generalize worthM s p0 p1 m = ws at *
          generalize worthM n p0 p1 m = wn at *
          obtain ⟨wa, ok⟩ := ws
          obtain ⟨wb, is⟩ := wn
          simp only at hpure hwa hwn
          have HPU := Lib.hid hpure
          have HDF := Lib.hid hdf
          have HOT := Lib.hid hot
          have HWA := Lib.hid hwa
          have HWN := Lib.hid hwn
          have HFD := Lib.hid hfd
          have HNOK := Lib.hid hnok
          have HNS := Lib.hid hns0
          have HC := Lib.hid h8
          have hcx := HBX.out.cells
          have hcp := HBP.out.cells
          clear hpure hdf hot hwa hwn hfd hnok hns0 hs0 hr2 hbt hact hnn hns hao hnz h8 h8n hm hm01
          go_wp2_with (first
            | (go_at_call 18; refine (HOT.out _).mono ?_; rintro e _ ⟨rfl, rfl⟩)
            | (refine wpList_load_agg _ rfl 36 (.tmp 5) rfl _ rfl XC _ Try.underlying36 rfl (state_size HXL.out) hcx ?_)
            | (refine wpList_load_agg _ rfl 24 (.tmp 2) rfl _ rfl PC _ Try.underlying24 rfl (by rw [HPL.out]; kernel_rfl) hcp ?_)
            | fail)
          refine (HWA.out _ (Ext.refl _)).mono ?_
          rintro e w11 ⟨rfl, hx11⟩
          have hcr := (HR8.out.keep hx11 (by simp)).cells
          have hcp := (HBP.out.keep hx11 (by simp)).cells
          go_wp2_with (first
            | (refine wpList_load_agg _ rfl 36 (.tmp 9) rfl _ rfl R _ Try.underlying36 rfl (state_size HRL.out) hcr ?_)
            | (refine wpList_load_agg _ rfl 24 (.tmp 2) rfl _ rfl PC _ Try.underlying24 rfl (by rw [HPL.out]; kernel_rfl) hcp ?_)
            | fail)
          refine (HWN.out _ hx11).mono ?_
          rintro e w12 ⟨rfl, hx12⟩
          have hx12 := hx11.trans hx12
          have hcx := (HBX.out.keep hx12 (by simp)).cells
          have c38 : w12.cell? ⟨g7, 38, none⟩ = some (.int .u64 (o'.id : Int)) := ((HBO.out.keep hx12 (by simp)).cell 38).trans e38
          go_wp2_with (first
            | (refine wpList_load_agg _ rfl 36 (.tmp 5) rfl _ rfl XC _ Try.underlying36 rfl (state_size HXL.out) hcx ?_)
            | fail)
          refine (HFD.out _ hx12).mono ?_
          rintro e w13 ⟨rfl, hx13⟩
          have hx13 := hx12.trans hx13
          have c0 : w13.cell? ⟨g7, 0, none⟩ = some (.int .i64 o'.kind) := ((HBO.out.keep hx13 (by simp)).cell 0).trans e0
          have hcr := (HR8.out.keep hx13 (by simp)).cells
          have hr5 : w13.heap[g5]? = some (.cells XC.toArray 36 (0, 0)) := HBX.out.keep hx13 (by simp)
          have hov := HOX.out.ext hx13
          have hon := HON.out.ext hx13
          have hpc := HBP.out.keep hx13 (by simp)
          have hx := HX8.out.trans hx13
          have HOV := Lib.hid hov
          have HON := Lib.hid hon
          have HPCB := Lib.hid hpc
          have HXX := Lib.hid hx
          have hmsr : List.length (α := WishT.Data) ops - (k + 1) < List.length (α := WishT.Data) ops - k := by omega
          clear hov hon hpc hx hcp hx11 hx12 hx13 hcx c38
          by_cases hk3 : o'.kind = 3
          · have hfd0 := HDF.out hk3
            have hfl := find_lt hfd0
            rw [hk3] at c0
            generalize findM s.cs o'.id = fd at *
            obtain ⟨at', rfl⟩ : ∃ at' : Nat, fd = at' := ⟨fd.toNat, by omega⟩
            simp only [Int.toNat_natCast] at hfl
            obtain ⟨A6, c6, hv6⟩ := HOV.out.form
            obtain ⟨A7, c7, xs7, hv7, _, _, _, hcl7, hal7⟩ := conds_open (OwnC.holds HOV.out)
            rw [hv6] at hv7
            obtain ⟨rfl, rfl⟩ : A6 = A7 ∧ c6 = c7 := by simpa using hv7
            obtain ⟨ad7, rfl, _, hcs7⟩ := hcl7 (by omega)
            obtain ⟨hcc7, hokc⟩ := conds_at hal7 hcs7 hfl
            have x6 : w13.cell? ⟨g5, 6, none⟩ = some (.slice (some ad7) (List.length (α := Cd) s.cs) c6) := (Blk.cell (t := 36) hr5 6).trans (by rw [HXC.out, hv6]; rfl)
            have hside := hcc7 1 _ (show (condCells s.cs[at'])[1]? = some (.int .i64 s.cs[at'].2.1) from rfl)
            have hside : w13.cell? ⟨(ad7.add (at' * 36)).block, (ad7.add (at' * 36)).off + 1, none⟩ = some (.int .i64 s.cs[at'].2.1) := by rw [← add_one]; exact hside
            obtain ⟨own, hown⟩ : ∃ own, own = (s.cs[at'].2.1 == m) := ⟨_, rfl⟩
            have hpu2 : ok = true → is = true → wb < wa → own = true := fun h1 h2 h3 => by
              obtain ⟨_, _, c, hc, hm⟩ := HPU.out h1 h2 h3
              simp only [Int.toNat_natCast] at hc
              rw [List.getElem?_eq_getElem hfl] at hc
              rw [hown, Option.some.inj hc, hm]
              exact beq_self_eq_true _
            generalize s.cs[at'] = cc at *
            have HPU2 := Lib.hid hpu2
            have hq : (cc.2.1 == m) = own := hown.symm
            clear hpu2 hown hokc hcc7 hcs7 hcl7 hal7 hv7
            cases ok
            all_goals cases is
            all_goals by_cases hwl : wb < wa
            all_goals try (have hh : own = true := (by exact HPU2.out rfl rfl hwl); subst hh)
            all_goals
              go_wp2_with (first
                | (refine wpList_load_agg _ rfl 36 (.tmp 9) rfl _ rfl R _ Try.underlying36 rfl (state_size HRL.out) hcr ?_)
                | (refine wpList_store_row _ rfl 36 (.tmp 5) (.tmp 101) rfl g5 rfl XC R _ rfl hr5 (state_size HRL.out) (by rw [HRL.out, HXL.out]) hro ?_)
                | fail)
              go_roundw
              case rel => exact ⟨k + 1, n, v2, by omega, by go_num, keep_next HXX.out HPCB.out hr5 HON.out HFN.out HNOK.out HNS.out HRE.out (by omega)⟩
              case measure => simp [intOf]; omega
          · have hk3b : (o'.kind == 3) = false := by simpa using hk3
            have hpu2 : ok = true → is = true → wb < wa → False := fun h1 h2 h3 => hk3 (HPU.out h1 h2 h3).1
            have HPU2 := Lib.hid hpu2
            clear hpu2 hk3
            cases ok
            all_goals cases is
            all_goals by_cases hwl : wb < wa
            all_goals first | exact (HPU2.out rfl rfl hwl).elim | skip
            all_goals
              go_wp2_with (first
                | (refine wpList_load_agg _ rfl 36 (.tmp 9) rfl _ rfl R _ Try.underlying36 rfl (state_size HRL.out) hcr ?_)
                | (refine wpList_store_row _ rfl 36 (.tmp 5) (.tmp 101) rfl g5 rfl XC R _ rfl hr5 (state_size HRL.out) (by rw [HRL.out, HXL.out]) hro ?_)
                | fail)
              go_roundw
              case rel => exact ⟨k + 1, n, v2, by omega, by go_num, keep_next HXX.out HPCB.out hr5 HON.out HFN.out HNOK.out HNS.out HRE.out (by omega)⟩
              case measure => simp [intOf]; omega
        · have hzb : (z != 0) = true := by simpa using hz0
          go_wp2
          go_roundw
          case rel => exact ⟨k + 1, s, v, by omega, by go_num, ⟨HX8.out, HBP.out, by have h := HBX.out; rw [HXC.out] at h; exact h, HOX.out, HI.out.far, HI.out.ok, HI.out.snd⟩⟩
          case measure => simp [intOf]; omega
    · obtain rfl : k = List.length (α := WishT.Data) ops := by omega
      have HI := Lib.hid hI
      clear hI
      go_wp2_with (first
        | (go_at_call 9; refine (Awake _).mono ?_; rintro e w9 ⟨rfl, hx9⟩)
        | fail)
      go_ret
      exact ⟨rfl, HI.out.ext.trans hx9⟩
end Go.Proofs.Ytnpolfihbfdggaa

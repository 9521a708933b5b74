/- OctetOnes: for every input the law returns true. -/
import Derived.Test.YtihbalobgalpmaaLaw1
import Derived.RegionTactic
import Derived.Deep.RegionHeldLaw
import Derived.Deep.MidRow
set_option linter.unusedVariables false
set_option linter.unusedSimpArgs false
set_option linter.unnecessarySimpa false
namespace Go.Proofs.Ytihbalobgalpmaa
open Go.RowKit

/-- Sums in a row of their own. -/
def OwnD (w : World) (v : Value) (ds : List (List UInt8)) : Prop := (∀ d ∈ ds, d.length = 32) ∧ Own w 49 32 v ds.length (ds.flatMap bv)
theorem zeroB32 : (Try.prog.info? 29).bind (fun i => i.zero.map (·.cells)) = some (bv (List.replicate 32 0)).toArray := by kernel_rfl
theorem digest_info : (Try.prog.info? 49).map (fun i => (i.zero.map (·.cells.size), i.size, i.bytes)) = some (some 32, 32, 32) := by kernel_rfl
theorem allH_sums {w : World} {F : Fp} : ∀ {ds : List (List UInt8)}, (∀ d ∈ ds, d.length = 32) → AllH ((Ty.arr 32 .u8).holds w F) (ds.flatMap bv) ds
  | [], _ => rfl
  | d :: ds, h => ⟨bv d, ds.flatMap bv, rfl, ⟨h d (by simp), AllH.bytes.2 rfl⟩, allH_sums fun x hx => h x (by simp [hx])⟩
theorem OwnD.holds {w : World} {v : Value} {ds : List (List UInt8)} (h : OwnD w v ds) : (Ty.sl (.arr 32 .u8)).holds w (fun b => v.ownBlock = some b) [v] ds := by
  obtain ⟨h32, h⟩ := h
  have hl := h.1
  rcases h.2 with ⟨rfl, h0⟩ | ⟨g, cap, cur, rfl, _, hg, hnc, hcm, _, _⟩
  · obtain rfl : ds = [] := List.eq_nil_of_length_eq_zero h0
    exact ⟨none, 0, [], rfl, by simp, by simp [maxLen], fun _ => rfl, fun h => absurd rfl h, rfl⟩
  · exact ⟨_, cap, ds.flatMap bv, rfl, hnc, hcm, by simp, fun _ => ⟨_, rfl, rfl, World.ownsRow.cells h rfl⟩, allH_sums h32⟩
theorem OwnD.lt {w : World} {v : Value} {ds : List (List UInt8)} (h : OwnD w v ds) : ∀ g, v.ownBlock = some g → g < w.heap.size := fun g hg => (World.ownsRow.lt h.2 g hg).2

theorem run_one {P : Program} (w : World) (t e : TypeId) (cs : List Value) (ht : P.underlying t = some (.slice e)) (hi : (P.info? e).map (·.size) = some cs.length) (hz : ((P.info? e).bind (·.zero)).isSome = true) (hl : cs.length ≤ 16777216) (hn : 0 < cs.length) :
    (Instr.buildSlice t 1 #[(0, .agg cs.toArray)]).run P w = .ok (.slice (some ⟨w.heap.size, 0, none⟩) 1 1) (w.alloc (.cells cs.toArray e)) := by
  obtain ⟨i, hi', hs⟩ := Option.map_eq_some_iff.1 hi
  rw [hi', Option.bind_some] at hz
  obtain ⟨z, hz⟩ := Option.isSome_iff_exists.1 hz
  have hfill : ∀ (c : Array Value), c.size = cs.length → Instr.fill (fun i => some (i * cs.length, cs.length)) c [(0, .agg cs.toArray)] = some cs.toArray := by
    intro c hc
    rw [fill_list _ c 0 (.agg cs.toArray) cs 0 [] rfl (by simp) (by omega)]
    simp only [Instr.fill, List.take_zero, List.nil_append, Nat.zero_add]
    rw [List.drop_eq_nil_of_le (by rw [Array.length_toList]; omega), List.append_nil]
  unfold Instr.buildSlice
  simp only [Sem.run_bind, run_underlying ht, Result.andThen_ok, sizeOf, typeInfo, run_program, hi', Sem.run_pure, hs, Nat.one_mul]
  rw [if_neg (by omega)]
  have h0 : ¬ cs.length = 0 := by omega
  simp only [h0, if_false, Sem.run_bind, Sem.run_pure, Result.andThen_ok, zeroValue, typeInfo, run_program, hi', hz]
  have := hfill ((Array.range cs.length).map fun x => z.cells[x % z.cells.size]!) (by simp)
  simp only [this]
  simp [newRow]
theorem step_one {P : Program} {ops : Array Oper} {w : World} {o : Oper} {a : Act} {K : Act → World → Prop} {Q : Exit → Act → World → Prop} {E : Prop} (hgd : o.guard = none) (t : TypeId) (x : Operand) (ho : o.op = .buildSlice t 1 #[(0, x)])
    (e : TypeId) (cs : List Value) (ht : P.underlying t = some (.slice e)) (hx : a.eval x = .agg cs.toArray) (hi : (P.info? e).map (·.size) = some cs.length) (hz : ((P.info? e).bind (·.zero)).isSome = true) (hl : cs.length ≤ 16777216) (hn : 0 < cs.length)
    (h : K (a.put o.dst (.slice (some ⟨w.heap.size, 0, none⟩) 1 1)) (w.alloc (.cells cs.toArray e))) : if Region.wanted o (yielded ops a.tmps) = true then Oper.wp P o a w K Q else E := by
  have hw : Region.wanted o (yielded ops a.tmps) = true := by simp [Region.wanted, hgd]
  rw [if_pos hw]
  unfold Oper.wp execOp
  simp only [ho, List.map_toArray, List.map_cons, List.map_nil, hx, Sem.run_bind, run_one w t e cs ht hi hz hl hn, Result.andThen_ok, Sem.run_pure]
  exact h

/-- The state of two rows that grow side by side; blocks that hold one thing, apart from both. -/
structure Two (w0 W : World) (v s : Value) (X : List UInt8) (ds : List (List UInt8)) (C : List Value) (L : Nat → Prop) : Prop where
  own : OwnB W v X
  sums : OwnD W s ds
  apart : Apart s v
  fv : Fresh w0 W v
  fs : Fresh w0 W s
  lits : ∀ g, L g → (∃ t, W.heap[g]? = some (.cells C.toArray t (0, 0))) ∧ v.ownBlock ≠ some g ∧ s.ownBlock ≠ some g
theorem Two.drew {w0 W : World} {v s : Value} {X : List UInt8} {ds : List (List UInt8)} {C : List Value} {L : Nat → Prop} (h : Two w0 W v s X ds C L) : Two w0 W.drew v s X ds C L :=
  ⟨h.own.ext (Ext.refl _).drew, ⟨h.sums.1, h.sums.2.ext (Ext.refl _).drew⟩, h.apart, Moved.post h.fv (Ext.refl _).drew, Moved.post h.fs (Ext.refl _).drew, h.lits⟩
theorem Two.alloc {w0 W : World} {v s : Value} {X : List UInt8} {ds : List (List UInt8)} {C : List Value} {L : Nat → Prop} (h : Two w0 W v s X ds C L) (t : TypeId) : Two w0 (W.alloc (.cells C.toArray t)) v s X ds C (fun g => L g ∨ g = W.heap.size) := by
  refine ⟨h.own.ext ((Ext.refl _).alloc _), ⟨h.sums.1, h.sums.2.ext ((Ext.refl _).alloc _)⟩, h.apart, Moved.post h.fv ((Ext.refl _).alloc _), Moved.post h.fs ((Ext.refl _).alloc _), ?_⟩
  rintro g (hg | rfl)
  · obtain ⟨⟨t', ht⟩, h2, h3⟩ := h.lits g hg
    exact ⟨⟨t', (((Ext.refl W).alloc (.cells C.toArray t)).block g (Array.getElem?_eq_some_iff.1 ht).1 (by simp)).trans ht⟩, h2, h3⟩
  · exact ⟨⟨t, heap_alloc_new W _⟩, fun e => by have := h.own.lt _ e; omega, fun e => by have := h.sums.lt _ e; omega⟩
theorem OwnD.moved {w w' : World} {u v v' : Value} {ds : List (List UInt8)} (h : OwnD w u ds) (hm : Moved w w' v v') (ha : Apart v u) : OwnD w' u ds := by
  refine ⟨h.1, h.2.keep hm.grown ?_⟩
  cases hu : u.ownBlock with
  | none => exact .inl rfl
  | some g => exact .inr fun e => ha g e.symm hu
theorem Two.movedV {w0 W W' : World} {v v' s : Value} {X X' : List UInt8} {ds : List (List UInt8)} {C : List Value} {L : Nat → Prop} (h : Two w0 W v s X ds C L) (ho : OwnB W' v' X') (hm : Moved W W' v v') : Two w0 W' v' s X' ds C L := by
  refine ⟨ho, h.sums.moved hm h.apart.symm, (h.apart.symm.moved hm h.sums.lt).symm, h.fv.trans hm, ?_, ?_⟩
  · exact Moved.keepF h.fs (Fresh.ext (h.fv.trans hm))
  · intro g hg
    obtain ⟨⟨t, ht⟩, h2, h3⟩ := h.lits g hg
    have hlt := (Array.getElem?_eq_some_iff.1 ht).1
    refine ⟨⟨t, (hm.grown.block g hlt (fun e => h2 e.symm)).trans ht⟩, fun e => ?_, h3⟩
    rcases hm.at_ with e' | hn
    · exact h2 (e'.symm.trans e)
    · have := hn g e; omega
theorem Two.movedS {w0 W W' : World} {v s s' : Value} {X : List UInt8} {ds ds' : List (List UInt8)} {C : List Value} {L : Nat → Prop} (h : Two w0 W v s X ds C L) (ho : OwnD W' s' ds') (hm : Moved W W' s s') : Two w0 W' v s' X ds' C L := by
  refine ⟨h.own.moved hm h.apart, ho, h.apart.moved hm h.own.lt, ?_, h.fs.trans hm, ?_⟩
  · exact Moved.keepF h.fv (Fresh.ext (h.fs.trans hm))
  · intro g hg
    obtain ⟨⟨t, ht⟩, h2, h3⟩ := h.lits g hg
    have hlt := (Array.getElem?_eq_some_iff.1 ht).1
    refine ⟨⟨t, (hm.grown.block g hlt (fun e => h3 e.symm)).trans ht⟩, h2, fun e => ?_⟩
    rcases hm.at_ with e' | hn
    · exact h3 (e'.symm.trans e)
    · have := hn g e; omega
theorem Two.range {w0 W : World} {v s : Value} {X : List UInt8} {ds : List (List UInt8)} {C : List Value} {L : Nat → Prop} (h : Two w0 W v s X ds C L) {g : Nat} (hg : L g) : W.rangeAt g 0 C := by
  obtain ⟨⟨t, ht⟩, _⟩ := h.lits g hg
  intro j u hu
  have := Blk.cell (w := W) (t := t) (cs := C) ht (0 + j)
  rw [this, Nat.zero_add]; exact hu
theorem Two.callV {w0 W : World} {v s : Value} {X D : List UInt8} {ds : List (List UInt8)} {L : Nat → Prop} {g : Nat} (h : Two w0 W v s X ds (bv D) L) (hg : L g) (hD : D.length = 32) (hX : X.length ≤ 200000) :
    Calls Try.prog 14 #[v, .slice (some ⟨g, 0, none⟩) 1 1] W fun e W' => ∃ v', e = .returned v' ∧ Two w0 W' v' s (X ++ D) ds (bv D) L := by
  obtain ⟨⟨t, ht⟩, h2, h3⟩ := h.lits g hg
  have hlt := (Array.getElem?_eq_some_iff.1 ht).1
  refine (Out_Sum v _ X [D] W (fun b => b = g) h.own ⟨_, 1, bv D, rfl, Nat.le_refl _, by simp [maxLen], by simp, fun _ => ⟨_, rfl, rfl, Blk.cells (t := t) ht⟩, AllH.one (R := (Ty.arr 32 .u8).holds _ _) ⟨hD, AllH.bytes.2 rfl⟩⟩ (by rintro b rfl; exact ⟨hlt, h2⟩) (by simp only [List.length_cons, List.length_nil]; omega)).mono ?_
  rintro e W' ⟨v', rfl, ho, hm⟩
  exact ⟨v', rfl, h.movedV (by simpa using ho) hm⟩

theorem step_app {P : Program} {ops : Array Oper} {w : World} {o : Oper} {a : Act} {K : Act → World → Prop} {Q : Exit → Act → World → Prop} {E : Prop} (hgd : o.guard = none) (s x : Operand) (t t' : TypeId)
    (ho : o.op = .call { callee := .builtin .append, args := #[s, x], argTypes := #[t, t'] })
    (e e' : TypeId) (i : TypeInfo) (z : Value) (size bytes : Nat) (ht : P.underlying t = some (.slice e)) (ht' : P.underlying t' = some (.slice e')) (hi : P.info? e = some i) (hz : i.zero = some z)
    (hsize : i.size = size) (hby : i.bytes = bytes) (hzs : z.cells.size = size) (hsz : 0 < size)
    (v : Value) (n : Nat) (xs : List Value) (hs : a.eval s = v) (hown : Own w e size v n xs)
    (A : Option Addr) (m c : Nat) (news : List Value) (hx : a.eval x = .slice A m c) (hl : news.length = m * size) (hnews : Src w A m news) (h1 : ∀ u ∈ news, u.oneCell' = true)
    (h63 : n + m ≤ maxLen) (hbytes : (n + m) * bytes ≤ 140737488355328)
    (h : ∀ v' w', Own w' e size v' (n + m) (xs ++ news) → Moved w w' v v' → K (a.put o.dst v') w') :
    if Region.wanted o (yielded ops a.tmps) = true then Oper.wp P o a w K Q else E := by
  have hw : Region.wanted o (yielded ops a.tmps) = true := by simp [Region.wanted, hgd]
  rw [if_pos hw]
  exact wp_app w s x t t' ho e e' i z size bytes ht ht' hi hz hsize hby hzs hsz v n xs hs hown A m c news hx hl hnews h1 h63 hbytes h
theorem Two.src {w0 W : World} {v s : Value} {X : List UInt8} {ds : List (List UInt8)} {C : List Value} {L : Nat → Prop} (h : Two w0 W v s X ds C L) {g : Nat} (hg : L g) : Src W (some ⟨g, 0, none⟩) 1 C := by
  obtain ⟨⟨t, ht⟩, _⟩ := h.lits g hg
  exact fun _ => ⟨_, rfl, Blk.cells (t := t) ht⟩
theorem Two.appS {w0 W W' : World} {v s s' : Value} {X D : List UInt8} {ds : List (List UInt8)} {L : Nat → Prop} (h : Two w0 W v s X ds (bv D) L) (hD : D.length = 32) (ho : Own W' 49 32 s' (ds.length + 1) (ds.flatMap bv ++ bv D)) (hm : Moved W W' s s') : Two w0 W' v s' X (ds ++ [D]) (bv D) L := by
  refine h.movedS ⟨?_, ?_⟩ hm
  · intro x hx
    rcases List.mem_append.1 hx with hx | hx
    · exact h.sums.1 x hx
    · simp at hx; subst hx; exact hD
  · simpa using ho

theorem fold_cells (cs : List Value) (h : cs.length = 32) : List.foldl (fun (cs : Array Value) (x : Value × Nat) => cs.setIfInBounds x.snd x.fst) #[Value.int .u8 0, Value.int .u8 0, Value.int .u8 0, Value.int .u8 0, Value.int .u8 0, Value.int .u8 0, Value.int .u8 0, Value.int .u8 0, Value.int .u8 0, Value.int .u8 0, Value.int .u8 0, Value.int .u8 0, Value.int .u8 0, Value.int .u8 0, Value.int .u8 0, Value.int .u8 0, Value.int .u8 0, Value.int .u8 0, Value.int .u8 0, Value.int .u8 0, Value.int .u8 0, Value.int .u8 0, Value.int .u8 0, Value.int .u8 0, Value.int .u8 0, Value.int .u8 0, Value.int .u8 0, Value.int .u8 0, Value.int .u8 0, Value.int .u8 0, Value.int .u8 0, Value.int .u8 0] cs.zipIdx = cs.toArray := by
  have h := foldl_set 0 cs 0 #[Value.int .u8 0, Value.int .u8 0, Value.int .u8 0, Value.int .u8 0, Value.int .u8 0, Value.int .u8 0, Value.int .u8 0, Value.int .u8 0, Value.int .u8 0, Value.int .u8 0, Value.int .u8 0, Value.int .u8 0, Value.int .u8 0, Value.int .u8 0, Value.int .u8 0, Value.int .u8 0, Value.int .u8 0, Value.int .u8 0, Value.int .u8 0, Value.int .u8 0, Value.int .u8 0, Value.int .u8 0, Value.int .u8 0, Value.int .u8 0, Value.int .u8 0, Value.int .u8 0, Value.int .u8 0, Value.int .u8 0, Value.int .u8 0, Value.int .u8 0, Value.int .u8 0, Value.int .u8 0] (by rw [h]; decide)
  simp only [Nat.zero_add] at h
  apply Array.ext'
  rw [show cs.zipIdx = cs.zipIdx 0 from rfl, h, ‹cs.length = 32›]
  simp
theorem flat32 : ∀ {ds : List (List UInt8)}, (∀ d ∈ ds, d.length = 32) → (ds.flatMap bv).length = ds.length * 32
  | [], _ => rfl
  | d :: ds, h => by
    rw [List.flatMap_cons, List.length_append, bv_length, h d (by simp), flat32 fun x hx => h x (by simp [hx]), List.length_cons]
    omega

theorem flat_sums : ∀ {ds : List (List UInt8)}, (∀ d ∈ ds, d.length = 32) → (ds.flatMap id).length = 32 * ds.length
  | [], _ => rfl
  | d :: ds, h => by
    rw [List.flatMap_cons, List.length_append, id, h d (by simp), flat_sums fun x hx => h x (by simp [hx]), List.length_cons]
    omega

set_option maxHeartbeats 1000000 in
theorem ones_walk (va vb vc vd : Value) (a : List UInt8) (b c : List Nat) (d : List (List UInt8)) (w : World) (F : Fp)
    (ha : (Ty.sl .u8).holds w F [va] a) (hb : (Ty.sl (.nat .u32)).holds w F [vb] b) (hc : (Ty.sl (.nat .u64)).holds w F [vc] c) (hd : (Ty.sl (.arr 32 .u8)).holds w F [vd] d) (hF : ∀ b, F b → b < w.heap.size)
    (ra : a.length ≤ 140737488355328) (rb : b.length ≤ 140737488355328) (rc : c.length ≤ 140737488355328) (rd : d.length ≤ 140737488355328) :
    Calls Try.prog 4 #[va, vb, vc, vd] w fun e w' => e = .returned (.bool true) ∧ Ext w w' := by
  have ha0 := ha
  have hb0 := hb
  have hc0 := hc
  have hd0 := hd
  obtain ⟨Aa, ca, xa, hva, hla, hca, _, hcella, halla⟩ := ha
  cases hva
  obtain ⟨Ab, cb, xb, hvb, hlb, hcb, _, hcellb, hallb⟩ := hb
  cases hvb
  obtain ⟨Ac, cc, xc, hvc, hlc, hcc, _, hcellc, hallc⟩ := hc
  cases hvc
  obtain ⟨Ad, cd, xd, hvd, hld, hcd, _, hcelld, halld⟩ := hd
  cases hvd
  unfold maxLen at hca hcb hcc hcd
  by_cases hbig : 4000 < a.length + b.length + c.length + d.length
  · go_enter Try.func4, Try.ntmps4
    go_wp2_with fail
    refine (awake_true _).mono ?_
    rintro e w2 ⟨rfl, hx2⟩
    go_wp2
    go_ret
    exact ⟨rfl, hx2⟩
  · have hsum : a.length + b.length + c.length + d.length ≤ 4000 := by omega
    clear hbig
    go_enter Try.func4, Try.ntmps4
    go_wp2
    go_loopw [10, 36] (fun vo i wr => ∃ k : Nat, k ≤ a.length ∧ i = .int .i64 k ∧ OwnB wr vo (a.take k) ∧ Fresh w wr vo) (fun _ i _ => a.length - (intOf i).toNat)
    case atStart => exact ⟨0, by omega, rfl, own_empty rfl, fresh_empty _ _⟩
    case round =>
      obtain ⟨k, hk, rfl, ho, hf⟩ := hrel
      by_cases hlt : k < a.length
      · obtain ⟨ad, rfl, hFa, hcells⟩ := hcella (by rintro rfl; simp at hlt)
        have hx := AllH.u8_at halla hlt
        have hcx := (hcells.keep (hf.ext.same hF _ hFa)) k _ hx
        have hll : (a.take k).length = k := by simp; omega
        have HLL := Lib.hid hll
        clear hx hll
        go_wp2_with fail
        refine (Out_One _ _ _ [a[k]] _ (fun b => b = wr.heap.size) (ho.ext ((Ext.refl _).alloc _)) (sl_made rfl rfl rfl (by simp [maxLen]) (AllH.bytes.2 rfl)) (by rw [HLL.out]; simp only [List.length_cons, List.length_nil]; omega)).mono ?_
        rintro e w2 ⟨v2, rfl, ho2, hm2⟩
        have hm3 := hf.trans (Moved.pre ((Ext.refl _).alloc _) hm2)
        go_wp2
        go_roundw
        case rel => exact ⟨k + 1, by omega, by go_num, by rw [List.take_add_one, List.getElem?_eq_getElem hlt]; exact ho2, hm3⟩
        case measure => simp [intOf]; omega
      · obtain rfl : k = a.length := by omega
        rw [List.take_length] at ho
        go_wp2
        obtain ⟨wa, rfl⟩ : ∃ wa : World, wa = wr := ⟨_, rfl⟩
        go_loopw [10, 47] (fun vo i wr => ∃ k : Nat, k ≤ b.length ∧ i = .int .i64 k ∧ OwnB wr vo (a ++ (b.take k).flatMap (be 4)) ∧ Fresh w wr vo) (fun _ i _ => b.length - (intOf i).toNat)
        case atStart => exact ⟨0, by omega, rfl, by simpa using ho, hf⟩
        case round =>
          clear hf ho
          obtain ⟨k, hk, rfl, ho, hf⟩ := hrel
          have hll : (a ++ (b.take k).flatMap (be 4)).length = a.length + 4 * k := by rw [List.length_append, be_flat]; simp; omega
          have HLL := Lib.hid hll
          clear hll
          by_cases hlt : k < b.length
          · obtain ⟨ad, rfl, hFa, hcells⟩ := hcellb (by rintro rfl; simp at hlt)
            obtain ⟨hx, hwf⟩ := AllH.nat_at hallb hlt
            have hcx := (hcells.keep (hf.ext.same hF _ hFa)) k _ hx
            have hbd := bounds_u32 hwf
            clear hx
            go_wp2_with fail
            refine (Out_Four _ _ _ [b[k]] _ (fun b => b = wr.heap.size) (ho.ext ((Ext.refl _).alloc _)) (sl_made rfl rfl rfl (by simp [maxLen]) (one_nat hwf)) (ho.new _) (by rw [HLL.out]; simp only [List.length_cons, List.length_nil]; omega)).mono ?_
            rintro e w2 ⟨v2, rfl, ho2, hm2⟩
            have hm3 := hf.trans (Moved.pre ((Ext.refl _).alloc _) hm2)
            go_wp2
            go_roundw
            case rel => exact ⟨k + 1, by omega, by go_num, by rw [flat_step _ _ _ hlt, ← List.append_assoc]; simpa using ho2, hm3⟩
            case measure => simp [intOf]; omega
          · obtain rfl : k = b.length := by omega
            rw [List.take_length] at ho
            clear HLL
            go_wp2
            obtain ⟨wb, rfl⟩ : ∃ wb : World, wb = wr := ⟨_, rfl⟩
            go_loopw [10, 58] (fun vo i wr => ∃ k : Nat, k ≤ c.length ∧ i = .int .i64 k ∧ OwnB wr vo (a ++ b.flatMap (be 4) ++ (c.take k).flatMap (be 8)) ∧ Fresh w wr vo) (fun _ i _ => c.length - (intOf i).toNat)
            case atStart => exact ⟨0, by omega, rfl, by simpa using ho, hf⟩
            case round =>
              clear hf ho
              obtain ⟨k, hk, rfl, ho, hf⟩ := hrel
              have hll : (a ++ b.flatMap (be 4) ++ (c.take k).flatMap (be 8)).length = a.length + 4 * b.length + 8 * k := by rw [List.length_append, List.length_append, be_flat, be_flat]; simp; omega
              have HLL := Lib.hid hll
              clear hll
              by_cases hlt : k < c.length
              · obtain ⟨ad, rfl, hFa, hcells⟩ := hcellc (by rintro rfl; simp at hlt)
                obtain ⟨hx, hwf⟩ := AllH.nat_at hallc hlt
                have hcx := (hcells.keep (hf.ext.same hF _ hFa)) k _ hx
                have hbd := bounds_u64 hwf
                clear hx
                go_wp2_with fail
                refine (Out_Eight _ _ _ [c[k]] _ (fun b => b = wr.heap.size) (ho.ext ((Ext.refl _).alloc _)) (sl_made rfl rfl rfl (by simp [maxLen]) (one_nat hwf)) (ho.new _) (by rw [HLL.out]; simp only [List.length_cons, List.length_nil]; omega)).mono ?_
                rintro e w2 ⟨v2, rfl, ho2, hm2⟩
                have hm3 := hf.trans (Moved.pre ((Ext.refl _).alloc _) hm2)
                go_wp2
                go_roundw
                case rel => exact ⟨k + 1, by omega, by go_num, by rw [flat_step _ _ _ hlt, ← List.append_assoc]; simpa using ho2, hm3⟩
                case measure => simp [intOf]; omega
              · obtain rfl : k = c.length := by omega
                rw [List.take_length] at ho
                clear HLL
                generalize hX : a ++ b.flatMap (be 4) ++ c.flatMap (be 8) = X at ho
                have hXl : X.length = a.length + 4 * b.length + 8 * c.length := by rw [← hX, List.length_append, List.length_append, be_flat, be_flat]
                have HX := Lib.hid hX
                have HXL := Lib.hid hXl
                clear hX hXl
                go_wp2
                obtain ⟨wc, rfl⟩ : ∃ wc : World, wc = wr := ⟨_, rfl⟩
                go_loopw [9, 10, 69] (fun vs vo i wr => ∃ k : Nat, k ≤ d.length ∧ i = .int .i64 k ∧ OwnB wr vo (X ++ (d.take k).flatMap id) ∧ (X ++ (d.take k).flatMap id).length = X.length + 32 * k ∧ Fresh w wr vo ∧ OwnD wr vs (d.take k) ∧ Fresh w wr vs ∧ Apart vs vo) (fun _ _ i _ => d.length - (intOf i).toNat)
                case atStart => exact ⟨0, by omega, rfl, by simpa using ho, by simp, hf, ⟨by simp, Own.nil _ _ _⟩, Moved.post (Moved.refl _ _) hf.ext, Apart.nil _⟩
                case round =>
                  clear hf ho
                  obtain ⟨k, hk, rfl, ho, hll, hf, hs, hfs, hap⟩ := hrel
                  have HLL := Lib.hid hll
                  clear hll
                  by_cases hlt : k < d.length
                  · obtain ⟨ad, rfl, hFa, hcells⟩ := hcelld (by rintro rfl; simp at hlt)
                    obtain ⟨h32, hx⟩ := AllH.elem halld hlt
                    have hx := AllH.bytes.1 hx
                    have hcx : Cells wr (ad.add (k * 32)) (bv d[k]) := by rw [← hx]; exact ((hcells.keep (hf.ext.same hF _ hFa)).drop _).take _
                    have H32 := Lib.hid h32
                    have hbl : (bv d[k]).length = 32 := by rw [bv_length]; exact h32
                    generalize hdk : d[k] = dk at hcx hbl H32
                    have HBL := Lib.hid hbl
                    have HDK := Lib.hid hdk
                    have hone := bv_one dk
                    generalize hC : bv dk = C at hcx HBL hone
                    have HC := Lib.hid hC
                    have hCl : C.length = 32 := HBL.out
                    clear hx hcells h32 hbl hdk hC
                    go_wp2_with (first
                      | (refine wpList_load_agg _ rfl 29 (.tmp 71) rfl _ rfl C _ Try.underlying29 rfl (by rw [HBL.out]; kernel_rfl) hcx ?_)
                      | (refine wpList_alloc _ rfl 29 rfl _ zeroB32 ?_)
                      | (refine wpList_store_new _ rfl 29 (.tmp 18) (.tmp 72) rfl rfl _ C _ rfl (by rw [HBL.out]; kernel_rfl) (by rw [HBL.out]; rfl) hone ?_)
                      | fail)
                    have hri : (Try.prog.info? 29).map (·.size) = some C.length := by rw [HBL.out]; kernel_rfl
                    have hru := Try.underlying29
                    have hT0 : Two w wr u10 u9 (X ++ (d.take k).flatMap id) (d.take k) C (fun _ => False) := ⟨ho, hs, hap, hf, hfs, by simp⟩
                    have hT := hT0.alloc 29
                    have hbuild : ∀ W : World, (Instr.buildSlice 38 1 #[(0, .agg C.toArray)]).run Try.prog W = .ok (.slice (some ⟨W.heap.size, 0, none⟩) 1 1) (W.alloc (.cells C.toArray 49)) := fun W => run_one W _ _ C Try.underlying38 (by rw [HBL.out]; kernel_rfl) (by kernel_rfl) (by rw [HBL.out]; decide) (by rw [HBL.out]; decide)
                    have hsl : (d.take k).length = k := by simp; omega
                    obtain ⟨i1, hi1, hd1, hd2, hd3⟩ : ∃ i, Try.prog.info? 49 = some i ∧ i.zero.map (·.cells.size) = some 32 ∧ i.size = 32 ∧ i.bytes = 32 := by
                      have := digest_info
                      obtain ⟨i, hi, h⟩ := Option.map_eq_some_iff.1 this
                      simp only [Prod.mk.injEq] at h
                      exact ⟨i, hi, h⟩
                    obtain ⟨z1, hz1, hz2⟩ := Option.map_eq_some_iff.1 hd1
                    have hnx : X ++ (d.take (k + 1)).flatMap id = (X ++ (d.take k).flatMap id) ++ dk := by rw [flat_step id _ _ hlt, ← List.append_assoc, HDK.out]; rfl
                    have hnd : d.take (k + 1) = d.take k ++ [dk] := by rw [List.take_add_one, List.getElem?_eq_getElem hlt, HDK.out]; rfl
                    have HNX := Lib.hid hnx
                    have HND := Lib.hid hnd
                    have hDL := H32.out
                    have hdk32 : (X ++ (d.take k).flatMap id).length ≤ 200000 := by have := HXL.out; have := HLL.out; omega
                    have HSL := Lib.hid hsl
                    have HI1 := Lib.hid hi1
                    have HD2 := Lib.hid hd2
                    have HD3 := Lib.hid hd3
                    have HZ1 := Lib.hid hz1
                    have HZ2 := Lib.hid hz2
                    clear hnx hnd hsl hi1 hd1 hd2 hd3 hz1 hz2 hbuild
                    have hsl2 : (d.take k).length ≤ 4000 := by rw [HSL.out]; omega
                    have HDL := Lib.hid hDL
                    clear hDL
                    generalize hds : d.take k = ds at *
                    clear hds
                    generalize X ++ ds.flatMap id = Xk at *
                    rw [← HC.out] at *
                    have hfold := fold_cells (bv dk) (by rw [bv_length]; exact HDL.out)
                    have hld : ∀ W : World, W.rangeAt wr.heap.size 0 (bv dk) → (Instr.loadAt 29 (.pointer (some ⟨wr.heap.size, 0, none⟩))).run Try.prog W = .ok (.agg (bv dk).toArray) W := fun W h => run_loadAt_mid W _ _ _ _ _ h hru rfl hri
                    have HT := Lib.hid hT
                    have hr0 := hT.range (g := wr.heap.size) (.inr rfl)
                    clear hT0 hT ho hs hap hf hfs
                    refine wp_region_held_drew (S := fun w' => w'.rangeAt wr.heap.size 0 (bv dk)) (by kernel_rfl) ((World.rangeAt_drew _ _ _ _).2 hr0) (fun hHeld => ?_)
                    refine wpAnyH_take (i := 0) (v := u10) rfl (by kernel_rfl) (by kernel_rfl) (by kernel_rfl) (fun _ _ _ h => h) (Or.inl ⟨by rfl, fun w _ => by go_simp⟩) (by assumption) ?_
                    simp only [Act.put, List.setIfInBounds_toArray, List.set_cons_zero, List.set_cons_succ]
                    refine wpAnyH_take (i := 1) (v := .agg (bv dk).toArray) rfl (by kernel_rfl) (by kernel_rfl) (by kernel_rfl) (fun _ _ _ h => h) (yieldsIf_load_mid (by rfl) _ _ rfl _ _ rfl _ _ (fun _ h => h) hru rfl hri) (by assumption) ?_
                    simp only [Act.put, List.setIfInBounds_toArray, List.set_cons_zero, List.set_cons_succ]
                    refine wpAnyH_take (i := 4) (v := u9) rfl (by kernel_rfl) (by kernel_rfl) (by kernel_rfl) (fun _ _ _ h => h) (Or.inl ⟨by rfl, fun w _ => by go_simp⟩) (by assumption) ?_
                    simp only [Act.put, List.setIfInBounds_toArray, List.set_cons_zero, List.set_cons_succ]
                    refine wpAnyH_take (i := 5) (v := .agg (bv dk).toArray) rfl (by kernel_rfl) (by kernel_rfl) (by kernel_rfl) (fun _ _ _ h => h) (yieldsIf_load_mid (by rfl) _ _ rfl _ _ rfl _ _ (fun _ h => h) hru rfl hri) (by assumption) ?_
                    simp only [Act.put, List.setIfInBounds_toArray, List.set_cons_zero, List.set_cons_succ]
                    refine wpAnyH_ready (rs := [2, 6]) (by kernel_rfl) (by simp) ?_
                    refine AllReadyH.cons rfl (fun K hK => ?_) (AllReadyH.cons rfl (fun K hK => ?_) AllReadyH.nil)
                    · refine step_one rfl 38 _ rfl 49 (bv dk) Try.underlying38 rfl (by rw [bv_length, HDL.out]; kernel_rfl) (by kernel_rfl) (by rw [bv_length, HDL.out]; decide) (by rw [bv_length, HDL.out]; decide) ?_
                      refine hK.out _ _ ?_ (fun hHeld => ?_)
                      · exact (HT.out.drew.alloc 49).range (by simp)
                      clear hK K
                      (try simp only [Act.put, List.setIfInBounds_toArray, List.set_cons_zero, List.set_cons_succ])
                      refine wpAnyH_ready (rs := [3, 6]) (by kernel_rfl) (by simp) ?_
                      refine AllReadyH.cons rfl (fun K hK => ?_) (AllReadyH.cons rfl (fun K hK => ?_) AllReadyH.nil)
                      · go_simp
                        go_at_call 14
                        refine (Two.callV  (g := _) (HT.out.drew.alloc 49) (by simp) HDL.out hdk32).mono ?_
                        rintro e W1 ⟨v1, rfl, hst1⟩
                        refine hK.out _ _ ?_ (fun hHeld => ?_)
                        · exact (hst1).range (by simp)
                        clear hK K
                        (try simp only [Act.put, List.setIfInBounds_toArray, List.set_cons_zero, List.set_cons_succ])
                        refine wpAnyH_ready (rs := [6]) (by kernel_rfl) (by simp) ?_
                        refine AllReadyH.cons rfl (fun K hK => ?_) AllReadyH.nil
                        refine step_one rfl 38 _ rfl 49 (bv dk) Try.underlying38 rfl (by rw [bv_length, HDL.out]; kernel_rfl) (by kernel_rfl) (by rw [bv_length, HDL.out]; decide) (by rw [bv_length, HDL.out]; decide) ?_
                        refine hK.out _ _ ?_ (fun hHeld => ?_)
                        · exact (hst1.alloc 49).range (by simp)
                        clear hK K
                        (try simp only [Act.put, List.setIfInBounds_toArray, List.set_cons_zero, List.set_cons_succ])
                        refine wpAnyH_ready (rs := [7]) (by kernel_rfl) (by simp) ?_
                        refine AllReadyH.cons rfl (fun K hK => ?_) AllReadyH.nil
                        refine step_app rfl _ _ _ _ rfl 49 49 i1 z1 32 32 Try.underlying38 Try.underlying38 HI1.out HZ1.out HD2.out HD3.out HZ2.out (by decide) u9 ds.length _ rfl (Two.sums (hst1.alloc 49)).2 _ _ _ (bv dk) rfl (by rw [bv_length]; exact HDL.out) (Two.src (hst1.alloc 49) (by simp)) (bv_one _) (by unfold maxLen; omega) (by omega) ?_
                        intro v2 w2 ho2 hm2
                        have hst2 := Two.appS (hst1.alloc 49) HDL.out ho2 hm2
                        refine hK.out _ _ ?_ (fun hHeld => ?_)
                        · exact (hst2).range (by simp)
                        clear hK K
                        (try simp only [Act.put, List.setIfInBounds_toArray, List.set_cons_zero, List.set_cons_succ])
                        refine wpAnyH_ready (rs := [8]) (by kernel_rfl) (by simp) ?_
                        refine AllReadyH.cons rfl (fun K hK => ?_) AllReadyH.nil
                        go_simp
                        refine hK.out _ _ ?_ (fun hHeld => ?_)
                        · exact hst2.range (by simp)
                        clear hK K
                        refine wpAnyH_ready (rs := [9]) (by kernel_rfl) (by simp) ?_
                        refine AllReadyH.cons rfl (fun K hK => ?_) AllReadyH.nil
                        go_simp
                        refine hK.out _ _ ?_ (fun hHeld => ?_)
                        · exact hst2.range (by simp)
                        clear hK K
                        refine wpAnyH_done (by kernel_rfl) ?_ _
                        go_wp2
                        go_roundw
                        case rel => exact ⟨k + 1, by omega, by go_num, by rw [HNX.out]; exact hst2.own, by rw [HNX.out, List.length_append, HLL.out, HDL.out, Nat.mul_add, Nat.add_assoc], hst2.fv, by rw [HND.out]; exact hst2.sums, hst2.fs, hst2.apart⟩
                        case measure => simp [intOf]; omega
                      · refine step_one rfl 38 _ rfl 49 (bv dk) Try.underlying38 rfl (by rw [bv_length, HDL.out]; kernel_rfl) (by kernel_rfl) (by rw [bv_length, HDL.out]; decide) (by rw [bv_length, HDL.out]; decide) ?_
                        refine hK.out _ _ ?_ (fun hHeld => ?_)
                        · exact ((HT.out.drew.alloc 49).alloc 49).range (by simp)
                        clear hK K
                        (try simp only [Act.put, List.setIfInBounds_toArray, List.set_cons_zero, List.set_cons_succ])
                        refine wpAnyH_ready (rs := [3]) (by kernel_rfl) (by simp) ?_
                        refine AllReadyH.cons rfl (fun K hK => ?_) AllReadyH.nil
                        go_simp
                        go_at_call 14
                        refine (Two.callV  (g := _) ((HT.out.drew.alloc 49).alloc 49) (by simp) HDL.out hdk32).mono ?_
                        rintro e W1 ⟨v1, rfl, hst1⟩
                        refine hK.out _ _ ?_ (fun hHeld => ?_)
                        · exact (hst1).range (by simp)
                        clear hK K
                        (try simp only [Act.put, List.setIfInBounds_toArray, List.set_cons_zero, List.set_cons_succ])
                        refine wpAnyH_ready (rs := [7]) (by kernel_rfl) (by simp) ?_
                        refine AllReadyH.cons rfl (fun K hK => ?_) AllReadyH.nil
                        refine step_app rfl _ _ _ _ rfl 49 49 i1 z1 32 32 Try.underlying38 Try.underlying38 HI1.out HZ1.out HD2.out HD3.out HZ2.out (by decide) u9 ds.length _ rfl (Two.sums (hst1)).2 _ _ _ (bv dk) rfl (by rw [bv_length]; exact HDL.out) (Two.src (hst1) (by simp)) (bv_one _) (by unfold maxLen; omega) (by omega) ?_
                        intro v2 w2 ho2 hm2
                        have hst2 := Two.appS (hst1) HDL.out ho2 hm2
                        refine hK.out _ _ ?_ (fun hHeld => ?_)
                        · exact (hst2).range (by simp)
                        clear hK K
                        (try simp only [Act.put, List.setIfInBounds_toArray, List.set_cons_zero, List.set_cons_succ])
                        refine wpAnyH_ready (rs := [8]) (by kernel_rfl) (by simp) ?_
                        refine AllReadyH.cons rfl (fun K hK => ?_) AllReadyH.nil
                        go_simp
                        refine hK.out _ _ ?_ (fun hHeld => ?_)
                        · exact hst2.range (by simp)
                        clear hK K
                        refine wpAnyH_ready (rs := [9]) (by kernel_rfl) (by simp) ?_
                        refine AllReadyH.cons rfl (fun K hK => ?_) AllReadyH.nil
                        go_simp
                        refine hK.out _ _ ?_ (fun hHeld => ?_)
                        · exact hst2.range (by simp)
                        clear hK K
                        refine wpAnyH_done (by kernel_rfl) ?_ _
                        go_wp2
                        go_roundw
                        case rel => exact ⟨k + 1, by omega, by go_num, by rw [HNX.out]; exact hst2.own, by rw [HNX.out, List.length_append, HLL.out, HDL.out, Nat.mul_add, Nat.add_assoc], hst2.fv, by rw [HND.out]; exact hst2.sums, hst2.fs, hst2.apart⟩
                        case measure => simp [intOf]; omega
                    · refine step_one rfl 38 _ rfl 49 (bv dk) Try.underlying38 rfl (by rw [bv_length, HDL.out]; kernel_rfl) (by kernel_rfl) (by rw [bv_length, HDL.out]; decide) (by rw [bv_length, HDL.out]; decide) ?_
                      refine hK.out _ _ ?_ (fun hHeld => ?_)
                      · exact (HT.out.drew.alloc 49).range (by simp)
                      clear hK K
                      (try simp only [Act.put, List.setIfInBounds_toArray, List.set_cons_zero, List.set_cons_succ])
                      refine wpAnyH_ready (rs := [2]) (by kernel_rfl) (by simp) ?_
                      refine AllReadyH.cons rfl (fun K hK => ?_) AllReadyH.nil
                      refine step_one rfl 38 _ rfl 49 (bv dk) Try.underlying38 rfl (by rw [bv_length, HDL.out]; kernel_rfl) (by kernel_rfl) (by rw [bv_length, HDL.out]; decide) (by rw [bv_length, HDL.out]; decide) ?_
                      refine hK.out _ _ ?_ (fun hHeld => ?_)
                      · exact ((HT.out.drew.alloc 49).alloc 49).range (by simp)
                      clear hK K
                      (try simp only [Act.put, List.setIfInBounds_toArray, List.set_cons_zero, List.set_cons_succ])
                      refine wpAnyH_ready (rs := [3]) (by kernel_rfl) (by simp) ?_
                      refine AllReadyH.cons rfl (fun K hK => ?_) AllReadyH.nil
                      go_simp
                      go_at_call 14
                      refine (Two.callV  (g := _) ((HT.out.drew.alloc 49).alloc 49) (by simp) HDL.out hdk32).mono ?_
                      rintro e W1 ⟨v1, rfl, hst1⟩
                      refine hK.out _ _ ?_ (fun hHeld => ?_)
                      · exact (hst1).range (by simp)
                      clear hK K
                      (try simp only [Act.put, List.setIfInBounds_toArray, List.set_cons_zero, List.set_cons_succ])
                      refine wpAnyH_ready (rs := [7]) (by kernel_rfl) (by simp) ?_
                      refine AllReadyH.cons rfl (fun K hK => ?_) AllReadyH.nil
                      refine step_app rfl _ _ _ _ rfl 49 49 i1 z1 32 32 Try.underlying38 Try.underlying38 HI1.out HZ1.out HD2.out HD3.out HZ2.out (by decide) u9 ds.length _ rfl (Two.sums (hst1)).2 _ _ _ (bv dk) rfl (by rw [bv_length]; exact HDL.out) (Two.src (hst1) (by simp)) (bv_one _) (by unfold maxLen; omega) (by omega) ?_
                      intro v2 w2 ho2 hm2
                      have hst2 := Two.appS (hst1) HDL.out ho2 hm2
                      refine hK.out _ _ ?_ (fun hHeld => ?_)
                      · exact (hst2).range (by simp)
                      clear hK K
                      (try simp only [Act.put, List.setIfInBounds_toArray, List.set_cons_zero, List.set_cons_succ])
                      refine wpAnyH_ready (rs := [8]) (by kernel_rfl) (by simp) ?_
                      refine AllReadyH.cons rfl (fun K hK => ?_) AllReadyH.nil
                      go_simp
                      refine hK.out _ _ ?_ (fun hHeld => ?_)
                      · exact hst2.range (by simp)
                      clear hK K
                      refine wpAnyH_ready (rs := [9]) (by kernel_rfl) (by simp) ?_
                      refine AllReadyH.cons rfl (fun K hK => ?_) AllReadyH.nil
                      go_simp
                      refine hK.out _ _ ?_ (fun hHeld => ?_)
                      · exact hst2.range (by simp)
                      clear hK K
                      refine wpAnyH_done (by kernel_rfl) ?_ _
                      go_wp2
                      go_roundw
                      case rel => exact ⟨k + 1, by omega, by go_num, by rw [HNX.out]; exact hst2.own, by rw [HNX.out, List.length_append, HLL.out, HDL.out, Nat.mul_add, Nat.add_assoc], hst2.fv, by rw [HND.out]; exact hst2.sums, hst2.fs, hst2.apart⟩
                      case measure => simp [intOf]; omega
                  · obtain rfl : k = d.length := by omega
                    rw [List.take_length] at ho hs
                    have hXl := HXL.out
                    have hfd : (d.flatMap id).length = 32 * d.length := flat_sums hs.1
                    have hsl := hs.2.1
                    have HXD := Lib.hid hfd
                    clear HLL hfd
                    have hx0 := hf.ext
                    have hx1 : Ext w (wr.alloc (.cells #[] 5)) := hx0.alloc _
                    have hfr0 : Fresh wr (wr.alloc (.cells #[] 5)) (.slice (some ⟨wr.heap.size, 0, none⟩) 0 0) := fresh_empty _ _
                    have hsh := hs.holds
                    have hslt := hs.lt
                    obtain ⟨As, cs, hvs⟩ := hs.2.form
                    subst hvs
                    have HS := Lib.hid hs
                    have HSH := Lib.hid hsh
                    have HO := Lib.hid ho
                    have hF1 : ∀ b, F b → b < wr.heap.size := fun b hb => Nat.lt_of_lt_of_le (hF b hb) hx0.size
                    clear hs ho hsh hsl hap
                    go_wp2_with fail
                    refine (Out_One _ _ [] a _ F (own_empty rfl) (hx1.holds hF ha0) (by simp only [List.length_nil]; omega)).mono ?_
                    rintro e w2 ⟨v2, rfl, ho2, hm2⟩
                    have hfr2 : Fresh wr w2 v2 := hfr0.trans hm2
                    rw [List.nil_append] at ho2
                    go_wp2_with fail
                    refine (Out_Four _ _ a b _ F ho2 ((hx0.trans hfr2.ext).holds hF hb0) (hfr2.farF hF1) (by omega)).mono ?_
                    rintro e w3 ⟨v3, rfl, ho3, hm3⟩
                    have hfr3 : Fresh wr w3 v3 := hfr2.trans hm3
                    clear ho2
                    go_wp2_with fail
                    refine (Out_Eight _ _ _ c _ F ho3 ((hx0.trans hfr3.ext).holds hF hc0) (hfr3.farF hF1) (by rw [List.length_append, be_flat]; omega)).mono ?_
                    rintro e w4 ⟨v4, rfl, ho4, hm4⟩
                    have hfr4 : Fresh wr w4 v4 := hfr3.trans hm4
                    clear ho3
                    rw [HX.out] at ho4
                    go_wp2_with fail
                    refine (Out_Sum _ _ X d _ _ ho4 (hfr4.ext.holds hslt HSH.out) (hfr4.farF hslt) (by omega)).mono ?_
                    rintro e w5 ⟨v5, rfl, ho5, hm5⟩
                    have hfr5 : Fresh wr w5 v5 := hfr4.trans hm5
                    have ho1 := HO.out.ext hfr5.ext
                    clear ho4
                    have hyl : (X ++ d.flatMap id).length = a.length + 4 * b.length + 8 * c.length + 32 * d.length := by rw [List.length_append, HXD.out, HXL.out]
                    generalize X ++ d.flatMap id = Y at *
                    have HYL := Lib.hid hyl
                    obtain ⟨A1, c1, rfl⟩ := ho1.form
                    obtain ⟨A5, c5, rfl⟩ := ho5.form
                    clear HO hXl hyl
                    go_wp2_with fail
                    refine (awake_true _).mono ?_
                    rintro e w6 ⟨rfl, hx6⟩
                    have hS1 := run_str w6 _ _ _ Try.underlying27 Try.underlying5 Try.underlying9 A1 c1 Y (ho1.ext hx6).src
                    have hS5 := run_str w6 _ _ _ Try.underlying27 Try.underlying5 Try.underlying9 A5 c5 Y (ho5.ext hx6).src
                    have hq : ((Y.length : Int) == (a.length : Int) + 4 * (b.length : Int) + 8 * (c.length : Int) + 32 * (d.length : Int)) = true := by rw [HYL.out]; simp
                    go_wp2
                    go_ret
                    exact ⟨rfl, hx0.trans (hfr5.ext.trans hx6)⟩
end Go.Proofs.Ytihbalobgalpmaa

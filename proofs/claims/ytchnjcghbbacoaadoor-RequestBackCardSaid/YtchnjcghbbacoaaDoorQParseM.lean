/- What request's Parse answers, and the object that it reads from. No program's walk here but octet.In's state. Conditions: none. -/
import Derived.Test.YtchnjcghbbacoaaDoorQModel
import Derived.Test.YtchnjcghbbacoaaDoorQEights
import Derived.Test.YtchnjcghbbacoaaDoorIn
import Derived.Test.YtchnjcghbbacoaaDoorPart
import Derived.Test.YtchnjcghbbacoaaDoorBuild
import Derived.Test.YtchnjcghbbacoaaDoorQShelf
set_option linter.unusedVariables false
set_option linter.unusedSimpArgs false
set_option linter.unnecessarySimpa false
namespace Go.Proofs.YtchnjcghbbacoaaDoor
open Go.RowKit

theorem setRow_grownQ {a w : World} {r : Option Nat} (h : a.grownBy w r) (g : Nat) (cs : Array Value) (hg : a.heap.size ≤ g) : a.grownBy (w.setRow g cs) r :=
  grown_then h (setRow_only cs) (.inr (by rintro _ ⟨⟩; exact hg))
/-- The request of nothing. -/
def zR : Rq := (0, 0, 0, List.replicate 32 0, ⟨#[]⟩)
theorem zR_ok : RqOk zR := ⟨rfl, rfl, rfl, by show (0 : Nat) ≤ maxLen; decide⟩
/-- What is read of the bytes. -/
def rrM (p : List UInt8) : Rq × Int :=
  let a := numM 1 (p, 0)
  let b := numM 8 a.2
  let c := numM 8 b.2
  let h := sumM c.2
  let n := blobM 100 h.2
  ((UInt8.ofNat a.1, b.1, c.1, h.1, ⟨n.1.toArray⟩), (endM n.2).2)
def readM (p : List UInt8) : Rq × Int := if (rrM p).2 ≠ 0 then (zR, (rrM p).2) else if rightR (rrM p).1 = false then (zR, 1) else ((rrM p).1, 0)
inductive Parsed (t : List UInt8) : Rq → Int → Prop
  | limit : 4096 < t.length → Parsed t zR 8
  | word : t.length ≤ 4096 → Lib.hasPrefix t headK = false → Parsed t zR 40
  | form (body : List UInt8) (b : UInt8) : t.length ≤ 4096 → t = headK ++ body → b ∈ body → Lib.indexByte lettersK b < 0 → Parsed t zR 10
  | short (l : List Nat) : t.length ≤ 4096 → t = headK ++ l.map letter → (∀ x ∈ l, x < 32) → l.length < 6 → Parsed t zR 9
  | sign (l : List Nat) : t.length ≤ 4096 → t = headK ++ l.map letter → (∀ x ∈ l, x < 32) → 6 ≤ l.length → mixM (aheadK ++ l) ≠ 1 → Parsed t zR 20
  | odd (l : List Nat) (p : List UInt8) : t.length ≤ 4096 → t = headK ++ l.map letter → (∀ x ∈ l, x < 32) → 6 ≤ l.length → mixM (aheadK ++ l) = 1 → Eights (l.take (l.length - 6)) p false → Parsed t zR 10
  | tail (l : List Nat) (p : List UInt8) : t.length ≤ 4096 → t = headK ++ l.map letter → (∀ x ∈ l, x < 32) → 6 ≤ l.length → mixM (aheadK ++ l) = 1 → Eights (l.take (l.length - 6)) p true → Parsed t (readM p).1 (readM p).2
def ParseOut (t : List UInt8) (w w' : World) (e : Ending) : Prop := ∃ (r : Rq) (x : Int), e = .returned (.tuple #[.agg (rqC r).toArray, .int .i64 x]) ∧ Parsed t r x ∧ RqOk r ∧ Ext w w'
theorem letter_found (b : UInt8) : Lib.indexByte lettersK b < 0 ∨ ∃ x : Nat, x < 32 ∧ Lib.indexByte lettersK b = (x : Int) ∧ letter x = b := by
  have h : ∀ n : Fin 256, (Lib.indexByte lettersK (UInt8.ofNat n.1) < 0) ∨ ((Lib.indexByte lettersK (UInt8.ofNat n.1)).toNat < 32 ∧ Lib.indexByte lettersK (UInt8.ofNat n.1) = ((Lib.indexByte lettersK (UInt8.ofNat n.1)).toNat : Int) ∧ letter (Lib.indexByte lettersK (UInt8.ofNat n.1)).toNat = UInt8.ofNat n.1) := by decide +kernel
  have := h ⟨b.toNat, b.toNat_lt⟩
  simp only [UInt8.ofNat_toNat] at this
  rcases this with h | ⟨h1, h2, h3⟩
  · exact .inl h
  · exact .inr ⟨_, h1, h2, h3⟩
theorem letter_index (x : Nat) (h : x < 32) : Lib.indexByte lettersK (letter x) = (x : Int) := by
  have : ∀ x : Fin 32, Lib.indexByte lettersK (letter x.1) = (x.1 : Int) := by decide +kernel
  exact this ⟨x, h⟩
theorem OwnB.holds_take {w : World} {A : Option Addr} {c m : Nat} {bs : List UInt8} (h : OwnB w (.slice A bs.length c) bs) (hm : m ≤ bs.length) : (Ty.sl .u8).holds w (fun b => (Value.slice A bs.length c).ownBlock = some b) [.slice A m c] (bs.take m) := by
  obtain ⟨A', c', xs, hv, h1, h2, h3, h4, h5⟩ := OwnB.holds h
  cases hv
  obtain rfl := AllH.bytes.1 h5
  refine ⟨A, c, bv (bs.take m), by rw [List.length_take, Nat.min_eq_left hm], by rw [List.length_take]; omega, h2, h3, fun hne => ?_, AllH.bytes.2 rfl⟩
  obtain ⟨ad, hA, hF, hc⟩ := h4 (by rintro rfl; simp at hne)
  refine ⟨ad, hA, hF, ?_⟩
  have := hc.take m
  simpa [bv, List.map_take] using this
/-- Where Parse stands while it reads. -/
structure TailAt (w W : World) (g2 g q gr : Nat) (ZR C : List Value) (s : InS) : Prop where
  ext : Ext w W
  b2 : Blk W g2 31 ZR
  inp : InAt W g q s
  br : Blk W gr 31 C
  n1 : g2 ≠ g
  n2 : g2 ≠ gr
  n3 : g ≠ gr
  n4 : q ≠ gr
  l2 : w.heap.size ≤ g2
  lg : w.heap.size ≤ g
  lr : w.heap.size ≤ gr
theorem TailAt.step {w W W' : World} {g2 g q gr : Nat} {ZR C : List Value} {s s' : InS} (h : TailAt w W g2 g q gr ZR C s) (hg : W.grownBy W' (some g)) (hi : InAt W' g q s') : TailAt w W' g2 g q gr ZR C s' :=
  ⟨grown_then h.ext hg (.inr (by rintro _ ⟨⟩; exact h.lg)), h.b2.keep hg (by simpa using h.n1), hi, h.br.keep hg (by simpa using Ne.symm h.n3), h.n1, h.n2, h.n3, h.n4, h.l2, h.lg, h.lr⟩
theorem TailAt.grow {w W W' : World} {g2 g q gr : Nat} {ZR C : List Value} {s : InS} (h : TailAt w W g2 g q gr ZR C s) (hg : Ext W W') : TailAt w W' g2 g q gr ZR C s :=
  ⟨h.ext.trans hg, h.b2.keep hg (by simp), h.inp.ext hg, h.br.keep hg (by simp), h.n1, h.n2, h.n3, h.n4, h.l2, h.lg, h.lr⟩
theorem TailAt.set {w W : World} {g2 g q gr : Nat} {ZR C : List Value} {s : InS} (h : TailAt w W g2 g q gr ZR C s) (i : Nat) (u : Value) : TailAt w (W.setCell ⟨gr, i, none⟩ u) g2 g q gr ZR (C.set i u) s :=
  ⟨grown_then h.ext (only_set i u) (.inr (by rintro _ ⟨⟩; exact h.lr)), h.b2.keep (only_set i u) (by simpa using h.n2), h.inp.keep (only_set i u) (by simpa using h.n3) (by simpa using h.n4), h.br.set i u, h.n1, h.n2, h.n3, h.n4, h.l2, h.lg, h.lr⟩
theorem TailAt.row {w W : World} {g2 g q gr : Nat} {ZR C C' : List Value} {s : InS} (h : TailAt w W g2 g q gr ZR C s) : TailAt w (W.setRow gr C'.toArray) g2 g q gr ZR C' s :=
  ⟨grown_then h.ext (setRow_only _) (.inr (by rintro _ ⟨⟩; exact h.lr)), h.b2.keep (setRow_only _) (by simpa using h.n2), h.inp.keep (setRow_only _) (by simpa using h.n3) (by simpa using h.n4), setRow_at h.br, h.n1, h.n2, h.n3, h.n4, h.l2, h.lg, h.lr⟩
theorem sumM_lenQ (s : InS) : (sumM s).1.length = 32 := by
  have h := cutM_len 32 s
  show ((cutM 32 s).1 ++ List.replicate (32 - (cutM 32 s).1.length) 0).length = 32
  rw [List.length_append, List.length_replicate]; omega
theorem wf_u64Q {n : Nat} (h : n < 256 ^ 8) : (Lit.int .u64 (n : Int)).wf = true := by
  simp [Lit.wf, IntKind.min, IntKind.max, IntKind.bits, IntKind.signed]; omega
theorem blobM_lenQ (most : Int) (s : InS) : (blobM most s).1.length < 4294967296 := by
  unfold blobM
  split
  · simp
  · exact Nat.lt_of_le_of_lt (cutM_len _ _) (numM_lt 4 s)
theorem rrM_ok (p : List UInt8) : RqOk (rrM p).1 :=
  ⟨wf_u64Q (numM_lt 8 _), wf_u64Q (numM_lt 8 _), sumM_lenQ _, by
    have h := blobM_lenQ 100 (sumM (numM 8 (numM 8 (numM 1 (p, 0)).2).2).2).2
    have e : (rrM p).1.2.2.2.2.size = (blobM 100 (sumM (numM 8 (numM 8 (numM 1 (p, 0)).2).2).2).2).1.length := List.size_toArray
    rw [e]; unfold maxLen; omega⟩
theorem rqC_noteH {r : Rq} (h : r.2.2.2.1.length = 32) : (rqC r)[35]? = some (.string r.2.2.2.2) := by
  show (bv r.2.2.2.1 ++ [Value.string r.2.2.2.2])[32]? = _
  rw [List.getElem?_append_right (by rw [bv_length, h]; omega), bv_length, h]
  rfl
theorem rq_put (a : UInt8) (b c : Nat) (d d' : List UInt8) (e : ByteArray) (hd : d.length = 32) (hd' : d'.length = 32) : putAt (rqC (a, b, c, d, e)) 3 (bv d') = rqC (a, b, c, d', e) := by
  show [Value.int .u8 (a.toNat : Int), .int .u64 (b : Int), .int .u64 (c : Int)] ++ bv d' ++ (rqC (a, b, c, d, e)).drop (3 + (bv d').length) = _
  rw [bv_length, hd']
  show _ ++ _ ++ (bv d ++ [Value.string e]).drop 32 = _
  rw [List.drop_left' (by rw [bv_length, hd])]
  rfl
theorem rq_note (a : UInt8) (b c : Nat) (d : List UInt8) (e e' : ByteArray) (hd : d.length = 32) : (rqC (a, b, c, d, e)).set 35 (.string e') = rqC (a, b, c, d, e') := by
  show Value.int .u8 (a.toNat : Int) :: .int .u64 (b : Int) :: .int .u64 (c : Int) :: ((bv d ++ [Value.string e]).set 32 (.string e')) = _
  rw [List.set_append_right _ _ (by rw [bv_length, hd]; omega), bv_length, hd]
  rfl
theorem exec_build0Q {P : Program} {o : Oper} {a : Act} {v : Array Value} (w : World) (t : TypeId) (ho : o.op = .build t #[]) (hb : P.built t [] = some v) : (execOp a.eval o).run P w = .ok (.value (.agg v)) w := by
  unfold execOp
  simp only [ho]
  rw [Sem.run_bind, run_build w t _ v (by simpa using hb)]
  simp
theorem zR_built : (Tryd.prog.built 31 []) = some (rqC zR).toArray := by kernel_rfl
theorem zR_zero : (Tryd.prog.info? 31).bind (fun i => i.zero.map (·.cells)) = some (rqC zR).toArray := by kernel_rfl
theorem rq_fields : ∃ fields, Tryd.prog.underlying 31 = some (.struct fields) ∧ fields.toList.mapM (fun f => (Tryd.prog.info? f.type).map fun i => (f.offset, i.size)) = some [(0, 1), (1, 1), (2, 1), (3, 32), (35, 1)] := ⟨_, Tryd.underlying31, by kernel_rfl⟩
theorem rqC_one (r : Rq) : ∀ u ∈ rqC r, u.oneCell' = true := by
  intro u hu
  simp only [rqC, List.mem_cons, List.mem_append, List.not_mem_nil, or_false] at hu
  rcases hu with rfl | rfl | rfl | hu | rfl
  · rfl
  · rfl
  · rfl
  · exact bv_one _ u hu
  · rfl
end Go.Proofs.YtchnjcghbbacoaaDoor

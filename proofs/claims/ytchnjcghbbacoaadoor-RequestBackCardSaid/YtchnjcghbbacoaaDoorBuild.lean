/- A struct or an array built from parts that are lists of cells. No condition but what each names. -/
import Derived.Test.YtchnjcghbbacoaaDoorQuiet
import Derived.Laws.Tables
set_option linter.unusedVariables false
set_option linter.unusedSimpArgs false
set_option linter.unnecessarySimpa false
namespace Go.Proofs.YtchnjcghbbacoaaDoor
open Go.RowKit

theorem seg_fold : ∀ (cs : List Value) (off k : Nat) (xs : List Value), off + k + cs.length ≤ xs.length →
    (cs.zipIdx k).foldl (fun (a : Array Value) (p : Value × Nat) => a.setIfInBounds (off + p.2) p.1) xs.toArray = (xs.take (off + k) ++ cs ++ xs.drop (off + k + cs.length)).toArray
  | [], off, k, xs, _ => by simp
  | c :: cs, off, k, xs, h => by
    simp only [List.length_cons] at h
    rw [List.zipIdx_cons, List.foldl_cons, List.setIfInBounds_toArray, seg_fold cs off (k + 1) _ (by simp; omega)]
    congr 1
    rw [List.length_cons, show off + (k + 1) + cs.length = off + k + (cs.length + 1) by omega, List.drop_set_of_lt (by omega), show off + (k + 1) = off + k + 1 by omega,
      List.take_add_one, List.take_set_of_le (by omega), List.getElem?_set_self (by omega)]
    simp
/-- What a build yields, over lists. -/
def fillL (place : Nat → Option (Nat × Nat)) (cells : List Value) : List (Nat × List Value) → Option (List Value)
  | [] => some cells
  | (i, v) :: rest =>
    match place i with
    | none => none
    | some (off, size) => if v.length ≠ size ∨ off + v.length > cells.length then none else fillL place (cells.take off ++ v ++ cells.drop (off + v.length)) rest
theorem fill_segs (place : Nat → Option (Nat × Nat)) : ∀ (parts : List (Nat × Value)) (segs : List (Nat × List Value)) (cells : List Value) (r : List Value), parts.map (fun p => (p.1, p.2.cells)) = segs.map (fun p => (p.1, p.2.toArray)) →
    fillL place cells segs = some r → Instr.fill place cells.toArray parts = some r.toArray
  | [], [], cells, r, _, h => by simp [fillL] at h; subst h; rfl
  | [], _ :: _, _, _, h, _ => by simp at h
  | _ :: _, [], _, _, h, _ => by simp at h
  | (i, v) :: parts, (i', u) :: segs, cells, r, h, hf => by
    simp only [List.map_cons, List.cons.injEq, Prod.mk.injEq] at h
    obtain ⟨⟨rfl, hv⟩, h⟩ := h
    unfold fillL at hf
    unfold Instr.fill
    cases hp : place i with
    | none => rw [hp] at hf; cases hf
    | some p =>
      obtain ⟨off, size⟩ := p
      rw [hp] at hf
      simp only at hf ⊢
      split at hf
      · cases hf
      · rename_i hc
        have h1 : u.length = size := by omega
        have h2 : off + u.length ≤ cells.length := by omega
        rw [hv, if_neg (by simp [h1]; omega)]
        have := seg_fold u off 0 cells (by omega)
        simp only [Nat.add_zero] at this
        have hz : u.toArray.zipIdx.foldl (fun (a : Array Value) (p : Value × Nat) => a.setIfInBounds (off + p.2) p.1) cells.toArray = (cells.take off ++ u ++ cells.drop (off + u.length)).toArray := by
          rw [← this]; simp
        have hz2 : (u.toArray.zipIdx.foldl (fun cs (c, j) => cs.setIfInBounds (off + j) c) cells.toArray) = (cells.take off ++ u ++ cells.drop (off + u.length)).toArray := hz
        rw [hz2]
        exact fill_segs place parts segs _ r h hf
theorem run_build_st {P : Program} (w : World) (t : TypeId) (parts : Array (Nat × Value)) (fields : Array Field) (z r : List Value) (places : List (Nat × Nat)) (segs : List (Nat × List Value)) (hu : P.underlying t = some (.struct fields))
    (hz : (P.info? t).bind (fun i => i.zero.map (·.cells)) = some z.toArray) (hp : fields.toList.mapM (fun f => (P.info? f.type).map fun i => (f.offset, i.size)) = some places)
    (hs : parts.toList.map (fun p => (p.1, p.2.cells)) = segs.map (fun p => (p.1, p.2.toArray))) (hf : fillL (places.toArray[·]?) z segs = some r) : (Instr.build t parts).run P w = .ok (.agg r.toArray) w := by
  obtain ⟨i, hi, hzz⟩ := Option.bind_eq_some_iff.1 hz
  obtain ⟨zv, hzv, hzc⟩ := Option.map_eq_some_iff.1 hzz
  refine run_build w t parts _ ?_
  unfold Program.built
  simp only [hi, hu, hzv, hp, hzc]
  exact fill_segs _ _ _ _ _ hs hf
theorem exec_build_st {P : Program} {o : Oper} {a : Act} (w : World) (t : TypeId) (parts : Array (Nat × Operand)) (ho : o.op = .build t parts) (fields : Array Field) (z r : List Value) (places : List (Nat × Nat)) (segs : List (Nat × List Value)) (hu : P.underlying t = some (.struct fields))
    (hz : (P.info? t).bind (fun i => i.zero.map (·.cells)) = some z.toArray) (hp : fields.toList.mapM (fun f => (P.info? f.type).map fun i => (f.offset, i.size)) = some places)
    (hs : (parts.map fun p => (p.1, a.eval p.2)).toList.map (fun p => (p.1, p.2.cells)) = segs.map (fun p => (p.1, p.2.toArray))) (hf : fillL (places.toArray[·]?) z segs = some r) : (execOp a.eval o).run P w = .ok (.value (.agg r.toArray)) w := by
  unfold execOp
  simp only [ho]
  rw [Sem.run_bind, run_build_st w t _ fields z r places segs hu hz hp hs hf]
  simp
/-- A struct built from parts, some of them lists of cells. -/
theorem wpList_build_st {P : Program} {w : World} {ops : Array Oper} {rest : List Oper} {o : Oper} {a : Act} {Q : Exit → Act → World → Prop} (hgd : o.guard = none ∨ Region.wanted o (yielded ops a.tmps) = true) (t : TypeId) (parts : Array (Nat × Operand)) (ho : o.op = .build t parts) (fields : Array Field) (z r : List Value) (places : List (Nat × Nat)) (segs : List (Nat × List Value)) (hu : P.underlying t = some (.struct fields))
    (hz : (P.info? t).bind (fun i => i.zero.map (·.cells)) = some z.toArray) (hp : fields.toList.mapM (fun f => (P.info? f.type).map fun i => (f.offset, i.size)) = some places)
    (hs : (parts.map fun p => (p.1, a.eval p.2)).toList.map (fun p => (p.1, p.2.cells)) = segs.map (fun p => (p.1, p.2.toArray))) (hf : fillL (places.toArray[·]?) z segs = some r)
    (h : wpList P ops Q rest (a.put o.dst (.agg r.toArray)) w) : wpList P ops Q (o :: rest) a w :=
  wpList_build hgd t parts ho _ (exec_build_st w t parts ho fields z r places segs hu hz hp hs hf) h
theorem quiet_build_st {P : Program} {C : World → Prop} {o : Oper} {a : Act} {K : Act → Prop} (t : TypeId) (parts : Array (Nat × Operand)) (ho : o.op = .build t parts) (fields : Array Field) (z r : List Value) (places : List (Nat × Nat)) (segs : List (Nat × List Value)) (hu : P.underlying t = some (.struct fields))
    (hz : (P.info? t).bind (fun i => i.zero.map (·.cells)) = some z.toArray) (hp : fields.toList.mapM (fun f => (P.info? f.type).map fun i => (f.offset, i.size)) = some places)
    (hs : (parts.map fun p => (p.1, a.eval p.2)).toList.map (fun p => (p.1, p.2.cells)) = segs.map (fun p => (p.1, p.2.toArray))) (hf : fillL (places.toArray[·]?) z segs = some r)
    (h : K (a.put o.dst (.agg r.toArray))) : o.quiet P a C K :=
  quiet_run _ (fun w _ => exec_build_st w t parts ho fields z r places segs hu hz hp hs hf) h
end Go.Proofs.YtchnjcghbbacoaaDoor

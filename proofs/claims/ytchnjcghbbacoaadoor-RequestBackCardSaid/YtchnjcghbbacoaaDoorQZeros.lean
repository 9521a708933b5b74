/- 'append(s, make([]byte, k)...)' onto a slice of its own that holds something. No condition but what each names. -/
import Derived.Test.YtchnjcghbbacoaaDoorByt
import Derived.Lib.AppendZerosOnto
set_option linter.unusedVariables false
set_option linter.unusedSimpArgs false
set_option linter.unnecessarySimpa false
namespace Go.Proofs.YtchnjcghbbacoaaDoor
open Go.RowKit

theorem zeroCells_byte (k : Nat) : (Builtin.zeroCells (Value.int .u8 0).cells k).toList = List.replicate k (Value.int .u8 0) := by
  apply List.ext_getElem?
  intro j
  by_cases hj : j < k
  · simp [Builtin.zeroCells, Value.cells, hj, Nat.mod_one]
  · simp [Builtin.zeroCells, Value.cells, hj]
theorem run_app_zeros {P : Program} (w : World) (t tn ty e : TypeId) (i : TypeInfo) (kq kn : IntKind) (ht : P.underlying t = some (.slice e)) (htn : P.underlying tn = some (.int kn)) (hi : P.info? e = some i) (hz : i.zero = some (.int .u8 0)) (hs : i.size = 1) (hby : i.bytes = 1)
    (v : Value) (n : Nat) (xs : List Value) (hown : Own w e 1 v n xs) (hn0 : 0 < n) (k : Nat) (hk0 : 0 < k) (hb : n + k ≤ 1000000) :
    ∃ v' w', (Builtin.append_ #[t, tn] ty #[v, .int kq (k : Int)]).run P w = .ok v' w' ∧ Own w' e 1 v' (n + k) (xs ++ List.replicate k (.int .u8 0)) ∧ Moved w w' v v' := by
  have hlen : (xs ++ List.replicate k (Value.int .u8 0)).length = (n + k) * 1 := by rw [List.length_append, hown.1, List.length_replicate]; omega
  have hm : (1000000 : Nat) ≤ maxLen := by unfold maxLen; omega
  rcases hown.2 with ⟨rfl, rfl⟩ | ⟨g, cap, cur, rfl, hbg, hg, hnc, hcm, hcs, htake⟩
  · omega
  · have hx1 : xs.length = n * 1 := hown.1
    by_cases hroom : n + k ≤ cap
    · have hfit : n + 0 + (List.replicate k (Value.int .u8 0)).length ≤ cur.size := by rw [hcs, List.length_replicate]; omega
      have hst := run_storeCells_at P g n e (List.replicate k (Value.int .u8 0)) 0 cur w hg hfit (by intro u hu; rw [List.eq_of_mem_replicate hu]; rfl)
      have hw : IntKind.i64.wrap (k : Int) = k := by rw [IntKind.wrap_i64]; omega
      have hneg : ¬ ((k : Int) < 0) := by omega
      have h48i : ¬ (281474976710656 < (k : Int)) := by omega
      have hns : ¬ (k = 0) := by omega
      have hr : (Builtin.append_ #[t, tn] ty #[.slice (some ⟨g, 0, none⟩) n cap, .int kq (k : Int)]).run P w = .ok (.slice (some ⟨g, 0, none⟩) (n + k) cap) (w.setRow g (cur.toList.take n ++ List.replicate k (Value.int .u8 0) ++ cur.toList.drop (n + k)).toArray) := by
        simp only [Nat.add_zero, List.length_replicate] at hst
        simp [Builtin.append_, run_underlying ht, run_underlying htn, sizeOf, typeInfo, zeroValue, hi, hz, hs, hby, asInt, asIntOf, hw, hneg, hns, h48i, hroom, Addr.add_lit, zeroCells_byte, hst]
      refine ⟨_, _, hr, ⟨hlen, .inr ⟨g, cap, _, rfl, hbg, setRow_heap w g cur _ e _ hg, hroom, hcm, ?_, ?_⟩⟩, ⟨⟨rfl, rfl, rfl, by simp [World.setRow], fun b _ hne => setRow_other w g b _ (fun e => hne (by simp [Value.ownBlock, e]))⟩, .inl rfl⟩⟩
      · simp only [List.size_toArray, List.length_append, List.length_take, List.length_drop, Array.length_toList, List.length_replicate]
        omega
      · rw [Nat.mul_one] at htake
        rw [htake, Nat.mul_one]
        have : n + k = (xs ++ List.replicate k (Value.int .u8 0)).length := by omega
        rw [this]
        exact List.take_left
    · have holds : ∀ j u, xs[j]? = some u → w.drew.cell? ((⟨g, 0, none⟩ : Addr).add j) = some u := hown.cells (g := g) rfl
      have hold : (Builtin.firstCells i.size n (.slice (some ⟨g, 0, none⟩) n cap)).run P w.drew = .ok xs.toArray w.drew := run_firstCells_some (P := P) w.drew i.size n _ n cap xs (by rw [hs]; exact hx1) holds
      have hr := Lib.run_append_grow_zeros (P := P) w t tn ty e i (.int .u8 0) kq kn ht htn hi hz (some ⟨g, 0, none⟩) n cap xs hold k hk0 (by omega) (by omega) (by omega) (by rw [hby]; omega) (growslice_fits (by omega) (by rw [hby]; omega))
      have hge := grownCap_ge w (n + k) cap e
      have hcm2 : grownCap w (n + k) cap e ≤ maxLen := grownCap_le_maxLen w (n + k) cap e (by omega)
      refine ⟨_, _, hr, ⟨hlen, .inr ⟨w.heap.size, _, _, rfl, Nat.zero_le _, heap_alloc_new w.drew _, hge, hcm2, ?_, ?_⟩⟩, ⟨⟨rfl, rfl, rfl, by simp, fun b hb2 _ => heap_alloc_old w.drew _ hb2⟩, .inr (by rintro b ⟨⟩; exact Nat.le_refl _)⟩⟩
      · simp only [Array.size_append, List.size_toArray, size_zeroCells, hx1]
        simp [Value.cells]
        omega
      · simp only [Array.toList_append, zeroCells_byte]
        rw [← hlen]
        exact List.take_left
end Go.Proofs.YtchnjcghbbacoaaDoor

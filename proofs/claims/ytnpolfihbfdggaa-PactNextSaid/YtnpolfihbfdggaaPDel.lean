/- Walk of the library's Delete at payments, one taken out. Condition: the payments lie in a row of their own. -/
import Derived.Test.YtnpolfihbfdggaaPSame
import Derived.Outline
set_option linter.unusedVariables false
set_option linter.unusedSimpArgs false
set_option linter.unnecessarySimpa false
namespace Go.Proofs.Ytnpolfihbfdggaa
open Go.RowKit

section
variable {P : Program} (w : World)
/-- Append that has room, in a row that is known. -/
theorem run_app_room (t ty e : TypeId) (i : TypeInfo) (size : Nat) (ht : P.underlying t = some (.slice e)) (hi : P.info? e = some i) (hsize : i.size = size)
    (g n cap : Nat) (cur : List Value) (hg : w.heap[g]? = some (.cells cur.toArray e (0, 0))) (hcur : cur.length = cap * size)
    (A : Option Addr) (m c : Nat) (news : List Value) (hl : news.length = m * size) (hnews : Src w A m news) (h1 : ∀ u ∈ news, u.oneCell' = true) (hroom : n + m ≤ cap) :
    (Builtin.append_ #[t, t] ty #[.slice (some ⟨g, 0, none⟩) n cap, .slice A m c]).run P w = .ok (.slice (some ⟨g, 0, none⟩) (n + m) cap) (w.setRow g (cur.take (n * size) ++ news ++ cur.drop (n * size + news.length)).toArray) := by
  have hfc : (Builtin.firstCells i.size m (.slice A m c)).run P w = .ok news.toArray w := by
    cases A with
    | none =>
      have hm : m = 0 := by
        rcases Nat.eq_zero_or_pos m with h | h
        · exact h
        · obtain ⟨ad, h', _⟩ := hnews (by omega); cases h'
      subst hm
      obtain rfl : news = [] := List.eq_nil_of_length_eq_zero (by simpa using hl)
      simp [Builtin.firstCells]
    | some ad =>
      refine run_firstCells_some (P := P) w i.size m ad m c news (by rw [hl, hsize]) fun j u hu => ?_
      rcases Nat.eq_zero_or_pos m with h | h
      · subst h
        obtain rfl : news = [] := List.eq_nil_of_length_eq_zero (by simpa using hl)
        simp at hu
      · obtain ⟨ad', h', hc⟩ := hnews (by omega)
        cases h'
        exact hc j u hu
  rw [hsize] at hfc
  have hle : n * size + news.length ≤ cap * size := by rw [hl, ← Nat.add_mul]; exact Nat.mul_le_mul_right _ hroom
  have hst := run_storeCells_at (P := P) g (n * size) e news 0 cur.toArray w hg (by simp [hcur]; omega) h1
  simp only [Nat.add_zero] at hst
  have hadd : (⟨g, 0, none⟩ : Addr).add (n * size) = ⟨g, n * size, none⟩ := by unfold Addr.add; split <;> simp_all
  simp [Builtin.append_, run_underlying ht, sizeOf, typeInfo, hi, Builtin.lenOf, hroom, hfc, hsize, hadd, hst]
theorem run_clear_row (t ty e : TypeId) (z : Value) (size : Nat) (ht : P.underlying t = some (.slice e)) (hz : ∀ w, (zeroValue e).run P w = .ok z w) (hzs : z.cells.size = size) (hz1 : ∀ u ∈ z.cells.toList, u.oneCell' = true)
    (g o n c : Nat) (cur : List Value) (hg : w.heap[g]? = some (.cells cur.toArray e (0, 0))) (hfit : o + n * size ≤ cur.length) (hn : 0 < n) :
    ∃ zs : List Value, zs.length = n * size ∧ (Builtin.clear_ #[t] ty #[.slice (some ⟨g, o, none⟩) n c]).run P w = .ok (.tuple #[]) (w.setRow g (cur.take o ++ zs ++ cur.drop (o + zs.length)).toArray) := by
  have hone : ∀ u ∈ (Builtin.zeroCells z.cells n).toList, u.oneCell' = true := by
    intro u hu
    simp only [Builtin.zeroCells, Array.toList_map, List.mem_map] at hu
    obtain ⟨i, hi, rfl⟩ := hu
    have hi2 : i < n * size := by simpa [hzs] using hi
    have hpos : 0 < size := by
      rcases Nat.eq_zero_or_pos size with h | h
      · rw [h, Nat.mul_zero] at hi2; omega
      · exact h
    have hlt : i % z.cells.size < z.cells.size := by rw [hzs]; exact Nat.mod_lt _ hpos
    rw [getElem!_pos z.cells _ hlt]
    exact hz1 _ (by rw [← Array.getElem_toList]; exact List.getElem_mem _)
  have hlen : (Builtin.zeroCells z.cells n).toList.length = n * size := by rw [Array.length_toList, size_zeroCells, hzs]
  refine ⟨(Builtin.zeroCells z.cells n).toList, hlen, ?_⟩
  have hst := run_storeCells_at (P := P) g o e (Builtin.zeroCells z.cells n).toList 0 cur.toArray w hg (by rw [Nat.add_zero, hlen]; simpa using hfit) hone
  simp only [Nat.add_zero] at hst
  obtain ⟨n, rfl⟩ : ∃ k, n = k + 1 := ⟨n - 1, by omega⟩
  simp [Builtin.clear_, run_underlying ht, hz, hst]
theorem wp_room {o : Oper} {a : Act} {K : Act → World → Prop} {Q : Exit → Act → World → Prop} (s x : Operand) (t : TypeId)
    (ho : o.op = .call { callee := .builtin .append, args := #[s, x], argTypes := #[t, t] }) (e : TypeId) (i : TypeInfo) (size : Nat) (ht : P.underlying t = some (.slice e)) (hi : P.info? e = some i) (hsize : i.size = size)
    (g n cap : Nat) (hs : a.eval s = .slice (some ⟨g, 0, none⟩) n cap) (cur : List Value) (hg : w.heap[g]? = some (.cells cur.toArray e (0, 0))) (hcur : cur.length = cap * size)
    (A : Option Addr) (m c : Nat) (hx : a.eval x = .slice A m c) (news : List Value) (hl : news.length = m * size) (hnews : Src w A m news) (h1 : ∀ u ∈ news, u.oneCell' = true) (hroom : n + m ≤ cap)
    (h : K (a.put o.dst (.slice (some ⟨g, 0, none⟩) (n + m) cap)) (w.setRow g (cur.take (n * size) ++ news ++ cur.drop (n * size + news.length)).toArray)) : o.wp P a w K Q := by
  unfold Oper.wp execOp
  simp only [ho, resolve, invoke, builtin, Sem.run_bind, Sem.run_pure, Result.andThen_ok, List.map_toArray, List.map_cons, List.map_nil, hs, hx, run_app_room w t o.type e i size ht hi hsize g n cap cur hg hcur A m c news hl hnews h1 hroom]
  exact h
end
theorem wpList_clear {P : Program} {w : World} {ops : Array Oper} {rest : List Oper} {o : Oper} {a : Act} {Q : Exit → Act → World → Prop} (hgd : o.guard = none) (x : Operand) (t : TypeId) (ho : o.op = .call { callee := .builtin .clear, args := #[x], argTypes := #[t] })
    (e : TypeId) (z : Value) (size : Nat) (ht : P.underlying t = some (.slice e)) (hz : ∀ w, (zeroValue e).run P w = .ok z w) (hzs : z.cells.size = size) (hz1 : ∀ u ∈ z.cells.toList, u.oneCell' = true)
    (g off n c : Nat) (hx : a.eval x = .slice (some ⟨g, off, none⟩) n c) (cur : List Value) (hg : w.heap[g]? = some (.cells cur.toArray e (0, 0))) (hfit : off + n * size ≤ cur.length) (hn : 0 < n)
    (h : ∀ zs : List Value, zs.length = n * size → wpList P ops Q rest (a.put o.dst (.tuple #[])) (w.setRow g (cur.take off ++ zs ++ cur.drop (off + zs.length)).toArray)) : wpList P ops Q (o :: rest) a w :=
  wpList_plain hgd fun K hK => by
    obtain ⟨zs, hl, hr⟩ := run_clear_row (P := P) w t o.type e z size ht hz hzs hz1 g off n c cur hg hfit hn
    unfold Oper.wp execOp
    simp only [ho, resolve, invoke, builtin, Sem.run_bind, Sem.run_pure, Result.andThen_ok, List.map_toArray, List.map_cons, List.map_nil, hx, hr]
    exact hK _ _ (h zs hl)
/-- The payments without one. -/
theorem flat_erase : ∀ (cs : List Cd) (i : Nat), (∀ c ∈ cs, CondOk c) → i < cs.length → (cs.eraseIdx i).flatMap condCells = (cs.flatMap condCells).take (i * 36) ++ (cs.flatMap condCells).drop ((i + 1) * 36)
  | [], _, _, h => by simp at h
  | c :: cs, 0, hok, _ => by
    rw [List.eraseIdx_zero, List.tail_cons, List.flatMap_cons, Nat.zero_mul, List.take_zero, List.nil_append, show (0 + 1) * 36 = (condCells c).length by rw [condCells_len (hok c (by simp))], List.drop_left]
  | c :: cs, i + 1, hok, h => by
    have ih := flat_erase cs i (fun x hx => hok x (by simp [hx])) (by simpa using h)
    have hl := condCells_len (hok c (by simp))
    rw [List.eraseIdx_cons_succ, List.flatMap_cons, ih, List.flatMap_cons]
    rw [show (i + 1) * 36 = (condCells c).length + i * 36 by rw [hl]; omega, show (i + 1 + 1) * 36 = (condCells c).length + (i + 1) * 36 by rw [hl]; omega, List.take_length_add_append, List.drop_length_add_append, List.append_assoc, show (condCells c).length + i * 36 = (i + 1) * 36 by rw [hl]; omega]
theorem cond_zero_run : ∃ z : Value, (∀ w, (zeroValue 44).run Try.prog w = .ok z w) ∧ z.cells.size = 36 ∧ ∀ u ∈ z.cells.toList, u.oneCell' = true := by
  obtain ⟨i, z, hi, hz, h1, h2, h3⟩ := cond_parts
  refine ⟨z, fun w => by simp [zeroValue, typeInfo, hi, hz], h3, ?_⟩
  have h := cond_zero
  rw [hi] at h
  simp only [Option.bind_some, hz, Option.map_some, Option.some.injEq] at h
  rw [h]
  exact condCells_one _
set_option maxRecDepth 100000 in
set_option maxHeartbeats 1000000 in
theorem Delete (v : Value) (cs : List Cd) (i : Nat) (w : World) (ho : OwnC w v cs) (hi : i < List.length (α := Cd) cs) :
    Calls Try.prog 51 #[v, .int .i64 (i : Int), .int .i64 ((i : Int) + 1)] w fun e w' => ∃ v', e = .returned v' ∧ OwnC w' v' (cs.eraseIdx i) ∧ w.grownBy w' v.ownBlock ∧ v'.ownBlock = v.ownBlock := by
  obtain ⟨i1, z1, hi1, hz1, hi2, hi3, hi4⟩ := cond_parts
  obtain ⟨zv, hzr, hzs, hzo⟩ := cond_zero_run
  obtain ⟨hok, ho⟩ := ho
  have hfl := flat36 hok
  rcases ho.2 with ⟨rfl, h0⟩ | ⟨g, cap, cur, rfl, _, hg, hnc, hcm, hcs, htk⟩
  · omega
  · obtain ⟨n, hn⟩ : ∃ n, n = List.length (α := Cd) cs := ⟨_, rfl⟩
    rw [← hn] at hnc hi htk hfl ⊢
    obtain ⟨cl, rfl⟩ : ∃ cl : List Value, cur = cl.toArray := ⟨cur.toList, by simp⟩
    simp only [List.toList_toArray, List.size_toArray] at htk hcs
    unfold maxLen at hcm
    have HN := Lib.hid hn
    obtain ⟨X, hX⟩ : ∃ X, X = cs.flatMap condCells := ⟨_, rfl⟩
    rw [← hX] at htk hfl
    have HX := Lib.hid hX
    clear ho hn hX
    -- what is moved
    have hdl : (X.drop ((i + 1) * 36)).length = (n - (i + 1)) * 36 := by rw [List.length_drop, hfl, ← Nat.sub_mul]
    have hblk : Blk w g 44 cl := hg
    have hD : Cells w ⟨g, (i + 1) * 36, none⟩ (X.drop ((i + 1) * 36)) := by
      have h := (hblk.cells.take (n * 36)).drop ((i + 1) * 36)
      rw [htk] at h
      have e : (⟨g, 0, none⟩ : Addr).add ((i + 1) * 36) = ⟨g, (i + 1) * 36, none⟩ := by unfold Addr.add; split <;> simp_all
      rw [e] at h
      exact h
    have h1 : (i : Int) + 1 ≤ (n : Int) := by omega
    have hq : ((i : Int) == (i : Int) + 1) = false := by simp; omega
    have HBL := Lib.hid hblk
    have HTK := Lib.hid htk
    have HFL := Lib.hid hfl
    have HDL := Lib.hid hdl
    have HD := Lib.hid hD
    have HCS := Lib.hid hcs
    clear hg hblk htk hfl hdl hD hcs
    have hone : ∀ u ∈ X.drop ((i + 1) * 36), u.oneCell' = true := fun u hu => flat_one cs u (by rw [← HX.out]; exact List.mem_of_mem_drop hu)
    have hsrc : Src w (if cap = i + 1 then some ⟨g, 0, none⟩ else some ⟨g, (i + 1) * 36, none⟩) (n - (i + 1)) (X.drop ((i + 1) * 36)) := fun hm => ⟨_, by rw [if_neg (by omega)], HD.out⟩
    have HSRC := Lib.hid hsrc
    clear hsrc
    go_enter Try.func51, Try.ntmps51
    go_wp2
    refine startM Any (by kernel_rfl) ?_
    refine takeA 0 rfl (by kernel_rfl) (by kernel_rfl) (by kernel_rfl) rfl (fun _ _ _ _ h => h) rfl (fun K hK => ?_)
    go_big_quiet_op
    first | refine hK _ ?_ | refine ⟨_, fun _ _ => rfl, hK _ ?_⟩
    clear hK K
    refine takeA 1 rfl (by kernel_rfl) (by kernel_rfl) (by kernel_rfl) rfl (fun _ _ _ _ h => h) rfl (fun K hK => ?_)
    go_big_quiet_op
    first | refine hK _ ?_ | refine ⟨_, fun _ _ => rfl, hK _ ?_⟩
    clear hK K
    refine takeA 2 rfl (by kernel_rfl) (by kernel_rfl) (by kernel_rfl) rfl (fun _ _ _ _ h => h) rfl (fun K hK => ?_)
    go_big_quiet_op
    first | refine hK _ ?_ | refine ⟨_, fun _ _ => rfl, hK _ ?_⟩
    clear hK K
    refine takeA 3 rfl (by kernel_rfl) (by kernel_rfl) (by kernel_rfl) rfl (fun _ _ _ _ h => h) rfl (fun K hK => ?_)
    go_big_quiet_op
    first | refine hK _ ?_ | refine ⟨_, fun _ _ => rfl, hK _ ?_⟩
    clear hK K
    refine takeA 4 rfl (by kernel_rfl) (by kernel_rfl) (by kernel_rfl) rfl (fun _ _ _ _ h => h) rfl (fun K hK => ?_)
    go_big_quiet_op
    first | refine hK _ ?_ | refine ⟨_, fun _ _ => rfl, hK _ ?_⟩
    clear hK K
    refine takeA 5 rfl (by kernel_rfl) (by kernel_rfl) (by kernel_rfl) rfl (fun _ _ _ _ h => h) rfl (fun K hK => ?_)
    go_big_quiet_op
    first | refine hK _ ?_ | refine ⟨_, fun _ _ => rfl, hK _ ?_⟩
    clear hK K
    refine stepM 6 rfl (by kernel_rfl) rfl (fun K hK => ?_)
    refine wp_room _ (.tmp 22) (.tmp 25) _ rfl _ i1 36 Try.underlying34 hi1 hi2 g i cap rfl cl HBL.out HCS.out _ (n - (i + 1)) _ rfl (X.drop ((i + 1) * 36)) HDL.out HSRC.out hone (by omega) ?_
    refine hK _ _ (trivial) ?_
    clear hK K
    (try simp only [Act.put, List.setIfInBounds_toArray, List.set_cons_succ, List.set_cons_zero])
    refine takeA 7 rfl (by kernel_rfl) (by kernel_rfl) (by kernel_rfl) rfl (fun _ _ _ _ h => h) rfl (fun K hK => ?_)
    go_big_quiet_op
    first | refine hK _ ?_ | refine ⟨_, fun _ _ => rfl, hK _ ?_⟩
    clear hK K
    refine doneM (by kernel_rfl) ?_ _
    have e1 : i + (n - (i + 1)) = n - 1 := by omega
    have hxl : X.length = n * 36 := HFL.out
    have hcl1 : (cl.take (i * 36) ++ X.drop ((i + 1) * 36) ++ cl.drop (i * 36 + (X.drop ((i + 1) * 36)).length)).length = cap * 36 := by
      have := HDL.out; have := HCS.out
      have h1 : (i + 1) * 36 ≤ n * 36 := Nat.mul_le_mul_right _ (by omega)
      have h2 : n * 36 ≤ cap * 36 := Nat.mul_le_mul_right _ hnc
      simp only [List.length_append, List.length_take, List.length_drop]
      omega
    have hb1 : Blk (w.drew.setRow g (cl.take (i * 36) ++ X.drop ((i + 1) * 36) ++ cl.drop (i * 36 + (X.drop ((i + 1) * 36)).length)).toArray) g 44 (cl.take (i * 36) ++ X.drop ((i + 1) * 36) ++ cl.drop (i * 36 + (X.drop ((i + 1) * 36)).length)) := setRow_at (show w.drew.heap[g]? = _ from HBL.out)
    have hg1 : w.grownBy (w.drew.setRow g (cl.take (i * 36) ++ X.drop ((i + 1) * 36) ++ cl.drop (i * 36 + (X.drop ((i + 1) * 36)).length)).toArray) (some g) := grown_then ((Ext.refl w).drew.any _) (setRow_only _) (.inl rfl)
    have htk1 : (cl.take (i * 36) ++ X.drop ((i + 1) * 36) ++ cl.drop (i * 36 + (X.drop ((i + 1) * 36)).length)).take ((n - 1) * 36) = X.take (i * 36) ++ X.drop ((i + 1) * 36) := by
      have h1 : (i + 1) * 36 ≤ n * 36 := Nat.mul_le_mul_right _ (by omega)
      have h2 : n * 36 ≤ cap * 36 := Nat.mul_le_mul_right _ hnc
      have h3 : (cl.take (i * 36) ++ X.drop ((i + 1) * 36)).length = (n - 1) * 36 := by
        have := HDL.out; have := HCS.out
        simp only [List.length_append, List.length_take, List.length_drop]
        omega
      rw [← h3, List.take_left, ← HTK.out, List.take_take, Nat.min_eq_left (Nat.mul_le_mul_right _ (by omega))]
    rw [e1]
    generalize (cl.take (i * 36) ++ X.drop ((i + 1) * 36) ++ cl.drop (i * 36 + (X.drop ((i + 1) * 36)).length)) = c2 at *
    generalize w.drew.setRow g c2.toArray = w2 at *
    have HB1 := Lib.hid hb1
    have HG1 := Lib.hid hg1
    have HT1 := Lib.hid htk1
    have HCL1 := Lib.hid hcl1
    have n1 : 1 ≤ n := by omega
    have n2 : n - 1 ≤ cap := by omega
    have e2 : ((n - 1 : Nat) : Int) = (n : Int) - 1 := by omega
    clear e1 hxl hcl1 hb1 hg1 htk1 HBL HTK HFL HDL HD HCS HSRC
    go_wp2_with (first
      | (refine wpList_clear rfl (.tmp 31) _ rfl _ zv 36 Try.underlying34 hzr hzs hzo g ((n - 1) * 36) (n - (n - 1)) _ rfl c2 HB1.out (by rw [HCL1.out, show n - (n - 1) = 1 by omega]; omega) (by omega) ?_; intro zs hzl; have HZ := Lib.hid hzl; clear hzl; obtain ⟨c3, hc3⟩ : ∃ c3, c3 = c2.take ((n - 1) * 36) ++ zs ++ c2.drop ((n - 1) * 36 + zs.length) := ⟨_, rfl⟩; rw [← hc3]; have HC3 := Lib.hid hc3; clear hc3)
      | fail)
    all_goals
      have hb3 : Blk (w2.setRow g c3.toArray) g 44 c3 := setRow_at HB1.out
      have hel : List.length (α := Cd) (cs.eraseIdx i) = n - 1 := by rw [HN.out]; exact List.length_eraseIdx_of_lt (by rw [← HN.out]; exact hi)
      have hfe := flat_erase cs i hok (by rw [← HN.out]; exact hi)
      rw [← HX.out] at hfe
      have hok2 : ∀ c ∈ cs.eraseIdx i, CondOk c := fun c hc => hok c (List.mem_of_mem_eraseIdx hc)
      go_ret
      refine ⟨_, rfl, ⟨hok2, ?_⟩, grown_then HG1.out (setRow_only _) (.inl rfl), rfl⟩
      rw [hel]
      refine ⟨?_, .inr ⟨g, _, _, rfl, Nat.zero_le _, hb3, by omega, by unfold maxLen; omega, ?_, ?_⟩⟩
      · rw [flat36 hok2]; exact congrArg (· * 36) hel
      · have := HCL1.out
        rw [List.size_toArray, HC3.out, List.length_append, List.length_append, List.length_take, List.length_drop, HZ.out]
        omega
      · have h0 : (c2.take ((n - 1) * 36)).length = (n - 1) * 36 := by rw [List.length_take, HCL1.out]; omega
        rw [List.toList_toArray, HC3.out, List.append_assoc, List.take_append_of_le_length (by omega), List.take_of_length_le (by omega), HT1.out, hfe]
end Go.Proofs.Ytnpolfihbfdggaa

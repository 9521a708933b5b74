/- Walks of the mill's small functions. -/
import Derived.Test.YtklljkfnlakdaaaByt
import Derived.Test.YtklljkfnlakdaaaSh2
set_option linter.unusedVariables false
set_option linter.unusedSimpArgs false
set_option linter.unnecessarySimpa false
namespace Go.Proofs.Ytklljkfnlakdaaa
open Go.RowKit
section
variable (w : World)

set_option maxHeartbeats 400000 in
theorem Rot (x c : Nat) (hx : x < 4294967296) (hc : 0 < c) (hc2 : c < 32) : Calls Try.prog 33 #[.int .u32 x, .int .i64 (-(c : Int))] w fun e w' => e = .returned (.int .u32 (rotr x c)) ∧ w = w' := by
  have hs : ∀ c : Nat, c < 32 → 0 < c → bits .and .u64 (IntKind.u64.wrap (-(c : Int))) 31 = ((32 - c : Nat) : Int) := by decide +kernel
  have hs := hs c hc2 hc
  have hr := rot_bits x c hx (by omega)
  have e32 : 32 - (32 - c) = c := by omega
  have HR := Lib.hid hr
  have HE := Lib.hid e32
  have hs1 : 0 < 32 - c := by omega
  have hs2 : 32 - c < 32 := by omega
  clear hr e32
  go_enter Try.func33, Try.ntmps33
  go_wp2
  go_ret
  refine ⟨?_, rfl⟩
  rw [← HR.out]
  simp [HE.out]

set_option maxHeartbeats 400000 in
theorem Three (x a b c : Nat) (f : Bool) (hx : x < 4294967296) (ha : 0 < a ∧ a < 32) (hb : 0 < b ∧ b < 32) (hc : 0 < c ∧ c < 32) :
    Calls Try.prog 32 #[.int .u32 x, .int .i64 a, .int .i64 b, .int .i64 c, .bool f] w fun e w' => e = .returned (.int .u32 (threeM x a b c f)) ∧ w = w' := by
  have h1 := rotr_lt hx (show a ≤ 32 by omega)
  have h2 := rotr_lt hx (show b ≤ 32 by omega)
  have h3 := rotr_lt hx (show c ≤ 32 by omega)
  have h4 : x / 2 ^ c < 4294967296 := Nat.lt_of_le_of_lt (Nat.div_le_self _ _) hx
  have x1 := (bits_u32 _ _ h1 h2).2.2
  have x2 := (bits_u32 _ _ (xor_lt32 h1 h2) h3).2.2
  have x3 := (bits_u32 _ _ (xor_lt32 h1 h2) h4).2.2
  rw [← x1] at x2 x3
  rw [show ((x / 2 ^ c : Nat) : Int) = (x : Int) / 2 ^ c by rw [Int.natCast_ediv, Int.natCast_pow]; rfl] at x3
  have X2 := Lib.hid x2
  have X3 := Lib.hid x3
  clear x1 x2 x3
  cases f
  all_goals
    go_enter Try.func32, Try.ntmps32
    go_wp2_with fail
    refine (Rot _ x c hx hc.1 hc.2).mono ?_
    rintro e w1 ⟨rfl, rfl⟩
    go_wp2_with fail
    refine (Rot _ x a hx ha.1 ha.2).mono ?_
    rintro e w1 ⟨rfl, rfl⟩
    go_wp2_with fail
    refine (Rot _ x b hx hb.1 hb.2).mono ?_
    rintro e w1 ⟨rfl, rfl⟩
    go_wp2
    go_ret
  · exact ⟨by show Ending.returned (.int .u32 (bits .xor .u32 (bits .xor .u32 _ _) _)) = _; rw [X2.out]; rfl, rfl⟩
  · exact ⟨by show Ending.returned (.int .u32 (bits .xor .u32 (bits .xor .u32 _ _) _)) = _; rw [X3.out]; rfl, rfl⟩

theorem be4_cells (n : Nat) (hn : n < 4294967296) : bv (be 4 n) = [.int .u8 ((n : Int) / 16777216), .int .u8 ((n : Int) / 65536 % 256), .int .u8 ((n : Int) / 256 % 256), .int .u8 ((n : Int) % 256)] := by
  have e : ∀ m : Nat, ((UInt8.ofNat m).toNat : Int) = (m : Int) % 256 := fun m => by rw [UInt8.toNat_ofNat']; omega
  simp only [be, bv, List.map_cons, List.map_nil, e]
  have h3 : ((n / 256 ^ 3 : Nat) : Int) % 256 = (n : Int) / 16777216 := by omega
  have h2 : ((n / 256 ^ 2 : Nat) : Int) % 256 = (n : Int) / 65536 % 256 := by omega
  have h1 : ((n / 256 ^ 1 : Nat) : Int) % 256 = (n : Int) / 256 % 256 := by omega
  have h0 : ((n / 256 ^ 0 : Nat) : Int) % 256 = (n : Int) % 256 := by omega
  rw [h3, h2, h1, h0]
set_option maxHeartbeats 400000 in
theorem Four (n : Nat) (hn : n < 4294967296) : Calls Try.prog 27 #[.int .u32 n] w fun e w' => e = .returned (.slice (some ⟨w.heap.size, 0, none⟩) 4 4) ∧ w' = w.alloc (.cells (bv (be 4 n)).toArray 5) := by
  go_enter Try.func27, Try.ntmps27
  go_wp2
  go_ret
  exact ⟨rfl, by rw [be4_cells n hn]⟩

theorem be_or32 (n : Nat) (b : UInt8) (hn : n < 16777216) : bits .or .u32 ((n : Int) * 256) (b.toNat : Int) = ((n * 256 + b.toNat : Nat) : Int) := by
  have h := b.toNat_lt
  have := Nat.shiftLeft_add_eq_or_of_lt (i := 8) (b := b.toNat) h n
  rw [Nat.shiftLeft_eq] at this
  rw [show (n : Int) * 256 = ((n * 256 : Nat) : Int) from (Int.natCast_mul n 256).symm, (bits_u32 _ _ (by omega) (by omega)).2.1, ← this]
set_option maxHeartbeats 400000 in
theorem Word (ad : Addr) (l c : Nat) (bs : List UInt8) (hb : bs.length = 4) (hl : 4 ≤ l) (hlc : l ≤ c) (hc : c ≤ maxLen) (hcells : Cells w ad (bv bs)) :
    Calls Try.prog 28 #[.slice (some ad) l c] w fun e w' => e = .returned (.int .u32 (beNum bs)) ∧ w = w' := by
  unfold maxLen at hc
  go_enter Try.func28, Try.ntmps28
  go_wp2
  go_loopw [3, 9] (fun m i wr => wr = w ∧ ∃ k : Nat, k ≤ 4 ∧ i = .int .i64 k ∧ m = .int .u32 ((beNum (bs.take k) : Nat) : Int)) (fun _ i _ => 4 - (intOf i).toNat)
  case atStart => exact ⟨rfl, 0, by omega, rfl, rfl⟩
  case round =>
    obtain ⟨rfl, k, hk, rfl, rfl⟩ := hrel
    by_cases hlt : k < 4
    · have hcx := hcells k (.int .u8 (bs[k].toNat : Int)) (by rw [bv, List.getElem?_map, List.getElem?_eq_getElem (by omega)]; rfl)
      have hst := beNum_step bs k (by omega)
      have hbd := beNum_lt (bs.take k)
      have hlow : beNum (bs.take k) < 256 ^ 3 := Nat.lt_of_lt_of_le hbd (Nat.pow_le_pow_right (by omega) (by simp; omega))
      have hor := be_or32 (beNum (bs.take k)) bs[k] (by omega)
      rw [← hst] at hor
      have hb1 := bs[k].toNat_lt
      have HST := Lib.hid hst
      have HOR := Lib.hid hor
      clear hbd hst hor
      go_wp2
      go_roundw
      case rel => exact ⟨trivial, k + 1, by omega, by go_num, by rw [HOR.out]⟩
      case measure => simp [intOf]; omega
    · obtain rfl : k = 4 := by omega
      have e : bs.take 4 = bs := by rw [← hb, List.take_length]
      rw [e]
      clear e
      go_wp2
      go_ret
      exact ⟨rfl, rfl⟩

theorem stir_info : (Try.prog.info? 74).map (·.size) = some 64 := by kernel_rfl
/-- Words as cells. -/
def nv (ns : List Nat) : List Value := ns.map fun (n : Nat) => Value.int .u32 (n : Int)
@[simp] theorem nv_length (ns : List Nat) : (nv ns).length = ns.length := by simp [nv]
theorem stir_zero : (Try.prog.info? 74).bind (fun i => i.zero.map (·.cells)) = some (nv (List.replicate 64 0)).toArray := by kernel_rfl
theorem nv_one (ns : List Nat) : ∀ u ∈ nv ns, u.oneCell' = true := by
  intro u hu
  obtain ⟨n, _, rfl⟩ := List.mem_map.1 hu
  rfl
set_option maxRecDepth 10000 in
theorem Stirs : Calls Try.prog 31 #[] w fun e w' => e = .returned (.agg (nv stirK).toArray) ∧ Ext w w' := by
  have hz := stir_zero
  have hl : (nv stirK).length = 64 := by rw [nv_length]; rfl
  have hi : (Try.prog.info? 74).map (·.size) = some (nv stirK).length := by rw [hl]; kernel_rfl
  have hlz : (nv stirK).length = (nv (List.replicate 64 0)).length := by rw [hl, nv_length, List.length_replicate]
  have hone := nv_one stirK
  generalize nv (List.replicate 64 0) = Z at hz hlz
  go_enter Try.func31, Try.ntmps31
  go_wp2_with (first
    | (refine wpList_alloc _ rfl 74 rfl _ hz ?_)
    | (refine wpList_build (.inl rfl) 74 _ rfl (.agg (nv stirK).toArray) (by kernel_rfl) ?_)
    | (refine wpList_store_new _ rfl 74 (.tmp 0) (.tmp 1) rfl rfl Z (nv stirK) _ rfl hi hlz hone ?_)
    | fail)
  have hc : Cells (w.alloc (.cells (nv stirK).toArray 74)) ⟨w.heap.size, 0, none⟩ (nv stirK) := by have := Cells.of_block (heap_alloc_new w (.cells (nv stirK).toArray 74)); simpa using this
  (try simp only [Exit.inBlock, Exit.then])
  refine bodyPost_ret (results_agg rfl _ _ _ _ _ rfl Try.underlying74 rfl hi hc) rfl ?_
  exact ⟨rfl, (Ext.refl w).alloc _⟩
set_option maxHeartbeats 1000000 in
theorem New : Calls Try.prog 13 #[] w fun e w' => e = .returned (.pointer (some ⟨w.heap.size, 0, none⟩)) ∧ w' = w.alloc (.cells (nv firstK ++ bv (List.replicate 64 0) ++ [Value.int .u64 0]).toArray 65) := by
  go_enter Try.func13, Try.ntmps13
  go_wp2_with (first
    | (refine wpList_build (.inl rfl) 62 _ rfl (.agg (nv firstK).toArray) (by kernel_rfl) ?_)
    | (refine wpList_build (.inl rfl) 65 _ rfl (.agg (nv firstK ++ bv (List.replicate 64 0) ++ [Value.int .u64 0]).toArray) (by kernel_rfl) ?_)
    | fail)
  go_ret
  exact ⟨rfl, rfl⟩
end
end Go.Proofs.Ytklljkfnlakdaaa

/- Walks and plain laws, put together in build order. Conditions: what each of them names. -/
import Derived.Laws.Tables
import Derived.Laws.Cover3
import Derived.Test.YtfoomnibfibfnaaWea30948def
set_option linter.unusedVariables false
set_option linter.unusedSimpArgs false
set_option linter.unnecessarySimpa false
namespace Go.Proofs.Ytfoomnibfibfnaa
section
open Go.RowKit

theorem sha_length (b : List UInt8) : (sha b).length = 32 := by
  have h := (blocks_ok (padded b) ((padded b).length / 64)).1
  show ((blocks (padded b) ((padded b).length / 64)).flatMap (be 4)).length = 32
  rw [be_flat, h]
theorem mill_new {w : World} {G : Nat} (hG : w.heap.size = G) : MillAt (w.alloc (.cells (nv firstK ++ bv (List.replicate 64 0) ++ [Value.int .u64 0]).toArray 109)) G [] := by
  subst hG
  exact ⟨List.replicate 64 0, by simp, by simp, Blk.new _ _ _⟩
/-- The new block that holds a result. -/
theorem new_store {w : World} {t : TypeId} {Z : List Value} {w' : World} (hx : Ext (w.alloc (.cells Z.toArray t)) w') : w'.heap[w.heap.size]? = some (.cells Z.toArray t (0, 0)) :=
  (hx.block _ (by simp) (by simp)).trans (heap_alloc_new w _)

/-- What is summed for a domain of parts. -/
def textM (d : UInt8) (ps : List (List UInt8)) : List UInt8 := d :: UInt8.ofNat ps.length :: ps.flatMap blob
theorem parts_new {w : World} {G n : Nat} {vs : List Value} {ps : List (List UInt8)} {F : Fp} {T : TypeId} (hG : w.heap.size = G) (hn : ps.length = n) (hm : n ≤ maxLen) (h : AllH ((Ty.sl .u8).holds w F) vs ps) (hF : ∀ b, F b → b < w.heap.size) :
    (Ty.sl (.sl .u8)).holds (w.alloc (.cells vs.toArray T)) (fun b => F b ∨ b = G) [.slice (some ⟨G, 0, none⟩) n n] ps :=
  sl_made (t := .sl .u8) hG (.inr rfl) hn hm (AllH.mono (fun c a _ h => Ty.keep (t := .sl .u8) (fun b hb => Below.heap_alloc _ _ b (hF b hb)) (fun _ h => .inl h) h) h)
theorem bytes_new {w : World} {G n : Nat} {bs : List UInt8} {T : TypeId} {fr : Nat × Nat} (hG : w.heap.size = G) (hn : bs.length = n) (hm : n ≤ maxLen) : (Ty.sl .u8).holds (w.alloc (.cells (bv bs).toArray T fr)) (fun b => b = G) [.slice (some ⟨G, 0, none⟩) n n] bs :=
  sl_made (t := .u8) hG rfl hn hm (AllH.bytes.2 rfl)
theorem allH_two {α : Type} {R : List Value → α → Prop} {v1 v2 : Value} {a b : α} (h1 : R [v1] a) (h2 : R [v2] b) : AllH R [v1, v2] [a, b] := ⟨[v1], [v2], rfl, h1, [v2], [], rfl, h2, rfl⟩

set_option maxHeartbeats 1000000 in
theorem For (d : UInt8) (v : Value) (ps : List (List UInt8)) (w : World) (F : Fp) (hp : (Ty.sl (.sl .u8)).holds w F [v] ps) (hF : ∀ b, F b → b < w.heap.size) (hb : (ps.flatMap blob).length < 288230376151711744) :
    Calls Try.prog 42 #[.int .u8 d.toNat, v] w fun e w' => e = .returned (.agg (bv (sha (textM d ps))).toArray) ∧ Ext w w' := by
  have hz := digest_zero
  have hzl : (bv (List.replicate 32 0)).length = 32 := by simp
  generalize bv (List.replicate 32 0) = Z at hz hzl
  have HZL := Lib.hid hzl
  clear hzl
  have hp0 := hp
  obtain ⟨A, c, xs, hv, hlc, hc, hA, hcell, hall⟩ := hp
  cases hv
  unfold maxLen at hc
  obtain ⟨lb, hlb⟩ : ∃ lb : UInt8, lb = UInt8.ofNat ps.length := ⟨_, rfl⟩
  have hlb1 : (ps.length : Int) % 256 = (lb.toNat : Int) := by rw [hlb, UInt8.toNat_ofNat']; omega
  have HLB := Lib.hid hlb
  clear hlb
  go_enter Try.func42, Try.ntmps42
  go_wp2_with (first
    | (refine wpList_alloc _ rfl 31 rfl _ hz ?_)
    | fail)
  refine (New _).mono ?_
  rintro e w1 ⟨rfl, rfl⟩
  have hx1 : Ext w ((w.alloc (.cells Z.toArray 31)).alloc (.cells (nv firstK ++ bv (List.replicate 64 0) ++ [Value.int .u64 0]).toArray 109)) := ((Ext.refl w).alloc _).alloc _
  have hm1 := mill_new (w := w.alloc (.cells Z.toArray 31)) (G := w.heap.size + 1) (by simp)
  have hr1 := new_store ((Ext.refl (w.alloc (.cells Z.toArray 31))).alloc (.cells (nv firstK ++ bv (List.replicate 64 0) ++ [Value.int .u64 0]).toArray 109))
  generalize ((w.alloc (.cells Z.toArray 31)).alloc (.cells (nv firstK ++ bv (List.replicate 64 0) ++ [Value.int .u64 0]).toArray 109)) = w2 at hx1 hm1 hr1 ⊢
  go_wp2_with fail
  refine (Write (w.heap.size + 1) _ [] [[d, lb]] _ (fun b => b = w2.heap.size ∨ b = w2.heap.size + 1) ((MillAt.keep (row := none) (by simpa using hm1) (((Ext.refl w2).alloc _).alloc _) (by simp)))
    (parts_new (w := w2.alloc (.cells (bv [d, lb]).toArray 5)) (by simp) rfl (by simp [maxLen]) (AllH.one (R := (Ty.sl .u8).holds _ _) (bytes_new (bs := [d, lb]) rfl rfl (by simp [maxLen]))) (by rintro b rfl; simp)) (by have := hm1.lt; rintro b (rfl | rfl) <;> exact ⟨by simp <;> omega, by omega⟩) (by simp)).mono ?_
  rintro e w3 ⟨rfl, hm3, hg3⟩
  have hx3 : Ext w w3 := grown_then ((hx1.alloc _).alloc _) hg3 (.inr (by rintro _ ⟨⟩; omega))
  have hr3 : Blk w3 w.heap.size 31 Z := (Blk.keep (w := w2) hr1 (((Ext.refl w2).alloc _).alloc _) (by simp)).keep hg3 (by simp)
  have hm3 : MillAt w3 (w.heap.size + 1) [d, lb] := hm3
  clear hx1 hm1 hr1 hg3
  go_wp2
  go_loopw [19] (fun i wr => ∃ k : Nat, k ≤ ps.length ∧ i = .int .i64 k ∧ Ext w wr ∧ MillAt wr (w.heap.size + 1) ([d, lb] ++ (ps.take k).flatMap blob) ∧ Blk wr w.heap.size 31 Z) (fun i _ => ps.length - (intOf i).toNat)
  case atStart => exact ⟨0, by omega, rfl, hx3, by simpa using hm3, hr3⟩
  case round =>
    clear hx3 hm3 hr3
    obtain ⟨k, hk, rfl, hx, hm, hr⟩ := hrel
    by_cases hlt : k < ps.length
    · obtain ⟨ad, rfl, hf, hcells⟩ := hcell (by rintro rfl; simp at hlt)
      obtain ⟨y, hy, hyh⟩ := AllH.sl_at hall hlt
      have hcx := (hcells.keep (hx.same hF _ hf)) k _ hy
      have hyr := hx.holds hF hyh
      obtain ⟨A1, c1, xs1, hv1, hlc1, hc1, _⟩ := hyh
      cases hv1
      unfold maxLen at hc1
      have hbd := flat_len_step blob ps k hlt
      have hbl : (blob ps[k]).length = 4 + ps[k].length := by simp [blob, be_length]
      have hstep := flat_step blob ps k hlt
      have HY := Lib.hid hyr
      have HM := Lib.hid hm
      have HBL := Lib.hid hbl
      have HST := Lib.hid hstep
      rw [hbl] at hbd
      clear hyr hm hbl hstep hy
      generalize hpk : ps[k] = p at *
      clear hpk
      go_wp2_with fail
      refine (Four_i _ (p.length % 4294967296) _ (by omega) (by omega)).mono ?_
      rintro e w4 ⟨rfl, rfl⟩
      rw [be_mod4]
      go_wp2_with fail
      refine (Write (w.heap.size + 1) _ _ [be 4 p.length, p] _ (fun b => (F b ∨ b = wr.heap.size) ∨ b = wr.heap.size + 1) (HM.out.keep (((Ext.refl wr).alloc _).alloc _) (by simp))
        (parts_new (w := wr.alloc (.cells (bv (be 4 p.length)).toArray 5)) (vs := [_, _]) (by simp) rfl (by simp [maxLen])
          (allH_two (R := (Ty.sl .u8).holds _ _) (Ty.keep (t := .sl .u8) (fun _ _ => rfl) (fun _ h => .inr h) (bytes_new (bs := be 4 p.length) rfl (be_length _ _) (by simp [maxLen]))) (Ty.keep (t := .sl .u8) (fun b hb => Below.heap_alloc _ _ b (Nat.lt_of_lt_of_le (hF b hb) hx.size)) (fun _ h => .inl h) HY.out))
          (by rintro b (hb | rfl)
              · have := hF b hb; have := hx.size; simp; omega
              · simp))
        (by have := HM.out.lt
            have := hx.size
            rintro b ((hb | rfl) | rfl)
            · have := hF b hb; exact ⟨by simp; omega, by omega⟩
            · exact ⟨by simp; omega, by omega⟩
            · exact ⟨by simp, by omega⟩)
        (by simp only [List.length_append, List.length_cons, List.length_nil, List.flatMap_cons, List.flatMap_nil, id, be_length]; omega)).mono ?_
      rintro e w5 ⟨rfl, hm5, hg5⟩
      have hx5 : Ext w w5 := grown_then ((hx.alloc _).alloc _) hg5 (.inr (by rintro _ ⟨⟩; omega))
      have hr5 : Blk w5 w.heap.size 31 Z := (Blk.keep (w := wr) hr (((Ext.refl wr).alloc _).alloc _) (by simp)).keep hg5 (by simp)
      have e5 : [be 4 p.length, p].flatMap id = blob p := by simp [blob]
      rw [e5, List.append_assoc, ← HST.out] at hm5
      have HM5 := Lib.hid hm5
      clear hm5 e5
      go_wp2
      go_roundw
      case rel => exact ⟨k + 1, by omega, by go_num, hx5, HM5.out, hr5⟩
      case measure => simp [intOf]; omega
    · obtain rfl : k = ps.length := by omega
      rw [List.take_length] at hm
      have htx : [d, lb] ++ ps.flatMap blob = textM d ps := by rw [HLB.out]; rfl
      rw [htx] at hm
      have htl : (textM d ps).length = 2 + (ps.flatMap blob).length := by simp [textM]; omega
      go_wp2_with fail
      refine (Sum (w.heap.size + 1) (textM d ps) wr hm (by omega)).mono ?_
      rintro e w4 ⟨rfl, hx4⟩
      have hr4 : w4.heap[w.heap.size]? = some (.cells Z.toArray 31 (0, 0)) := hr.keep hx4 (by simp)
      have hsl : (bv (sha (textM d ps))).length = 32 := by rw [bv_length, sha_length]
      have hso := bv_one (sha (textM d ps))
      generalize hR : bv (sha (textM d ps)) = R at hsl hso ⊢
      have HR := Lib.hid hR
      have HSL := Lib.hid hsl
      clear hR hsl htx htl
      go_wp2_with (first
        | (refine wpList_store_row _ rfl 31 (.tmp 4) (.tmp 33) rfl w.heap.size rfl Z R _ rfl hr4 (digest_size HSL.out) (by rw [HSL.out, HZL.out]) hso ?_)
        | fail)
      have hc : Cells (w4.setRow w.heap.size R.toArray) ⟨w.heap.size, 0, none⟩ R := Blk.cells (t := 31) (setRow_at hr4)
      (try simp only [Exit.inBlock, Exit.then])
      refine bodyPost_ret (results_agg rfl _ _ _ _ _ rfl Try.underlying31 rfl (digest_size HSL.out) hc) rfl ?_
      exact ⟨by rw [HR.out], setRow_grown (hx.trans hx4) _ _ (Nat.le_refl _)⟩
theorem For_i (d : UInt8) (x : Int) (hx : x = (d.toNat : Int)) (v : Value) (ps : List (List UInt8)) (w : World) (F : Fp) (hp : (Ty.sl (.sl .u8)).holds w F [v] ps) (hF : ∀ b, F b → b < w.heap.size) (hb : (ps.flatMap blob).length < 288230376151711744) :
    Calls Try.prog 42 #[.int .u8 x, v] w fun e w' => e = .returned (.agg (bv (sha (textM d ps))).toArray) ∧ Ext w w' := by
  subst hx; exact For d v ps w F hp hF hb
end
section

def byteN (n : Nat) : UInt8 := UInt8.ofNat n
/-- A secret, for a place and a value. -/
def secretM (seed : List UInt8) (n k b : Nat) : List UInt8 := (sha (textM 1 [seed, be 4 n, [byteN k, byteN b]])).take 16
/-- What a piece is known by. -/
def coverM (p : List UInt8) : List UInt8 := (sha (textM 5 [p])).take 16
def leafOf (all : List UInt8) : List UInt8 := sha (textM 2 [all])
def rowM (seed : List UInt8) (n k : Nat) : List UInt8 := coverM (secretM seed n k 0) ++ coverM (secretM seed n k 1)
def allM (seed : List UInt8) (n : Nat) : List UInt8 := (List.range 32).flatMap (rowM seed n)
def leafM (seed : List UInt8) (n : Nat) : List UInt8 := leafOf (allM seed n)
/-- One of a digest's first bits. -/
def bitM (d : List UInt8) (k : Nat) : Nat := (d.getD (k / 8) 0).toNat / 2 ^ (7 - k % 8) % 2
theorem bitM_lt (d : List UInt8) (k : Nat) : bitM d k < 2 := Nat.mod_lt _ (by decide)
theorem secretM_length (seed : List UInt8) (n k b : Nat) : (secretM seed n k b).length = 16 := by unfold secretM; rw [List.length_take, sha_length]; rfl
theorem coverM_length (p : List UInt8) : (coverM p).length = 16 := by unfold coverM; rw [List.length_take, sha_length]; rfl
theorem leafOf_length (a : List UInt8) : (leafOf a).length = 32 := sha_length _
theorem rowM_length (seed : List UInt8) (n k : Nat) : (rowM seed n k).length = 32 := by unfold rowM; rw [List.length_append, coverM_length, coverM_length]
/-- What a signature's piece k, with its other one, comes to for the leaf. -/
def rowFrom (b : Nat) (op ot : List UInt8) : List UInt8 := if b = 0 then coverM op ++ ot else ot ++ coverM op
/-- The open pieces, the other ones. -/
def openM (seed : List UInt8) (n : Nat) (d : List UInt8) (k : Nat) : List UInt8 := secretM seed n k (bitM d k)
def otherM (seed : List UInt8) (n : Nat) (d : List UInt8) (k : Nat) : List UInt8 := coverM (secretM seed n k (1 - bitM d k))
theorem row_back (seed : List UInt8) (n : Nat) (d : List UInt8) (k : Nat) : rowFrom (bitM d k) (openM seed n d k) (otherM seed n d k) = rowM seed n k := by
  have h := bitM_lt d k
  unfold rowFrom openM otherM rowM
  rcases Nat.eq_zero_or_pos (bitM d k) with h0 | h0
  · rw [if_pos h0, h0]
  · have h1 : bitM d k = 1 := by omega
    rw [if_neg (by omega), h1]
/-- A signature's piece k. -/
def pieceAt (s : List UInt8) (k : Nat) : List UInt8 := (s.drop (16 * k)).take 16
theorem pieceAt_length {s : List UInt8} {k : Nat} (h : 16 * k + 16 ≤ s.length) : (pieceAt s k).length = 16 := by unfold pieceAt; rw [List.length_take, List.length_drop]; omega
/-- What a key would be known by that signed a digest so: op, the open pieces, ot, the other ones. -/
def allFrom (op ot d : List UInt8) : List UInt8 := (List.range 32).flatMap fun k => rowFrom (bitM d k) (pieceAt op k) (pieceAt ot k)
def fromM (op ot d : List UInt8) : List UInt8 := leafOf (allFrom op ot d)
/-- Pieces, one behind the other. -/
def piecesM (f : Nat → List UInt8) (n : Nat) : List UInt8 := (List.range n).flatMap f
theorem piecesM_succ (f : Nat → List UInt8) (n : Nat) : piecesM f (n + 1) = piecesM f n ++ f n := by simp [piecesM, List.range_succ]
theorem piecesM_length {f : Nat → List UInt8} {m : Nat} (h : ∀ k, (f k).length = m) : ∀ n, (piecesM f n).length = m * n
  | 0 => by simp [piecesM]
  | n + 1 => by rw [piecesM_succ, List.length_append, piecesM_length h n, h, Nat.mul_succ]
theorem piecesM_split (f : Nat → List UInt8) {m : Nat} : ∀ {n : Nat}, m ≤ n → ∃ r, piecesM f n = piecesM f m ++ r
  | 0, h => by obtain rfl : m = 0 := by omega
               exact ⟨[], by simp⟩
  | n + 1, h => by
    by_cases e : m = n + 1
    · subst e; exact ⟨[], by simp⟩
    · obtain ⟨r, hr⟩ := piecesM_split f (show m ≤ n by omega)
      exact ⟨r ++ f n, by rw [piecesM_succ, hr, List.append_assoc]⟩
theorem pieceAt_pieces {f : Nat → List UInt8} (h : ∀ k, (f k).length = 16) {k n : Nat} (hk : k < n) : pieceAt (piecesM f n) k = f k := by
  obtain ⟨r, hr⟩ := piecesM_split f (show k + 1 ≤ n by omega)
  rw [hr, piecesM_succ, List.append_assoc, pieceAt, List.drop_left' (piecesM_length h k), List.take_left' (h k)]
/-- A signature leads to its key's leaf. -/
theorem from_back (seed : List UInt8) (n : Nat) (d : List UInt8) : fromM (piecesM (openM seed n d) 32) (piecesM (otherM seed n d) 32) d = leafM seed n := by
  unfold fromM leafM allFrom allM
  congr 1
  have h : ∀ l : List Nat, (∀ k ∈ l, k < 32) → l.flatMap (fun k => rowFrom (bitM d k) (pieceAt (piecesM (openM seed n d) 32) k) (pieceAt (piecesM (otherM seed n d) 32) k)) = l.flatMap (rowM seed n) := by
    intro l
    induction l with
    | nil => intro _; rfl
    | cons k l ih =>
      intro hl
      rw [List.flatMap_cons, List.flatMap_cons, ih (fun x hx => hl x (List.mem_cons_of_mem _ hx)), pieceAt_pieces (f := openM seed n d) (fun k => secretM_length _ _ _ _) (hl k (by simp)), pieceAt_pieces (f := otherM seed n d) (fun k => coverM_length _) (hl k (by simp)), row_back]
  exact h _ (fun k hk => by simpa using hk)
end
section
open Go.RowKit

theorem seg_fold : ∀ (cs : List Value) (off k : Nat) (xs : List Value), off + k + cs.length ≤ xs.length →
    (cs.zipIdx k).foldl (fun (a : Array Value) (p : Value × Nat) => a.setIfInBounds (off + p.2) p.1) xs.toArray = (xs.take (off + k) ++ cs ++ xs.drop (off + k + cs.length)).toArray
  | [], off, k, xs, _ => by simp
  | c :: cs, off, k, xs, h => by
    simp only [List.length_cons] at h
    rw [List.zipIdx_cons, List.foldl_cons, List.setIfInBounds_toArray, seg_fold cs off (k + 1) _ (by simp; omega)]
    congr 1
    rw [List.length_cons, show off + (k + 1) + cs.length = off + k + (cs.length + 1) by omega, List.drop_set_of_lt (by omega), show off + (k + 1) = off + k + 1 by omega,
      List.take_add_one, List.take_set_of_le (by omega), List.getElem?_set_self (by omega)]
    simp
/-- What a build yields, over lists. -/
def fillL (place : Nat → Option (Nat × Nat)) (cells : List Value) : List (Nat × List Value) → Option (List Value)
  | [] => some cells
  | (i, v) :: rest =>
    match place i with
    | none => none
    | some (off, size) => if v.length ≠ size ∨ off + v.length > cells.length then none else fillL place (cells.take off ++ v ++ cells.drop (off + v.length)) rest
theorem fill_segs (place : Nat → Option (Nat × Nat)) : ∀ (parts : List (Nat × Value)) (segs : List (Nat × List Value)) (cells : List Value) (r : List Value), parts.map (fun p => (p.1, p.2.cells)) = segs.map (fun p => (p.1, p.2.toArray)) →
    fillL place cells segs = some r → Instr.fill place cells.toArray parts = some r.toArray
  | [], [], cells, r, _, h => by simp [fillL] at h; subst h; rfl
  | [], _ :: _, _, _, h, _ => by simp at h
  | _ :: _, [], _, _, h, _ => by simp at h
  | (i, v) :: parts, (i', u) :: segs, cells, r, h, hf => by
    simp only [List.map_cons, List.cons.injEq, Prod.mk.injEq] at h
    obtain ⟨⟨rfl, hv⟩, h⟩ := h
    unfold fillL at hf
    unfold Instr.fill
    cases hp : place i with
    | none => rw [hp] at hf; cases hf
    | some p =>
      obtain ⟨off, size⟩ := p
      rw [hp] at hf
      simp only at hf ⊢
      split at hf
      · cases hf
      · rename_i hc
        have h1 : u.length = size := by omega
        have h2 : off + u.length ≤ cells.length := by omega
        rw [hv, if_neg (by simp [h1]; omega)]
        have := seg_fold u off 0 cells (by omega)
        simp only [Nat.add_zero] at this
        have hz : u.toArray.zipIdx.foldl (fun (a : Array Value) (p : Value × Nat) => a.setIfInBounds (off + p.2) p.1) cells.toArray = (cells.take off ++ u ++ cells.drop (off + u.length)).toArray := by
          rw [← this]; simp
        have hz2 : (u.toArray.zipIdx.foldl (fun cs (c, j) => cs.setIfInBounds (off + j) c) cells.toArray) = (cells.take off ++ u ++ cells.drop (off + u.length)).toArray := hz
        rw [hz2]
        exact fill_segs place parts segs _ r h hf
theorem run_build_st {P : Program} (w : World) (t : TypeId) (parts : Array (Nat × Value)) (fields : Array Field) (z r : List Value) (places : List (Nat × Nat)) (segs : List (Nat × List Value)) (hu : P.underlying t = some (.struct fields))
    (hz : (P.info? t).bind (fun i => i.zero.map (·.cells)) = some z.toArray) (hp : fields.toList.mapM (fun f => (P.info? f.type).map fun i => (f.offset, i.size)) = some places)
    (hs : parts.toList.map (fun p => (p.1, p.2.cells)) = segs.map (fun p => (p.1, p.2.toArray))) (hf : fillL (places.toArray[·]?) z segs = some r) : (Instr.build t parts).run P w = .ok (.agg r.toArray) w := by
  obtain ⟨i, hi, hzz⟩ := Option.bind_eq_some_iff.1 hz
  obtain ⟨zv, hzv, hzc⟩ := Option.map_eq_some_iff.1 hzz
  refine run_build w t parts _ ?_
  unfold Program.built
  simp only [hi, hu, hzv, hp, hzc]
  exact fill_segs _ _ _ _ _ hs hf
theorem exec_build_st {P : Program} {o : Oper} {a : Act} (w : World) (t : TypeId) (parts : Array (Nat × Operand)) (ho : o.op = .build t parts) (fields : Array Field) (z r : List Value) (places : List (Nat × Nat)) (segs : List (Nat × List Value)) (hu : P.underlying t = some (.struct fields))
    (hz : (P.info? t).bind (fun i => i.zero.map (·.cells)) = some z.toArray) (hp : fields.toList.mapM (fun f => (P.info? f.type).map fun i => (f.offset, i.size)) = some places)
    (hs : (parts.map fun p => (p.1, a.eval p.2)).toList.map (fun p => (p.1, p.2.cells)) = segs.map (fun p => (p.1, p.2.toArray))) (hf : fillL (places.toArray[·]?) z segs = some r) : (execOp a.eval o).run P w = .ok (.value (.agg r.toArray)) w := by
  unfold execOp
  simp only [ho]
  rw [Sem.run_bind, run_build_st w t _ fields z r places segs hu hz hp hs hf]
  simp
/-- A struct built from parts, some of them lists of cells. -/
theorem wpList_build_st {P : Program} {w : World} {ops : Array Oper} {rest : List Oper} {o : Oper} {a : Act} {Q : Exit → Act → World → Prop} (hgd : o.guard = none ∨ Region.wanted o (yielded ops a.tmps) = true) (t : TypeId) (parts : Array (Nat × Operand)) (ho : o.op = .build t parts) (fields : Array Field) (z r : List Value) (places : List (Nat × Nat)) (segs : List (Nat × List Value)) (hu : P.underlying t = some (.struct fields))
    (hz : (P.info? t).bind (fun i => i.zero.map (·.cells)) = some z.toArray) (hp : fields.toList.mapM (fun f => (P.info? f.type).map fun i => (f.offset, i.size)) = some places)
    (hs : (parts.map fun p => (p.1, a.eval p.2)).toList.map (fun p => (p.1, p.2.cells)) = segs.map (fun p => (p.1, p.2.toArray))) (hf : fillL (places.toArray[·]?) z segs = some r)
    (h : wpList P ops Q rest (a.put o.dst (.agg r.toArray)) w) : wpList P ops Q (o :: rest) a w :=
  wpList_build hgd t parts ho _ (exec_build_st w t parts ho fields z r places segs hu hz hp hs hf) h
theorem quiet_build_st {P : Program} {C : World → Prop} {o : Oper} {a : Act} {K : Act → Prop} (t : TypeId) (parts : Array (Nat × Operand)) (ho : o.op = .build t parts) (fields : Array Field) (z r : List Value) (places : List (Nat × Nat)) (segs : List (Nat × List Value)) (hu : P.underlying t = some (.struct fields))
    (hz : (P.info? t).bind (fun i => i.zero.map (·.cells)) = some z.toArray) (hp : fields.toList.mapM (fun f => (P.info? f.type).map fun i => (f.offset, i.size)) = some places)
    (hs : (parts.map fun p => (p.1, a.eval p.2)).toList.map (fun p => (p.1, p.2.cells)) = segs.map (fun p => (p.1, p.2.toArray))) (hf : fillL (places.toArray[·]?) z segs = some r)
    (h : K (a.put o.dst (.agg r.toArray))) : o.quiet P a C K :=
  quiet_run _ (fun w _ => exec_build_st w t parts ho fields z r places segs hu hz hp hs hf) h
end
section
open Go.RowKit

theorem blk_new_at {w : World} {g : Nat} (h : w.heap.size = g) (t : TypeId) (cs : List Value) : Blk (w.alloc (.cells cs.toArray t)) g t cs := h ▸ Blk.new w t cs
theorem piece_zero : (Try.prog.info? 40).bind (fun i => i.zero.map (·.cells)) = some (bv (List.replicate 16 0)).toArray := by kernel_rfl
theorem piece_size {n : Nat} (h : n = 16) : (Try.prog.info? 40).map (·.size) = some n := by subst h; kernel_rfl
theorem at_any {P : Program} (arr e : TypeId) (n : Nat) (a : Option Addr) (len cap : Nat) (h : P.underlying arr = some (.array n e)) (hn : n ≤ len) : ∀ w, (Instr.arrayAt arr (.slice a len cap)).run P w = .ok (.pointer a) w :=
  fun w => run_arrayAt w arr e n a len cap h hn
set_option maxRecDepth 100000 in
set_option maxHeartbeats 800000 in
theorem Cover (p : List UInt8) (hp : p.length = 16) (w : World) :
    Calls Try.prog 30 #[.agg (bv p).toArray] w fun e w' => e = .returned (.agg (bv (coverM p)).toArray) ∧ Ext w w' := by
  have hz := piece_zero
  have hzd := digest_zero
  have hzl : (bv (List.replicate 16 0)).length = 16 := by simp
  have hdl : (bv (List.replicate 32 0)).length = 32 := by simp
  have hbl := bytes_new (w := w) (bs := p) (T := 40) (fr := (0, 0)) rfl hp (by simp [maxLen])
  generalize bv (List.replicate 16 0) = Z at hz hzl
  generalize bv (List.replicate 32 0) = D at hzd hdl
  have HZL := Lib.hid hzl
  have HDL := Lib.hid hdl
  have HBL := Lib.hid hbl
  clear hzl hbl hdl
  generalize hB : bv p = B at HBL ⊢
  have HB := Lib.hid hB
  clear hB
  go_enter Try.func30, Try.ntmps30
  go_wp2_with (first
    | (refine wpList_alloc _ rfl 40 rfl _ hz ?_)
    | fail)
  have hv : (Ty.sl (.sl .u8)).holds (((w.alloc (.cells B.toArray 40)).alloc (.cells Z.toArray 40)).alloc (.cells #[Value.slice (some ⟨w.heap.size, 0, none⟩) 16 16] 55)) (fun b => b = w.heap.size ∨ b = w.heap.size + 1 + 1) [.slice (some ⟨w.heap.size + 1 + 1, 0, none⟩) 1 1] [p] :=
    parts_new (w := (w.alloc (.cells B.toArray 40)).alloc (.cells Z.toArray 40)) (by simp) rfl (by simp [maxLen]) (AllH.one (R := (Ty.sl .u8).holds _ _) (Ty.keep (t := .sl .u8) (by rintro b rfl; exact Below.heap_alloc _ _ _ (by simp)) (fun _ h => h) HBL.out)) (by rintro b rfl; simp; omega)
  refine (For_i 5 5 rfl _ [p] _ _ hv (by rintro b (rfl | rfl) <;> simp <;> omega) (by simp [blob, be_length, hp])).mono ?_
  rintro e w4 ⟨rfl, hx4⟩
  have hx5 : Ext w w4 := ((((Ext.refl w).alloc _).alloc _).alloc _).trans hx4
  have hb1 : Blk w4 (w.heap.size + 1) 40 Z := (blk_new_at (w := w.alloc (.cells B.toArray 40)) (by simp) 40 Z).keep (((Ext.refl _).alloc _).trans hx4) (by simp)
  have hsl : (bv (sha (textM 5 [p]))).length = 32 := by rw [bv_length, sha_length]
  have hso := bv_one (sha (textM 5 [p]))
  have hcl : (bv (coverM p)).length = 16 := by rw [bv_length, coverM_length]
  have hco := bv_one (coverM p)
  have htk : (bv (sha (textM 5 [p]))).take 16 = bv (coverM p) := by simp [coverM, bv, List.map_take]
  generalize hR : bv (sha (textM 5 [p])) = R at hsl hso htk ⊢
  generalize hC : bv (coverM p) = C at hcl hco htk ⊢
  have hr5 : Blk (w4.alloc (.cells R.toArray 31)) w4.heap.size 31 R := Blk.new _ _ _
  have hc5 : Cells (w4.alloc (.cells R.toArray 31)) ⟨w4.heap.size, 0, none⟩ C := by rw [← htk]; exact hr5.cells.take 16
  have hb5 : Blk (w4.alloc (.cells R.toArray 31)) (w.heap.size + 1) 40 Z := hb1.keep ((Ext.refl w4).alloc _) (by simp)
  have hat := at_any (P := Try.prog) 40 5 16 (some ⟨w4.heap.size, 0, none⟩) 16 32 Try.underlying40 (Nat.le_refl 16)
  have HSL := Lib.hid hsl
  have HCL := Lib.hid hcl
  have HC := Lib.hid hC
  have HX5 := Lib.hid (hx5.alloc (.cells R.toArray 31))
  have HB5 := Lib.hid hb5
  clear hsl hv hx5 hb1 hcl hR hC htk hr5 hb5
  go_wp2_with (first
    | (refine wpList_alloc _ rfl 31 rfl _ hzd ?_)
    | (refine wpList_store_new _ rfl 31 (.tmp 3) (.tmp 6) rfl rfl D R _ rfl (digest_size HSL.out) (by rw [HSL.out, HDL.out]) hso ?_)
    | (refine wpList_load_agg _ rfl 40 (.tmp 8) rfl _ rfl C _ Try.underlying40 rfl (piece_size HCL.out) hc5 ?_)
    | (refine wpList_store_row _ rfl 40 (.tmp 2) (.tmp 9) rfl (w.heap.size + 1) rfl Z C _ rfl HB5.out (piece_size HCL.out) (by rw [HCL.out, HZL.out]) hco ?_)
    | fail)
  have hc : Cells ((w4.alloc (.cells R.toArray 31)).setRow (w.heap.size + 1) C.toArray) ⟨w.heap.size + 1, 0, none⟩ C := Blk.cells (t := 40) (setRow_at HB5.out)
  (try simp only [Exit.inBlock, Exit.then])
  refine bodyPost_ret (results_agg rfl _ _ _ _ _ rfl Try.underlying40 rfl (piece_size HCL.out) hc) rfl ?_
  exact ⟨by rw [HC.out], setRow_grown HX5.out _ _ (by omega)⟩
/-- A key's cells. -/
def keyC (seed : List UInt8) (n : Nat) : List Value := bv seed ++ [.int .u32 (n : Int)]
theorem keyC_len {seed : List UInt8} (h : seed.length = 32) (n : Nat) : (keyC seed n).length = 33 := by simp [keyC, h]
theorem keyC_one (seed : List UInt8) (n : Nat) : ∀ u ∈ keyC seed n, u.oneCell' = true := by
  intro u hu
  rcases List.mem_append.1 hu with h | h
  · exact bv_one seed u h
  · obtain rfl : u = .int .u32 (n : Int) := by simpa using h
    rfl
theorem key_size {n : Nat} (h : n = 33) : (Try.prog.info? 28).map (·.size) = some n := by subst h; kernel_rfl
theorem key_zero : (Try.prog.info? 28).bind (fun i => i.zero.map (·.cells)) = some (keyC (List.replicate 32 0) 0).toArray := by kernel_rfl
theorem bits_one : ∀ n : Fin 256, bits .and .u8 (n.val : Int) 1 = ((n.val % 2 : Nat) : Int) := by decide +kernel
theorem bit_one (x j : Nat) (h : x < 256) : bits .and .u8 ((x : Int) / 2 ^ j) 1 = ((x / 2 ^ j % 2 : Nat) : Int) := by
  have e : (x : Int) / 2 ^ j = ((x / 2 ^ j : Nat) : Int) := by rw [Int.natCast_ediv, Int.natCast_pow]; rfl
  rw [e]
  exact bits_one ⟨x / 2 ^ j, Nat.lt_of_le_of_lt (Nat.div_le_self _ _) h⟩
set_option maxHeartbeats 400000 in
theorem Bit (d : List UInt8) (hd : d.length = 32) (k : Nat) (hk : k < 32) (w : World) :
    Calls Try.prog 36 #[.agg (bv d).toArray, .int .i64 (k : Int)] w fun e w' => e = .returned (.int .u8 ((bitM d k : Nat) : Int)) ∧ Ext w w' := by
  have hb0 : Blk (w.alloc (.cells (bv d).toArray 31)) w.heap.size 31 (bv d) := Blk.new _ _ _
  have hx0 : Ext w (w.alloc (.cells (bv d).toArray 31)) := (Ext.refl w).alloc _
  have hq : k / 8 < d.length := by omega
  have hc : (w.alloc (.cells (bv d).toArray 31)).cell? ⟨w.heap.size, k / 8, none⟩ = some (.int .u8 ((d.getD (k / 8) 0).toNat : Int)) := (hb0.cell (k / 8)).trans (by simp [bv, List.getD, hq])
  have hbm : bitM d k = (d.getD (k / 8) 0).toNat / 2 ^ (7 - k % 8) % 2 := rfl
  generalize bitM d k = R at *
  have hX : (d.getD (k / 8) 0).toNat < 256 := UInt8.toNat_lt _
  generalize (d.getD (k / 8) 0).toNat = X at *
  have HXL := Lib.hid hX
  generalize bv d = B at *
  have HX := Lib.hid hx0
  have HR := Lib.hid hbm
  clear hb0 hx0 hq hbm hX
  go_enter Try.func36, Try.ntmps36
  go_wp2_with fail
  go_ret
  refine ⟨?_, HX.out⟩
  rw [HR.out]
  simp only [List.getD_eq_getElem?_getD, Array.getD_eq_getD_getElem?, List.size_toArray]
  have := bit_one X (7 - k % 8) HXL.out
  simpa using this
set_option maxRecDepth 100000 in
set_option maxHeartbeats 400000 in
theorem NewKey (seed : List UInt8) (hs : seed.length = 32) (n : Nat) (w : World) :
    Calls Try.prog 9 #[.agg (bv seed).toArray, .int .u32 (n : Int)] w fun e w' => e = .returned (.agg (keyC seed n).toArray) ∧ Ext w w' := by
  have hz := key_zero
  have hzl := keyC_len (seed := List.replicate 32 0) (by simp) 0
  have hkl := keyC_len hs n
  have hko := keyC_one seed n
  have hsl : (bv seed).length = 32 := by simp [hs]
  have hb0 : Blk (w.alloc (.cells (bv seed).toArray 22)) w.heap.size 22 (bv seed) := Blk.new _ _ _
  generalize keyC (List.replicate 32 0) 0 = Z at hz hzl
  have hcs : Cells ((w.alloc (.cells (bv seed).toArray 22)).alloc (.cells Z.toArray 28)) ⟨w.heap.size, 0, none⟩ (bv seed) := (hb0.keep ((Ext.refl _).alloc _) (by simp)).cells
  have hb1 : Blk ((w.alloc (.cells (bv seed).toArray 22)).alloc (.cells Z.toArray 28)) (w.heap.size + 1) 28 Z := blk_new_at (by simp) _ _
  have hx : Ext w ((w.alloc (.cells (bv seed).toArray 22)).alloc (.cells Z.toArray 28)) := ((Ext.refl w).alloc _).alloc _
  obtain ⟨fields, hfu, hfp⟩ : ∃ fields, Try.prog.underlying 28 = some (.struct fields) ∧ fields.toList.mapM (fun f => (Try.prog.info? f.type).map fun i => (f.offset, i.size)) = some [(0, 32), (32, 1)] := ⟨_, Try.underlying28, by kernel_rfl⟩
  have hfl : fillL ([(0, 32), (32, 1)].toArray[·]?) Z [(0, bv seed), (1, [.int .u32 (n : Int)])] = some (keyC seed n) := by
    simp [fillL, keyC, hs, hzl]
  generalize hK : keyC seed n = K at *
  generalize hB : bv seed = B at *
  have HKL := Lib.hid hkl
  have HSL := Lib.hid hsl
  have HZL := Lib.hid hzl
  have HB1 := Lib.hid hb1
  have HX := Lib.hid hx
  have HK := Lib.hid hK
  have HFL := Lib.hid hfl
  clear hkl hsl hzl hb0 hb1 hx hK hfl
  go_enter Try.func9, Try.ntmps9
  go_wp2_with (first
    | (refine wpList_alloc _ rfl 28 rfl _ hz ?_)
    | (refine wpList_load_agg _ rfl 22 (.tmp 2) rfl _ rfl B _ Try.underlying22 rfl (by rw [HSL.out]; kernel_rfl) hcs ?_)
    | (refine wpList_build_st (.inl rfl) 28 #[(0, .tmp 5), (1, .tmp 6)] rfl fields Z K _ _ hfu hz hfp (by simp [Value.cells, Act.eval]) HFL.out ?_)
    | (refine wpList_store_row _ rfl 28 (.tmp 4) (.tmp 7) rfl (w.heap.size + 1) rfl Z K _ rfl HB1.out (key_size HKL.out) (by rw [HKL.out, HZL.out]) hko ?_)
    | fail)
  have hc : Cells (((w.alloc (.cells B.toArray 22)).alloc (.cells Z.toArray 28)).setRow (w.heap.size + 1) K.toArray) ⟨w.heap.size + 1, 0, none⟩ K := Blk.cells (t := 28) (setRow_at HB1.out)
  (try simp only [Exit.inBlock, Exit.then])
  refine bodyPost_ret (results_agg rfl _ _ _ _ _ rfl Try.underlying28 rfl (key_size HKL.out) hc) rfl ?_
  exact ⟨rfl, setRow_grown HX.out _ _ (by omega)⟩
end
section
open Go.RowKit
set_option maxRecDepth 100000 in
set_option maxHeartbeats 400000 in
theorem Out_num (v : Value) (bs : List UInt8) (n size : Nat) (w : World) (ho : OwnB w v bs) (_hn : n < 18446744073709551616) (hs : size ≤ 8) (hb : bs.length + size ≤ 140737488355328) :
    Calls Try.prog 55 #[v, .int .u64 n, .int .i64 size] w fun e w' => ∃ v', e = .returned v' ∧ OwnB w' v' (bs ++ be size n) ∧ Moved w w' v v' := by
  obtain ⟨i0, hi, hz0, hz1, hz2⟩ := info_parts u8_info
  go_enter Try.func55, Try.ntmps55
  go_wp2
  go_loopw [0, 7] (fun vr i wr => ∃ j : Nat, j ≤ size ∧ i = .int .i64 ((j : Int) - 1) ∧ OwnB wr vr (bs ++ beTop size j n) ∧ Moved w wr v vr) (fun _ i _ => (intOf i + 1).toNat)
  case atStart => exact ⟨size, by omega, rfl, by simpa [beTop] using ho, Moved.refl _ _⟩
  case round =>
    obtain ⟨j, hj, rfl, hor, hmr⟩ := hrel
    have hl := beTop_length size j n
    have hll : (bs ++ beTop size j n).length + j ≤ bs.length + size := by simp; omega
    by_cases hlt : 0 < j
    · go_wp2_with (at_builtin; refine wpList_app1 wr rfl (.tmp 14) (.tmp 20) _ _ rfl _ _ 5 i0 _ 1 1 Try.underlying56 Try.underlying56 hi hz0 hz1 hz2 rfl (by decide) _ _ _ [.int .u8 ((n : Int) / 2 ^ (8 * (j - 1)) % 256)] rfl hor rfl rfl (by simp [Value.oneCell']) (by unfold maxLen; omega) (by omega) ?_; intro v' w1 ho1 hm1)
      go_roundw
      case rel =>
        refine ⟨j - 1, by omega, by rw [show ((j - 1 : Nat) : Int) = (j : Int) - 1 by omega], ?_, hmr.trans hm1⟩
        rw [beTop_step size j n hlt hj, ← List.append_assoc]
        exact OwnB.snoc ho1 (be_byte n j)
      case measure => simp [intOf]; omega
    · obtain rfl : j = 0 := by omega
      go_wp2
      go_ret
      exact ⟨_, rfl, by simpa [beTop, List.take_of_length_le, be_length] using hor, hmr⟩
set_option maxRecDepth 100000 in
set_option maxHeartbeats 400000 in
theorem Out_Four (v vl : Value) (bs : List UInt8) (l : List Nat) (w : World) (F : Fp) (ho : OwnB w v bs) (hl : (Ty.sl (.nat .u32)).holds w F [vl] l) (hF : Far F w v) (hb : bs.length + 4 * l.length ≤ 140737488355328) :
    Calls Try.prog 43 #[v, vl] w fun e w' => ∃ v', e = .returned v' ∧ OwnB w' v' (bs ++ l.flatMap (be 4)) ∧ Moved w w' v v' := by
  obtain ⟨A, c, xs, hv, hlc, hc, _, hcell, hall⟩ := hl
  cases hv
  unfold maxLen at hc
  go_enter Try.func43, Try.ntmps43
  go_wp2
  go_loopw [0, 9] (fun vr i wr => ∃ k : Nat, k ≤ l.length ∧ i = .int .i64 k ∧ OwnB wr vr (bs ++ (l.take k).flatMap (be 4)) ∧ Moved w wr v vr) (fun _ i _ => l.length - (intOf i).toNat)
  case atStart => exact ⟨0, by omega, rfl, by simpa using ho, Moved.refl _ _⟩
  case round =>
    obtain ⟨k, hk, rfl, hor, hmr⟩ := hrel
    have hll : (bs ++ (l.take k).flatMap (be 4)).length = bs.length + 4 * k := by rw [List.length_append, be_flat]; simp; omega
    by_cases hlt : k < l.length
    · obtain ⟨ad, rfl, hf, hcells⟩ := hcell (by rintro rfl; simp at hlt)
      obtain ⟨hx, hwf⟩ := AllH.nat_at hall hlt
      have hcx := (hcells.keep (hmr.same hF _ hf)) k _ hx
      have hbd := bounds_u32 hwf
      clear hwf hx
      go_wp2_with fail
      refine (Out_num _ _ _ 4 _ hor (by omega) (by omega) (by omega)).mono ?_
      rintro e w1 ⟨v1, rfl, ho1, hm1⟩
      go_wp2
      go_roundw
      case rel => exact ⟨k + 1, by omega, by go_num, by rw [flat_step _ _ _ hlt, ← List.append_assoc]; exact ho1, hmr.trans hm1⟩
      case measure => simp [intOf]; omega
    · obtain rfl : k = l.length := by omega
      go_wp2
      go_ret
      exact ⟨_, rfl, by simpa using hor, hmr⟩
theorem zero32 : (Try.prog.info? 31).bind (fun i => i.zero.map (·.cells)) = some (bv (List.replicate 32 0)).toArray := by kernel_rfl
end
section
open Go.RowKit

section
variable {P : Program}
/-- .. appended to an empty slice: a new array. -/
theorem wpList_app1_empty {w : World} {ops : Array Oper} {rest : List Oper} {o : Oper} {a : Act} {Q : Exit → Act → World → Prop} (hgd : o.guard = none) (s x : Operand) (t t' : TypeId)
    (ho : o.op = .call { callee := .builtin .append, args := #[s, x], argTypes := #[t, t'] })
    (e e' e2 : TypeId) (i : TypeInfo) (z : Value) (size bytes : Nat) (ht : P.underlying t = some (.slice e)) (ht' : P.underlying t' = some (.slice e')) (hi : P.info? e = some i) (hz : i.zero = some z)
    (hsize : i.size = size) (hby : i.bytes = bytes) (hzs : z.cells.size = size) (hsz : 0 < size)
    (b : Addr) (cs : List Value) (hs : a.eval s = .slice (some b) 0 0) (hown : Own w e size (.slice (some b) 0 0) 0 [])
    (hx : a.eval x = .slice (some ⟨w.heap.size, 0, none⟩) 1 1) (hcs : cs.length = size) (h1 : ∀ u ∈ cs, u.oneCell' = true) (hbytes : bytes ≤ 1024)
    (h : ∀ v' w', Own w' e size v' 1 cs → Ext w w' → (∀ g, v'.ownBlock = some g → w.heap.size ≤ g) → wpList P ops Q rest (a.put o.dst v') w') : wpList P ops Q (o :: rest) a (w.alloc (.cells cs.toArray e2)) := by
  have hx0 : Ext w (w.alloc (.cells cs.toArray e2)) := (Ext.refl w).alloc _
  have hown' := hown.ext hx0
  have hc : Cells (w.alloc (.cells cs.toArray e2)) ⟨w.heap.size, 0, none⟩ cs := by have := Cells.of_block (heap_alloc_new w (.cells cs.toArray e2)); simpa using this
  have hbb : bytes * 1 ≤ 1024 := by omega
  obtain ⟨v', w', hr, h2, h3⟩ := run_app (P := P) (w.alloc (.cells cs.toArray e2)) t t' o.type e e' i z size bytes ht ht' hi hz hsize hby hzs hsz _ 0 [] hown' (some ⟨w.heap.size, 0, none⟩) 1 1 cs (by omega) (fun _ => ⟨_, rfl, hc⟩) h1 (by decide) (by omega)
  have hg := run_append_grow (P := P) (w := w.alloc (.cells cs.toArray e2)) t o.type e i z ht hi hz b 0 0 [] (by simp) (by intro j v hj; simp at hj) ⟨w.heap.size, 0, none⟩ 1 1 cs (by rw [hsize]; omega) (fun j v hj => hc j v hj) (by omega) (by omega)
    (by rw [hby, show Builtin.nextslicecap (0 + 1) 0 = 1 from by decide]; omega)
  rw [← append_types (w.alloc (.cells cs.toArray e2)) ht ht'] at hg
  rw [hr] at hg
  have hq := hg
  simp only [Result.ok.injEq] at hq
  obtain ⟨hv, hw⟩ := hq
  refine wpList_plain hgd fun K hK => ?_
  unfold Oper.wp execOp
  simp only [ho, resolve, invoke, builtin, Sem.run_bind, Sem.run_pure, Result.andThen_ok, List.map_toArray, List.map_cons, List.map_nil, hs, hx, hr]
  refine hK _ _ (h v' w' (by simpa using h2) ?_ ?_)
  · rw [hw]; exact (hx0.trans (Ext.refl _).drew).alloc _
  · intro g hgb
    rw [hv] at hgb
    simp [Value.ownBlock] at hgb
    omega
end
set_option maxRecDepth 100000 in
set_option maxHeartbeats 400000 in
theorem num0 (b : Addr) (n size : Nat) (w : World) (ho : OwnB w (.slice (some b) 0 0) []) (_hn : n < 18446744073709551616) (hs : size ≤ 8) (hs0 : 0 < size) :
    Calls Try.prog 55 #[.slice (some b) 0 0, .int .u64 n, .int .i64 size] w fun e w' => ∃ v', e = .returned v' ∧ OwnB w' v' (be size n) ∧ Ext w w' ∧ ∀ g, v'.ownBlock = some g → w.heap.size ≤ g := by
  obtain ⟨i0, hi, hz0, hz1, hz2⟩ := info_parts u8_info
  have HO := Lib.hid ho
  clear ho
  go_enter Try.func55, Try.ntmps55
  go_wp2
  go_loopw [0, 7] (fun vr i wr => ∃ j : Nat, j ≤ size ∧ i = .int .i64 ((j : Int) - 1) ∧ Ext w wr ∧ ((j = size ∧ vr = .slice (some b) 0 0) ∨ (j < size ∧ OwnB wr vr (beTop size j n) ∧ ∀ g, vr.ownBlock = some g → w.heap.size ≤ g))) (fun _ i _ => (intOf i + 1).toNat)
  case atStart => exact ⟨size, by omega, rfl, Ext.refl _, .inl ⟨rfl, rfl⟩⟩
  case round =>
    obtain ⟨j, hj, rfl, hxr, hst⟩ := hrel
    rcases hst with ⟨rfl, rfl⟩ | ⟨hjs, hor, hnr⟩
    · have hor := HO.out.ext hxr
      go_wp2_with (at_builtin; refine wpList_app1_empty rfl (.tmp 14) (.tmp 20) _ _ rfl _ _ 5 i0 _ 1 1 Try.underlying56 Try.underlying56 hi hz0 hz1 hz2 rfl (by decide) b [.int .u8 ((n : Int) / 2 ^ (8 * (j - 1)) % 256)] rfl hor rfl rfl (by simp [Value.oneCell']) (by decide) ?_; intro v' w1 ho1 hx1 hn1)
      go_roundw
      case rel =>
        refine ⟨j - 1, by omega, by rw [show ((j - 1 : Nat) : Int) = (j : Int) - 1 by omega], hxr.trans hx1, .inr ⟨by omega, ?_, fun g hg => Nat.le_trans hxr.size (hn1 g hg)⟩⟩
        rw [beTop_step j j n hs0 (Nat.le_refl j)]
        have e : beTop j j n = [] := by simp [beTop]
        rw [e]
        exact OwnB.snoc ho1 (be_byte n j)
      case measure => simp [intOf]; omega
    · have hl := beTop_length size j n
      by_cases hlt : 0 < j
      · go_wp2_with (at_builtin; refine wpList_app1 wr rfl (.tmp 14) (.tmp 20) _ _ rfl _ _ 5 i0 _ 1 1 Try.underlying56 Try.underlying56 hi hz0 hz1 hz2 rfl (by decide) _ _ _ [.int .u8 ((n : Int) / 2 ^ (8 * (j - 1)) % 256)] rfl hor rfl rfl (by simp [Value.oneCell']) (by unfold maxLen; omega) (by omega) ?_; intro v' w1 ho1 hm1)
        go_roundw
        case rel =>
          refine ⟨j - 1, by omega, by rw [show ((j - 1 : Nat) : Int) = (j : Int) - 1 by omega], grown_then hxr hm1.grown (.inr hnr), .inr ⟨by omega, ?_, fun g hg => ?_⟩⟩
          · rw [beTop_step size j n hlt hj]
            exact OwnB.snoc ho1 (be_byte n j)
          · rcases hm1.at_ with e | hn
            · exact hnr g (e.symm.trans hg)
            · exact Nat.le_trans hxr.size (hn g hg)
        case measure => simp [intOf]; omega
      · obtain rfl : j = 0 := by omega
        go_wp2
        go_ret
        exact ⟨_, rfl, by simpa [beTop, List.take_of_length_le, be_length] using hor, hxr, hnr⟩
set_option maxRecDepth 100000 in
set_option maxHeartbeats 400000 in
theorem four0 (b : Addr) (vl : Value) (n : Nat) (w : World) (F : Fp) (ho : OwnB w (.slice (some b) 0 0) []) (hl : (Ty.sl (.nat .u32)).holds w F [vl] [n]) (hF : ∀ b, F b → b < w.heap.size) :
    Calls Try.prog 43 #[.slice (some b) 0 0, vl] w fun e w' => ∃ v', e = .returned v' ∧ OwnB w' v' (be 4 n) ∧ Ext w w' ∧ ∀ g, v'.ownBlock = some g → w.heap.size ≤ g := by
  obtain ⟨A, c, xs, hv, hlc, hc, _, hcell, hall⟩ := hl
  cases hv
  unfold maxLen at hc
  obtain ⟨ad, rfl, hf, hcells⟩ := hcell (by simp)
  obtain ⟨hx, hwf⟩ := AllH.nat_at hall (show 0 < [n].length by simp)
  have hcx := hcells 0 _ hx
  have hbd := bounds_u32 hwf
  have hfl := hF _ hf
  have HO := Lib.hid ho
  clear hwf hx hall hcells hcell ho
  simp only [List.getElem_cons_zero] at hcx hbd
  replace hcx : w.cell? ad = some (.int .u32 (n : Int)) := hcx
  go_enter Try.func43, Try.ntmps43
  go_wp2
  go_loopw [0, 9] (fun vr i wr => Ext w wr ∧ ((i = .int .i64 0 ∧ vr = .slice (some b) 0 0) ∨ (i = .int .i64 1 ∧ OwnB wr vr (be 4 n) ∧ ∀ g, vr.ownBlock = some g → w.heap.size ≤ g))) (fun _ i _ => 1 - (intOf i).toNat)
  case atStart => exact ⟨Ext.refl _, .inl ⟨rfl, rfl⟩⟩
  case round =>
    obtain ⟨hxr, hst⟩ := hrel
    rcases hst with ⟨rfl, rfl⟩ | ⟨rfl, hor, hnr⟩
    · have hor := HO.out.ext hxr
      have hcr := World.grownBy.cell hxr hcx (by simp)
      go_wp2_with fail
      refine (num0 b n 4 _ hor (by omega) (by omega) (by omega)).mono ?_
      rintro e w1 ⟨v1, rfl, ho1, hx1, hn1⟩
      go_wp2
      go_roundw
      case rel => exact ⟨hxr.trans hx1, .inr ⟨rfl, ho1, fun g hg => Nat.le_trans hxr.size (hn1 g hg)⟩⟩
      case measure => simp [intOf]
    · go_wp2
      go_ret
      exact ⟨_, rfl, hor, hxr, hnr⟩
end
section
open Go.RowKit

theorem count_lt {p q : Nat → Bool} {i : Nat} (hpi : p i = true) (hqi : q i = false) (hle : ∀ j, q j = true → p j = true) : ∀ {l : List Nat}, i ∈ l → (l.filter q).length < (l.filter p).length
  | [], h => by cases h
  | a :: l, h => by
    have mono : ∀ l : List Nat, (l.filter q).length ≤ (l.filter p).length := by
      intro l
      induction l with
      | nil => simp
      | cons b l ih =>
        by_cases hb : q b = true
        · simp [List.filter_cons, hb, hle b hb, ih]
        · have hb' : q b = false := by simpa using hb
          by_cases hp : p b = true
          · simp [List.filter_cons, hb', hp]; omega
          · simp [List.filter_cons, hb', hp, ih]
    rcases List.mem_cons.1 h with rfl | h'
    · have := mono l
      simp [List.filter_cons, hpi, hqi]; omega
    · have ih := count_lt hpi hqi hle h'
      by_cases hb : q a = true
      · simp [List.filter_cons, hb, hle a hb, ih]
      · have hb' : q a = false := by simpa using hb
        by_cases hp : p a = true
        · simp [List.filter_cons, hb', hp]; omega
        · simp [List.filter_cons, hb', hp, ih]
/-- A value more. -/
def upd (s : Nat → Value) (i : Nat) (v : Value) : Nat → Value := fun k => if k = i then v else s k
theorem upd_self (s : Nat → Value) (i : Nat) (v : Value) : upd s i v i = v := if_pos rfl
theorem upd_ne (s : Nat → Value) {i k : Nat} (v : Value) (h : k ≠ i) : upd s i v k = s k := if_neg h
/-- What is asked of the region's text. -/
def stabB (md : Region.Mode) (ops : Array Oper) (rem : List Nat) (D : Nat → List Nat) : Bool :=
  rem.all fun i => decide (i < ops.size) && (D i).contains i &&
    match ops[i]? with
    | none => false
    | some o => (D i).all (fun k => rem.contains k && (k == i || o.after.any fun e => Region.binds md e && rem.contains e.on && (D e.on).contains k)) && o.after.all fun e => !(Region.binds md e) || decide (e.on < i)
structure Stab (R : World → World → Prop) (P : Program) (md : Region.Mode) (ops : Array Oper) (Q : Exit → Act → World → Prop) (w0 : World) (rem : List Nat) (L : Nat) (mk : (Nat → Value) → Act) (D : Nat → List Nat) (Post : Nat → (Nat → Value) → World → Prop) : Prop where
  text : stabB md ops rem D = true
  put : ∀ i ∈ rem, ∀ o, ops[i]? = some o → ∀ s v, (mk s).put o.dst v = mk (upd s i v)
  st : ∀ i s w w', Post i s w → R w w' → Post i s w'
  loc : ∀ i ∈ rem, ∀ s s' w, (∀ k ∈ D i, s k = s' k) → Post i s w → Post i s' w
  op : ∀ i ∈ rem, i ≠ L → ∀ o, ops[i]? = some o → ∀ s w, R w0 w → (∀ k ∈ D i, k ≠ i → Post k s w) → ∀ K : Act → World → Prop, (∀ v w', R w w' → Post i (upd s i v) w' → K ((mk s).put o.dst v) w') →
    if Region.wanted o (yielded ops (mk s).tmps) = true then o.wp P (mk s) w K Q else K ((mk s).put o.dst undef) w
  last : L ∈ rem → (∀ k ∈ rem, k ∈ D L) ∧ ∀ o, ops[L]? = some o → ∀ s w, R w0 w → (∀ k ∈ rem, k ≠ L → Post k s w) → ∀ K : Act → World → Prop, (∀ a' w', Q .normal a' w' → K a' w') →
    if Region.wanted o (yielded ops (mk s).tmps) = true then o.wp P (mk s) w K Q else K ((mk s).put o.dst undef) w
  fin : L ∉ rem → ∀ s w, R w0 w → (∀ k ∈ rem, Post k s w) → Q .normal (mk s) w
section
variable {R : World → World → Prop} {P : Program} {md : Region.Mode} {ops : Array Oper} {Q : Exit → Act → World → Prop} {w0 : World} {rem : List Nat} {L : Nat} {mk : (Nat → Value) → Act} {D : Nat → List Nat} {Post : Nat → (Nat → Value) → World → Prop}
theorem stabB_spec (h : stabB md ops rem D = true) {i : Nat} (hi : i ∈ rem) : i < ops.size ∧ i ∈ D i ∧ ∀ o, ops[i]? = some o → (∀ k ∈ D i, k ∈ rem ∧ (k = i ∨ ∃ e ∈ o.after, Region.binds md e = true ∧ e.on ∈ rem ∧ k ∈ D e.on)) ∧ ∀ e ∈ o.after, Region.binds md e = true → e.on < i := by
  have h1 := (List.all_eq_true.1 h) i hi
  simp only [Bool.and_eq_true, decide_eq_true_eq] at h1
  obtain ⟨⟨h2, h3⟩, h4⟩ := h1
  refine ⟨h2, by simpa using h3, fun o ho => ?_⟩
  rw [ho] at h4
  simp only [Bool.and_eq_true] at h4
  obtain ⟨h5, h6⟩ := h4
  refine ⟨fun k hk => ?_, fun e he hb => ?_⟩
  · have h7 := (List.all_eq_true.1 h5) k hk
    simp only [Bool.and_eq_true, Bool.or_eq_true] at h7
    obtain ⟨h8, h9⟩ := h7
    refine ⟨by simpa using h8, ?_⟩
    rcases h9 with h9 | h9
    · exact .inl (by simpa using h9)
    · obtain ⟨j, hj, h10⟩ := Array.any_eq_true.1 h9
      simp only [Bool.and_eq_true] at h10
      exact .inr ⟨_, Array.getElem_mem _, h10.1.1, by simpa using h10.1.2, by simpa using h10.2⟩
  · obtain ⟨j, hj, rfl⟩ := Array.getElem_of_mem he
    have h7 := (Array.all_eq_true.1 h6) j hj
    rw [hb] at h7
    simpa using h7
theorem stab_all {fuel : Nat} {listed : Array Bool} {a : Act} {w : World} (h : ∀ i, i < ops.size → listed.getD i true = true) (hq : Q .normal a w) : wpAny P md ops Q fuel listed a w := by
  have hr : Region.ready md ops listed = [] := by
    refine List.eq_nil_iff_forall_not_mem.2 fun j hj => ?_
    obtain ⟨h1, o, h2, _⟩ := Go.mem_ready.1 hj
    have := h j (Array.getElem?_eq_some_iff.1 h2).1
    rw [h1] at this; cases this
  cases fuel with
  | zero => exact ⟨hr, hq⟩
  | succ n => exact ⟨fun _ => hq, by rw [hr]; simp⟩
theorem set_listed {listed : Array Bool} {i j : Nat} (h : listed.getD j true = true) : (listed.setIfInBounds i true).getD j true = true := by
  by_cases e : i = j
  · subst e
    rcases Nat.lt_or_ge i listed.size with h' | h'
    · simp [h']
    · simp [h']
  · rw [getD_set_ne true e]; exact h
theorem set_listed_self {listed : Array Bool} {i : Nat} : (listed.setIfInBounds i true).getD i true = true := by
  rcases Nat.lt_or_ge i listed.size with h' | h'
  · simp [h']
  · simp [h']
theorem getD_both {listed : Array Bool} {j : Nat} (h : listed.getD j false = true) : listed.getD j true = true := by
  rcases Nat.lt_or_ge j listed.size with h' | h'
  · simp [h'] at h ⊢; exact h
  · simp [h'] at h
theorem getD_both' {listed : Array Bool} {j : Nat} (hj : j < listed.size) (h : listed.getD j true = true) : listed.getD j false = true := by
  simp [hj] at h ⊢; exact h
theorem Stab.run (htr : ∀ a b c, R a b → R b c → R a c) (h : Stab R P md ops Q w0 rem L mk D Post) : ∀ (fuel : Nat) (listed : Array Bool) (s : Nat → Value) (w : World), R w0 w → listed.size = ops.size → (∀ i, i < ops.size → listed.getD i true = false → i ∈ rem) →
    (∀ i ∈ rem, listed.getD i true = true → i ≠ L ∧ Post i s w ∧ ∀ k ∈ D i, listed.getD k true = true) → (rem.filter (fun i => !(listed.getD i true))).length ≤ fuel → wpAny P md ops Q fuel listed (mk s) w := by
  intro fuel
  induction fuel with
  | zero =>
    intro listed s w hx hsz hrem hinv hct
    have hall : ∀ i ∈ rem, listed.getD i true = true := by
      intro i hi
      have := List.eq_nil_of_length_eq_zero (Nat.le_zero.1 hct)
      have := (List.filter_eq_nil_iff.1 this) i hi
      simpa using this
    refine stab_all (fun i hi => ?_) (h.fin (fun hL => (hinv L hL (hall L hL)).1 rfl) s w hx fun k hk => (hinv k hk (hall k hk)).2.1)
    cases hb : listed.getD i true with
    | true => rfl
    | false => rw [← hb]; exact hall i (hrem i hi hb)
  | succ fuel ih =>
    intro listed s w hx hsz hrem hinv hct
    refine ⟨fun hr => ?_, fun i hi => ?_⟩
    · have hno : ∀ n i, i < n → i < ops.size → listed.getD i true = true := by
        intro n
        induction n with
        | zero => intro i hi; omega
        | succ n ihn =>
          intro i hi hio
          cases hb : listed.getD i true with
          | true => rfl
          | false =>
            exfalso
            have him := hrem i hio hb
            obtain ⟨_, _, h3⟩ := stabB_spec h.text him
            obtain ⟨o, ho⟩ : ∃ o, ops[i]? = some o := ⟨_, Array.getElem?_eq_getElem hio⟩
            have hin : i ∈ Region.ready md ops listed := Go.mem_ready.2 ⟨hb, o, ho, fun e he hbd => getD_both' (by have := (h3 o ho).2 e he hbd; omega) (ihn _ (by have := (h3 o ho).2 e he hbd; omega) (by have := (h3 o ho).2 e he hbd; omega))⟩
            rw [hr] at hin; cases hin
      have hall : ∀ i ∈ rem, listed.getD i true = true := fun i hi => hno (i + 1) i (Nat.lt_succ_self i) (stabB_spec h.text hi).1
      exact h.fin (fun hL => (hinv L hL (hall L hL)).1 rfl) s w hx fun k hk => (hinv k hk (hall k hk)).2.1
    · obtain ⟨hun, o, ho, hall⟩ := Go.mem_ready.1 hi
      have hio : i < ops.size := (Array.getElem?_eq_some_iff.1 ho).1
      have him := hrem i hio hun
      obtain ⟨_, hself, h3⟩ := stabB_spec h.text him
      have hdep : ∀ k ∈ D i, k ≠ i → k ∈ rem ∧ listed.getD k true = true := by
        intro k hk hne
        obtain ⟨hkr, hk2⟩ := (h3 o ho).1 k hk
        rcases hk2 with rfl | ⟨e, he, hb, her, hke⟩
        · exact absurd rfl hne
        · exact ⟨hkr, (hinv e.on her (getD_both (hall e he hb))).2.2 k hke⟩
      refine wpOp_step ho fun K' hK => ?_
      by_cases hL : i = L
      · subst hL
        obtain ⟨hcov, hlast⟩ := h.last him
        refine hlast o ho s w hx (fun k hk hne => (hinv k hk (hdep k (hcov k hk) hne).2).2.1) K' fun a' w' hq => hK _ _ (stab_all (fun j hj => ?_) hq)
        by_cases e : i = j
        · subst e; exact set_listed_self
        · rw [getD_set_ne true e]
          cases hb : listed.getD j true with
          | true => rfl
          | false => rw [← hb]; exact (hdep j (hcov j (hrem j hj hb)) (Ne.symm e)).2
      · refine h.op i him hL o ho s w hx (fun k hk hne => (hinv k (hdep k hk hne).1 (hdep k hk hne).2).2.1) K' fun v w' hx' hp => hK _ _ ?_
        rw [h.put i him o ho s v]
        refine ih _ _ w' (htr _ _ _ hx hx') (by simpa using hsz) (fun j hj hb => ?_) (fun j hj hb => ?_) ?_
        · refine hrem j hj ?_
          cases hb2 : listed.getD j true with
          | false => rfl
          | true => rw [set_listed hb2] at hb; cases hb
        · by_cases e : i = j
          · subst e
            refine ⟨hL, hp, fun k hk => ?_⟩
            by_cases e2 : k = i
            · subst e2; exact set_listed_self
            · exact set_listed (hdep k hk e2).2
          · rw [getD_set_ne true e] at hb
            obtain ⟨g1, g2, g3⟩ := hinv j hj hb
            refine ⟨g1, h.loc j hj s _ w' (fun k hk => ?_) (h.st j s w w' g2 hx'), fun k hk => set_listed (g3 k hk)⟩
            rw [upd_ne]
            rintro rfl
            have := g3 k hk
            rw [hun] at this; cases this
        · have := count_lt (p := fun i => !(listed.getD i true)) (q := fun j => !((listed.setIfInBounds i true).getD j true)) (i := i) (by simp only [hun, Bool.not_false]) (by simp only [set_listed_self, Bool.not_true])
            (fun j hj => by
              cases hb2 : listed.getD j true with
              | false => rfl
              | true => simp only [set_listed hb2, Bool.not_true] at hj; cases hj) him
          omega
/-- From the start of the walk: what the quiet walk has taken is listed already. -/
theorem Stab.start {id : Nat} {a : Act} {w : World} (hrf : ∀ a, R a a) (htr : ∀ a b c, R a b → R b c → R a c) (s : Nat → Value) (hm : P.follows .mixedOrders = true) (h : Stab R P .any ops Q w.drew rem L mk D Post) (hs : a = mk s) (hrem : ∀ i, i < ops.size → i ∈ rem) (hct : rem.length ≤ ops.size) : (Code.region id ops true).wp P Q a w := by
  subst hs
  refine wp_region_any hm (h.run htr ops.size _ s w.drew (hrf _) (by simp) (fun i hi _ => hrem i hi) (fun i hi hb => ?_) ?_)
  · have := (stabB_spec h.text hi).1
    simp [this] at hb
  · exact Nat.le_trans (List.length_filter_le _ _) hct
theorem ext_refl (a : World) : Ext a a := Ext.refl a
theorem ext_trans (a b c : World) (h : Ext a b) (k : Ext b c) : Ext a c := h.trans k
/-- Later: what was there ahead of 'b0' stands; what came since stands, but where there was nothing. -/
structure Grew (b0 : Nat) (w w' : World) : Prop where
  os : w'.os = w.os
  tape : w'.tape = w.tape
  output : w'.output = w.output
  size : w.heap.size ≤ w'.heap.size
  block : ∀ b, b < w.heap.size → w'.heap[b]? = w.heap[b]? ∨ (b0 ≤ b ∧ ∃ t fr, w.heap[b]? = some (.cells #[] t fr))
theorem Grew.refl (b0 : Nat) (w : World) : Grew b0 w w := ⟨rfl, rfl, rfl, Nat.le_refl _, fun _ _ => .inl rfl⟩
theorem Grew.trans {b0 : Nat} {a b c : World} (h : Grew b0 a b) (k : Grew b0 b c) : Grew b0 a c :=
  ⟨k.os.trans h.os, k.tape.trans h.tape, k.output.trans h.output, Nat.le_trans h.size k.size, fun x hx => by
    rcases h.block x hx with h1 | h1
    · rcases k.block x (Nat.lt_of_lt_of_le hx h.size) with k1 | k1
      · exact .inl (k1.trans h1)
      · rw [h1] at k1; exact .inr k1
    · exact .inr h1⟩
theorem Grew.tr (b0 : Nat) (a b c : World) (h : Grew b0 a b) (k : Grew b0 b c) : Grew b0 a c := h.trans k
theorem Grew.of_ext {b0 : Nat} {w w' : World} (h : Ext w w') : Grew b0 w w' := ⟨h.os, h.tape, h.output, h.size, fun b hb => .inl (h.block b hb (by simp))⟩
theorem Grew.of_one {b0 g : Nat} {w w' : World} (h : w.grownBy w' (some g)) (hg : b0 ≤ g) {t : TypeId} {fr : Nat × Nat} (he : w.heap[g]? = some (.cells #[] t fr)) : Grew b0 w w' :=
  ⟨h.os, h.tape, h.output, h.size, fun b hb => by
    by_cases e : b = g
    · subst e; exact .inr ⟨hg, t, fr, he⟩
    · exact .inl (h.block b hb (by simpa using e))⟩
/-- .. as seen from ahead. -/
theorem Grew.ext {b0 : Nat} {a w w' : World} (h : Ext a w) (hb : a.heap.size ≤ b0) (k : Grew b0 w w') : Ext a w' :=
  ⟨k.os.trans h.os, k.tape.trans h.tape, k.output.trans h.output, Nat.le_trans h.size k.size, fun b hb2 hn => by
    rcases k.block b (Nat.lt_of_lt_of_le hb2 h.size) with h1 | h1
    · exact h1.trans (h.block b hb2 hn)
    · exact absurd h1.1 (by omega)⟩
theorem Grew.blk {b0 g : Nat} {w w' : World} {t : TypeId} {cs : List Value} (h : Blk w g t cs) (hn : cs ≠ []) (k : Grew b0 w w') : Blk w' g t cs := by
  have hg : g < w.heap.size := h.lt
  rcases k.block g hg with h1 | ⟨_, t', fr, h1⟩
  · exact h1.trans h
  · rw [show w.heap[g]? = _ from h] at h1
    simp at h1
    exact absurd h1.1 hn
theorem wanted_plain {o : Oper} {y : Nat → Option Bool} (h : o.guard = none) : Region.wanted o y = true := by simp [Region.wanted, h]
end
/-! ### The frame with the values in their slots -/
def mkOf (a : Act) : List (Option Nat) → Nat → (Nat → Value) → Act
  | [], _, _ => a
  | d :: ds, i, s => mkOf (a.put d (s i)) ds (i + 1) s
theorem mkOf_congr (s s' : Nat → Value) : ∀ (ds : List (Option Nat)) (i : Nat) (a : Act), (∀ j d, ds[j]? = some (some d) → s (i + j) = s' (i + j)) → mkOf a ds i s = mkOf a ds i s'
  | [], _, _, _ => rfl
  | d :: ds, i, a, h => by
    have e : a.put d (s i) = a.put d (s' i) := by
      cases d with
      | none => rfl
      | some x => rw [show s i = s' i from h 0 x rfl]
    unfold mkOf
    rw [e]
    exact mkOf_congr s s' ds (i + 1) _ fun j d hj => by have := h (j + 1) d hj; rwa [show i + (j + 1) = i + 1 + j by omega] at this
theorem put_comm {a : Act} {d e : Option Nat} {u v : Value} (h : ∀ x, d = some x → e ≠ some x) : (a.put d u).put e v = (a.put e v).put d u := by
  cases d with
  | none => rfl
  | some x =>
    cases e with
    | none => rfl
    | some y =>
      have hne : x ≠ y := fun e => h x rfl (by rw [e])
      simp only [Act.put]
      congr 1
      exact Array.setIfInBounds_comm _ _ hne
theorem put_same {a : Act} {d : Option Nat} {u v : Value} : (a.put d u).put d v = a.put d v := by
  cases d with
  | none => rfl
  | some x =>
    simp only [Act.put]
    congr 1
    apply Array.ext_getElem?
    intro k
    simp only [Array.getElem?_setIfInBounds, Array.size_setIfInBounds]
    by_cases hk : x = k <;> simp [hk]
theorem mkOf_comm (s : Nat → Value) (d : Nat) (v : Value) : ∀ (ds : List (Option Nat)) (i : Nat) (a : Act), some d ∉ ds → (mkOf a ds i s).put (some d) v = mkOf (a.put (some d) v) ds i s
  | [], _, _, _ => rfl
  | e :: ds, i, a, h => by
    unfold mkOf
    rw [mkOf_comm s d v ds (i + 1) _ (fun hm => h (List.mem_cons_of_mem _ hm)), put_comm]
    rintro x rfl he
    exact h (by rw [he]; simp)
def noTwice : List (Option Nat) → Bool
  | [] => true
  | none :: ds => noTwice ds
  | some d :: ds => !(ds.contains (some d)) && noTwice ds
theorem mkOf_put (s : Nat → Value) (v : Value) : ∀ (ds : List (Option Nat)) (i j : Nat) (a : Act) (d : Option Nat), noTwice ds = true → ds[j]? = some d → (mkOf a ds i s).put d v = mkOf a ds i (upd s (i + j) v)
  | [], _, _, _, _, _, h => by simp at h
  | e :: ds, i, 0, a, d, hn, h => by
    obtain rfl : e = d := by simpa using h
    cases e with
    | none =>
      refine (mkOf_congr _ _ _ _ _ fun j d hj => ?_)
      rw [upd_ne]
      rintro hij
      obtain rfl : j = 0 := by omega
      simp at hj
    | some x =>
      simp only [noTwice, Bool.and_eq_true] at hn
      unfold mkOf
      rw [mkOf_comm s x v ds (i + 1) _ (by simpa using hn.1), put_same, show i + 0 = i from rfl, upd_self]
      exact mkOf_congr _ _ _ _ _ fun j d _ => by rw [upd_ne]; omega
  | e :: ds, i, j + 1, a, d, hn, h => by
    have hn2 : noTwice ds = true := by
      cases e with
      | none => exact hn
      | some x => simp only [noTwice, Bool.and_eq_true] at hn; exact hn.2
    unfold mkOf
    rw [mkOf_put s v ds (i + 1) j _ d hn2 (by simpa using h), show i + 1 + j = i + (j + 1) by omega, upd_ne _ _ (by omega)]
/-- The frame as it is. -/
def nowOf (a : Act) (ds : List (Option Nat)) (i : Nat) : Value := match ds[i]? with
  | some (some d) => a.tmps.getD d undef
  | _ => undef
theorem put_now (a : Act) (d : Nat) : a.put (some d) (a.tmps.getD d undef) = a := by
  have h : a.tmps.setIfInBounds d (a.tmps.getD d undef) = a.tmps := by
    apply Array.ext_getElem?
    intro k
    simp only [Array.getElem?_setIfInBounds]
    by_cases hk : d = k
    · subst hk
      by_cases hd : d < a.tmps.size <;> simp [hd]
    · simp [hk]
  simp only [Act.put, h]
theorem mkOf_now : ∀ (ds : List (Option Nat)) (i : Nat) (a : Act) (s : Nat → Value), (∀ j d, ds[j]? = some (some d) → s (i + j) = a.tmps.getD d undef) → mkOf a ds i s = a
  | [], _, _, _, _ => rfl
  | d :: ds, i, a, s, h => by
    have e : a.put d (s i) = a := by
      cases d with
      | none => rfl
      | some x => rw [show s i = _ from h 0 x rfl, put_now]
    unfold mkOf
    rw [e]
    exact mkOf_now ds (i + 1) a s fun j d hj => by have := h (j + 1) d hj; rwa [show i + (j + 1) = i + 1 + j by omega] at this
theorem mkOf_start (a : Act) (ds : List (Option Nat)) : a = mkOf a ds 0 (nowOf a ds) := (mkOf_now ds 0 a _ fun j d hj => by simp [nowOf, hj]).symm
/-- What is asked of one operation. -/
def StabOp (R : World → World → Prop) (P : Program) (ops : Array Oper) (Q : Exit → Act → World → Prop) (w0 : World) (mk : (Nat → Value) → Act) (Pi : Nat → Value → World → Prop) (D : List Nat) (i : Nat) (o : Oper) : Prop :=
  ∀ s w, R w0 w → (∀ k ∈ D, k ≠ i → Pi k (s k) w) → ∀ K : Act → World → Prop, (∀ v w', R w w' → Pi i v w' → K ((mk s).put o.dst v) w') →
    if Region.wanted o (yielded ops (mk s).tmps) = true then o.wp P (mk s) w K Q else K ((mk s).put o.dst undef) w
def StabLast (R : World → World → Prop) (P : Program) (ops : Array Oper) (Q : Exit → Act → World → Prop) (w0 : World) (mk : (Nat → Value) → Act) (Pi : Nat → Value → World → Prop) (L : Nat) (o : Oper) : Prop :=
  ∀ s w, R w0 w → (∀ k, k < L → Pi k (s k) w) → ∀ K : Act → World → Prop, (∀ a' w', Q .normal a' w' → K a' w') →
    if Region.wanted o (yielded ops (mk s).tmps) = true then o.wp P (mk s) w K Q else K ((mk s).put o.dst undef) w
section
variable {P : Program} {Q : Exit → Act → World → Prop}
theorem op_of {l : List Oper} {i : Nat} {o : Oper} (h : l.toArray[i]? = some o) : (l.drop i).head? = some o := by rw [List.head?_drop]; simpa using h
/-- THE WALK, the last operation a store: 'ops' the obligations, one for each but the last. -/
theorem stab_store {id : Nat} {l : List Oper} {a : Act} {w : World} (R : World → World → Prop) (hrf : ∀ a, R a a) (htr : ∀ a b c, R a b → R b c → R a c) (Ds : List (List Nat)) (Pi : Nat → Value → World → Prop) (hm : P.follows .mixedOrders = true)
    (ht : stabB .any l.toArray (List.range l.length) (fun i => Ds.getD i []) = true) (hn : noTwice (l.map (·.dst)) = true) (hc : (List.range l.length).all (fun k => (Ds.getD (l.length - 1) []).contains k) = true) (hl0 : l ≠ [])
    (hst : ∀ i v w w', Pi i v w → R w w' → Pi i v w')
    (hop : ∀ i, i < l.length - 1 → ∀ o, (l.drop i).head? = some o → StabOp R P l.toArray Q w.drew (mkOf a (l.map (·.dst)) 0) Pi (Ds.getD i []) i o)
    (hlast : ∀ o, (l.drop (l.length - 1)).head? = some o → StabLast R P l.toArray Q w.drew (mkOf a (l.map (·.dst)) 0) Pi (l.length - 1) o) : (Code.region id l.toArray true).wp P Q a w := by
  have hpos : 0 < l.length := List.length_pos_iff.2 hl0
  refine Stab.start (R := R) hrf htr (rem := List.range l.length) (L := l.length - 1) (mk := mkOf a (l.map (·.dst)) 0) (D := fun i => Ds.getD i []) (Post := fun i s w => Pi i (s i) w) (nowOf a (l.map (·.dst))) hm
    ⟨ht, fun i hi o ho s v => ?_, fun i s w w' => hst i (s i) w w', fun i hi s s' w hk h => ?_, fun i hi hL o ho s w hx hd K hK => ?_, fun _ => ⟨fun k hk => ?_, fun o ho s w hx hd K hK => ?_⟩, fun hL => ?_⟩ (mkOf_start a _) (fun i hi => by simpa using hi) (by simp)
  · have := mkOf_put s v (l.map (·.dst)) 0 i a o.dst hn (by rw [List.getElem?_map, show l[i]? = some o by simpa using ho]; rfl)
    rw [Nat.zero_add] at this
    exact this
  · rw [← hk i (stabB_spec ht hi).2.1]; exact h
  · refine hop i (by have := List.mem_range.1 hi; omega) o (op_of ho) s w hx hd K fun v w' h1 h2 => hK v w' h1 (by rw [upd_self]; exact h2)
  · have := (List.all_eq_true.1 hc) k hk
    simpa using this
  · exact hlast o (op_of ho) s w hx (fun k hk => hd k (List.mem_range.2 (by omega)) (by omega)) K hK
  · exact absurd (List.mem_range.2 (by omega)) hL
/-- THE WALK, no store. -/
theorem stab_plain {id : Nat} {l : List Oper} {a : Act} {w : World} (R : World → World → Prop) (hrf : ∀ a, R a a) (htr : ∀ a b c, R a b → R b c → R a c) (Ds : List (List Nat)) (Pi : Nat → Value → World → Prop) (hm : P.follows .mixedOrders = true)
    (ht : stabB .any l.toArray (List.range l.length) (fun i => Ds.getD i []) = true) (hn : noTwice (l.map (·.dst)) = true)
    (hst : ∀ i v w w', Pi i v w → R w w' → Pi i v w')
    (hop : ∀ i, i < l.length → ∀ o, (l.drop i).head? = some o → StabOp R P l.toArray Q w.drew (mkOf a (l.map (·.dst)) 0) Pi (Ds.getD i []) i o)
    (hfin : ∀ s w1, R w.drew w1 → (∀ k, k < l.length → Pi k (s k) w1) → Q .normal (mkOf a (l.map (·.dst)) 0 s) w1) : (Code.region id l.toArray true).wp P Q a w := by
  refine Stab.start (R := R) hrf htr (rem := List.range l.length) (L := l.length) (mk := mkOf a (l.map (·.dst)) 0) (D := fun i => Ds.getD i []) (Post := fun i s w => Pi i (s i) w) (nowOf a (l.map (·.dst))) hm
    ⟨ht, fun i hi o ho s v => ?_, fun i s w w' => hst i (s i) w w', fun i hi s s' w hk h => ?_, fun i hi hL o ho s w hx hd K hK => ?_, fun hL => absurd hL (by simp), fun hL s w hx hd => ?_⟩ (mkOf_start a _) (fun i hi => by simpa using hi) (by simp)
  · have := mkOf_put s v (l.map (·.dst)) 0 i a o.dst hn (by rw [List.getElem?_map, show l[i]? = some o by simpa using ho]; rfl)
    rw [Nat.zero_add] at this
    exact this
  · rw [← hk i (stabB_spec ht hi).2.1]; exact h
  · refine hop i (List.mem_range.1 hi) o (op_of ho) s w hx hd K fun v w' h1 h2 => hK v w' h1 (by rw [upd_self]; exact h2)
  · exact hfin s w hx fun k hk => hd k (List.mem_range.2 hk)
end
end
end Go.Proofs.Ytfoomnibfibfnaa

/- What Parse answers to a request's text, to one with a turned letter, and what it answers at all. No program in sight. Conditions: none but what each names. -/
import Derived.Test.YtchnjcghbbacoaaDoorQPlain
set_option linter.unusedVariables false
set_option linter.unusedSimpArgs false
set_option linter.unnecessarySimpa false
namespace Go.Proofs.YtchnjcghbbacoaaDoor

theorem head_prefix (l : List UInt8) : Lib.hasPrefix (headK ++ l) headK = true := by
  unfold Lib.hasPrefix
  exact List.isPrefixOf_iff_prefix.2 (List.prefix_append _ _)
/-- What a text of letters behind the head may be. -/
theorem parsed_valid {L : List Nat} (hL : ∀ x ∈ L, x < 32) (h6 : 6 ≤ L.length) (hlen : L.length ≤ 4000) {r : Rq} {x : Int} (h : Parsed (headK ++ L.map letter) r x) :
    (mixM (aheadK ++ L) ≠ 1 ∧ x = 20) ∨ (mixM (aheadK ++ L) = 1 ∧ ((∃ p, Eights (L.take (L.length - 6)) p false) ∨ ∃ p, Eights (L.take (L.length - 6)) p true ∧ r = (readM p).1 ∧ x = (readM p).2)) := by
  have hin : ∀ l : List Nat, headK ++ L.map letter = headK ++ l.map letter → (∀ x ∈ l, x < 32) → l = L := fun l e hl => (letters_inj L l hL hl (List.append_cancel_left e)).symm
  generalize ht : headK ++ L.map letter = t at h
  cases h with
  | limit h => rw [← ht, List.length_append, List.length_map, show headK.length = 5 from rfl] at h; omega
  | word _ h => rw [← ht, head_prefix] at h; exact absurd h (by decide)
  | form body b _ e hb hi =>
    rw [← ht] at e
    rw [← List.append_cancel_left e] at hb
    obtain ⟨n, hn, rfl⟩ := List.mem_map.1 hb
    rw [letter_index n (hL n hn)] at hi
    omega
  | short l _ e hl h => rw [hin l (ht.trans e) hl] at h; omega
  | sign l _ e hl _ h => rw [hin l (ht.trans e) hl] at h; exact .inl ⟨h, rfl⟩
  | odd l p _ e hl _ h he => rw [hin l (ht.trans e) hl] at h he; exact .inr ⟨h, .inl ⟨p, he⟩⟩
  | tail l p _ e hl _ h he => rw [hin l (ht.trans e) hl] at h he; exact .inr ⟨h, .inr ⟨p, he, rfl, rfl⟩⟩
theorem fives_size {r : Rq} {l : List Nat} (hok : RqOk r) (hr : rightR r = true) (hf : Fives (bitsP (bytesR r)) l) : l.length ≤ 246 := by
  have h := hf.length
  rw [bitsP_length, bytesR_length hok] at h
  simp only [rightR, Bool.and_eq_true, decide_eq_true_eq] at hr
  omega
theorem text_lt {l : List Nat} (hl : ∀ x ∈ l, x < 32) : ∀ x ∈ l ++ checkM l, x < 32 := fun x hx => by
  rcases List.mem_append.1 hx with h | h
  · exact hl x h
  · exact checkM_lt l x h
/-- What is written is read as it was. -/
theorem parsed_text {r0 : Rq} {l : List Nat} (hok : RqOk r0) (hr : rightR r0 = true) (hf : Fives (bitsP (bytesR r0)) l) {r : Rq} {x : Int} (h : Parsed (textR l) r x) : r = r0 ∧ x = 0 := by
  have hs := fives_size hok hr hf
  have hlen : (l ++ checkM l).length = l.length + 6 := by rw [List.length_append, checkM_length]
  have htk : (l ++ checkM l).take ((l ++ checkM l).length - 6) = l := by rw [hlen]; exact List.take_left' (by omega)
  rcases parsed_valid (text_lt hf.small) (by omega) (by omega) h with ⟨h1, _⟩ | ⟨_, ⟨p, he⟩ | ⟨p, he, rfl, rfl⟩⟩
  · exact absurd (mix_check hf.small) h1
  · rw [htk] at he; exact absurd (he.back hf).2 (by decide)
  · rw [htk] at he
    obtain ⟨rfl, _⟩ := he.back hf
    rw [readM_bytes hok hr]
    exact ⟨rfl, rfl⟩
/-- With one letter turned it isn't read. -/
theorem parsed_turned {r0 : Rq} {l : List Nat} {j n : Nat} (hok : RqOk r0) (hr : rightR r0 = true) (hf : Fives (bitsP (bytesR r0)) l) (hj : j < l.length + 6) (hn : n < 32)
    (hne : (textR l)[5 + j]? ≠ some (letter n)) {r : Rq} {x : Int} (h : Parsed ((textR l).set (5 + j) (letter n)) r x) : x = 20 := by
  have hs := fives_size hok hr hf
  have hlen : (l ++ checkM l).length = l.length + 6 := by rw [List.length_append, checkM_length]
  have hL := text_lt hf.small
  have e : (textR l).set (5 + j) (letter n) = headK ++ ((l ++ checkM l).set j n).map letter := by
    unfold textR
    rw [List.set_append_right _ _ (by show 5 ≤ 5 + j; omega), show 5 + j - headK.length = j by show 5 + j - 5 = j; omega, List.map_set]
  have e2 : (textR l)[5 + j]? = ((l ++ checkM l)[j]?).map letter := by
    unfold textR
    rw [List.getElem?_append_right (by show 5 ≤ 5 + j; omega), show 5 + j - headK.length = j by show 5 + j - 5 = j; omega, List.getElem?_map]
  have hm := mix_check hf.small
  rw [e] at h
  rw [e2] at hne
  have hL2 : ∀ x ∈ (l ++ checkM l).set j n, x < 32 := fun x hx => by
    rcases List.mem_or_eq_of_mem_set hx with h | rfl
    · exact hL x h
    · exact hn
  have hl2 : ((l ++ checkM l).set j n).length = l.length + 6 := by rw [List.length_set, hlen]
  rcases parsed_valid hL2 (by omega) (by omega) h with ⟨_, h1⟩ | ⟨h1, _⟩
  · exact h1
  · have := mix_turned hL (by omega) hn (hm.trans h1.symm)
    rw [this] at hne
    exact absurd rfl hne
/-- What is read has the very text. -/
theorem parsed_back {t : List UInt8} {y : Rq} {x : Int} (h : Parsed t y x) (hx : x = 0) : rightR y = true ∧ ∃ l, Fives (bitsP (bytesR y)) l ∧ t = textR l := by
  cases h with
  | limit => exact absurd hx (by decide)
  | word => exact absurd hx (by decide)
  | form => exact absurd hx (by decide)
  | short => exact absurd hx (by decide)
  | sign => exact absurd hx (by decide)
  | odd => exact absurd hx (by decide)
  | tail l p _ e hl h6 hm he =>
    obtain ⟨hb, hr⟩ := readM_ok hx
    rw [hb]
    have hsplit : l.take (l.length - 6) ++ l.drop (l.length - 6) = l := List.take_append_drop _ _
    refine ⟨hr, l.take (l.length - 6), he.fives fun x h => hl x (List.mem_of_mem_take h), ?_⟩
    have hc := check_only (l := l.take (l.length - 6)) (m := l.drop (l.length - 6)) (by rw [List.length_drop]; omega) (fun x h => hl x (List.mem_of_mem_drop h)) (by rw [hsplit]; exact hm)
    unfold textR
    rw [← hc, hsplit]
    exact e
theorem textR_length (l : List Nat) : (textR l).length = l.length + 11 := by
  unfold textR
  rw [List.length_append, List.length_map, List.length_append, checkM_length]
  show 5 + _ = _
  omega
end Go.Proofs.YtchnjcghbbacoaaDoor

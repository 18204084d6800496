/- Plain laws on the things of a line: what is passed over, where a word ends, what stands behind it. Conditions: none. -/
import Derived.Test.YtjieelmbgfnllaaGreatDoorScSpec
namespace Scr

theorem toksG_skip : ∀ (l : Bs) (p k : Nat), toksG l p k = toksG (l.drop k) (p + k) 0
  | [], p, k => by simp [toksG]
  | c :: t, p, 0 => by simp
  | c :: t, p, k + 1 => by
    rw [toksG, toksG_skip t (p + 1) k]
    simp only [List.drop_succ_cons]
    rw [show p + 1 + k = p + (k + 1) from by omega]

/-- What is left of a line from a place on. -/
def left (line : Bs) (at_ : Nat) : List Tok := toksG (line.drop at_) at_ 0
theorem toks_left (line : Bs) : toks line = left line 0 := rfl

def blanks (l : Bs) : Nat := (l.takeWhile isBlank).length
def wordLen (l : Bs) : Nat := (l.takeWhile (fun d => !isStop d)).length

theorem blanks_le (l : Bs) : blanks l ≤ l.length := (List.takeWhile_prefix _).length_le
theorem wordLen_le (l : Bs) : wordLen l ≤ l.length := (List.takeWhile_prefix _).length_le

theorem takeWhile_get {α : Type} (q : α → Bool) : ∀ (l : List α) (i : Nat) (c : α), i < (l.takeWhile q).length → l[i]? = some c → q c = true
  | [], i, c, h, _ => by simp at h
  | d :: t, i, c, h, hc => by
    simp only [List.takeWhile_cons] at h
    cases hq : q d with
    | false => simp [hq] at h
    | true =>
      simp only [hq, if_true, List.length_cons] at h
      cases i with
      | zero => simp at hc; subst hc; exact hq
      | succ i => exact takeWhile_get q t i c (by omega) (by simpa using hc)
theorem takeWhile_end {α : Type} (q : α → Bool) : ∀ (l : List α) (c : α), l[(l.takeWhile q).length]? = some c → q c = false
  | [], c, h => by simp at h
  | d :: t, c, h => by
    simp only [List.takeWhile_cons] at h
    cases hq : q d with
    | false => simp [hq] at h; subst h; exact hq
    | true =>
      simp only [hq, if_true, List.length_cons, List.getElem?_cons_succ] at h
      exact takeWhile_end q t c h
theorem takeWhile_take {α : Type} (q : α → Bool) : ∀ (l : List α), l.takeWhile q = l.take (l.takeWhile q).length
  | [] => rfl
  | d :: t => by
    simp only [List.takeWhile_cons]
    cases q d with
    | false => simp
    | true => simp only [if_true, List.length_cons, List.take_succ_cons]; rw [← takeWhile_take q t]

theorem blank_cases {c : UInt8} (h : isBlank c = true) : c = 32 ∨ c = 9 := by simpa [isBlank] using h
theorem stop_cases {c : UInt8} : isStop c = true ↔ c = 32 ∨ c = 9 ∨ c = 35 ∨ c = 34 := by simp [isStop, or_assoc]
theorem stop_of_blank {c : UInt8} (h : isBlank c = true) : isStop c = true := by
  rcases blank_cases h with rfl | rfl <;> rfl

theorem toksG_blanks : ∀ (l : Bs) (p : Nat), toksG l p 0 = toksG (l.drop (blanks l)) (p + blanks l) 0
  | [], p => by simp [toksG]
  | c :: t, p => by
    unfold blanks
    cases hb : isBlank c with
    | false => simp [hb]
    | true =>
      rw [toksG, if_pos hb, toksG_blanks t (p + 1)]
      simp only [List.takeWhile_cons, hb, if_true, List.length_cons, List.drop_succ_cons, blanks]
      rw [show p + 1 + (t.takeWhile isBlank).length = p + ((t.takeWhile isBlank).length + 1) from by omega]

theorem drop_drop' (l : Bs) (a b : Nat) : (l.drop a).drop b = l.drop (a + b) := by rw [List.drop_drop]

theorem left_blanks (line : Bs) (p : Nat) : left line p = left line (p + blanks (line.drop p)) := by
  unfold left
  rw [toksG_blanks, drop_drop']

theorem left_end (line : Bs) (p : Nat) (h : line.length ≤ p) : left line p = [] := by
  unfold left
  rw [List.drop_eq_nil_of_le h]; rfl

theorem drop_cons {l : Bs} {p : Nat} {c : UInt8} (h : l[p]? = some c) : l.drop p = c :: l.drop (p + 1) := by
  obtain ⟨hp, rfl⟩ := List.getElem?_eq_some_iff.1 h
  exact List.drop_eq_getElem_cons hp

theorem left_hash (line : Bs) (p : Nat) (h : line[p]? = some 35) : left line p = [] := by
  unfold left
  rw [drop_cons h, toksG]
  simp [isBlank]

theorem left_quote (line : Bs) (p : Nat) (h : line[p]? = some 34) :
    left line p = match quoteL (line.drop (p + 1)) with
      | none => [⟨2, p, []⟩]
      | some x => ⟨1, p, x.1⟩ :: left line (p + 1 + x.2) := by
  unfold left
  rw [drop_cons h, toksG]
  simp only [isBlank]
  rw [if_neg (by decide), if_neg (by decide), if_pos trivial]
  cases quoteL (line.drop (p + 1)) with
  | none => rfl
  | some x => simp only []; rw [toksG_skip, drop_drop']

theorem left_word (line : Bs) (p : Nat) (c : UInt8) (h : line[p]? = some c) (hs : isStop c = false) :
    left line p = ⟨0, p, (line.drop p).take (wordLen (line.drop p))⟩ :: left line (p + wordLen (line.drop p)) ∧ 1 ≤ wordLen (line.drop p) := by
  have hb : isBlank c = false := by
    cases h1 : isBlank c with
    | false => rfl
    | true => rw [stop_of_blank h1] at hs; exact hs.symm ▸ rfl
  have h35 : c ≠ 35 := by rintro rfl; revert hs; decide
  have h34 : c ≠ 34 := by rintro rfl; revert hs; decide
  have hw : wordLen (line.drop p) = 1 + ((line.drop (p + 1)).takeWhile (fun d => !isStop d)).length := by
    unfold wordLen
    rw [drop_cons h]
    simp [hs]; omega
  refine ⟨?_, by omega⟩
  unfold left
  have ht := takeWhile_take (fun d => !isStop d) (line.drop p)
  rw [hw]
  rw [show (line.drop p).take (1 + ((line.drop (p + 1)).takeWhile (fun d => !isStop d)).length) = (line.drop p).takeWhile (fun d => !isStop d) from by
    rw [ht]; unfold wordLen at hw; rw [hw]]
  rw [drop_cons h, toksG]
  rw [if_neg (by rw [hb]; decide), if_neg h35, if_neg h34, toksG_skip, drop_drop']
  rw [show p + 1 + ((line.drop (p + 1)).takeWhile (fun d => !isStop d)).length = p + (1 + ((line.drop (p + 1)).takeWhile (fun d => !isStop d)).length) from by omega]

theorem wordLen_ge : ∀ (l : Bs) (n : Nat), (∀ k, k < n → ∃ c, l[k]? = some c ∧ isStop c = false) → n ≤ wordLen l
  | l, 0, _ => Nat.zero_le _
  | [], n + 1, h => by obtain ⟨c, hc, _⟩ := h 0 (by omega); simp at hc
  | d :: t, n + 1, h => by
    obtain ⟨c, hc, hs⟩ := h 0 (by omega)
    simp at hc; subst hc
    have := wordLen_ge t n (fun k hk => by
      obtain ⟨c, hc, hs⟩ := h (k + 1) (by omega)
      exact ⟨c, by simpa using hc, hs⟩)
    unfold wordLen at this ⊢
    simp [hs]; omega
theorem high_stop {c : UInt8} (h : 128 ≤ c.toNat) : isStop c = false := by
  cases hs : isStop c with
  | false => rfl
  | true => rcases stop_cases.1 hs with rfl | rfl | rfl | rfl <;> simp at h
theorem word_in (l : Bs) (j : Nat) (c : UInt8) (h : j < wordLen l) (hc : l[j]? = some c) : isStop c = false := by
  have := takeWhile_get (fun d => !isStop d) l j c h hc
  simpa using this
theorem word_end (l : Bs) (c : UInt8) (hc : l[wordLen l]? = some c) : isStop c = true := by
  have := takeWhile_end (fun d => !isStop d) l c hc
  simpa using this
theorem blank_in (l : Bs) (j : Nat) (c : UInt8) (h : j < blanks l) (hc : l[j]? = some c) : c = 32 ∨ c = 9 :=
  blank_cases (takeWhile_get isBlank l j c h hc)
theorem blank_end (l : Bs) (c : UInt8) (hc : l[blanks l]? = some c) : isBlank c = false := takeWhile_end isBlank l c hc
end Scr

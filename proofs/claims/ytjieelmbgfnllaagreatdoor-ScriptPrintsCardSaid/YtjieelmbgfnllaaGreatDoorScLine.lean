/- What line does: first the plain law on the names, then the walk's smaller cases. Conditions: a line of at most 2^40 bytes. -/
import Derived.Test.YtjieelmbgfnllaaGreatDoorScEnds
import Derived.Test.YtjieelmbgfnllaaGreatDoorScShelf
namespace Go.Proofs.YtjieelmbgfnllaaGreatDoor
open Go.RowKit Scr

theorem index_cons_pos (b : UInt8) (l sub : Bs) : 0 ≤ Lib.index (b :: l) sub ↔ sub.isPrefixOf (b :: l) = true ∨ 0 ≤ Lib.index l sub := by
  rw [Lib.index.eq_def]
  simp only []
  by_cases h : sub.isPrefixOf (b :: l) = true
  · simp [h]
  · rw [if_neg h]
    have hge := Lib.index_ge l sub
    by_cases h1 : Lib.index l sub = -1
    · simp [h1, h]
    · have : (Lib.index l sub == -1) = false := by rw [beq_eq_false_iff_ne]; exact h1
      rw [if_neg (by simp [this])]
      constructor
      · intro _; right; omega
      · rintro (h2 | h2)
        · exact absurd h2 h
        · omega
def spaced (ws : List Bs) : Bs := ws.flatMap (fun x => x ++ [32])
theorem index_skip (t : Bs) (R : Bs) : ∀ (x : Bs), 32 ∉ x → (0 ≤ Lib.index (x ++ R) (32 :: t) ↔ 0 ≤ Lib.index R (32 :: t))
  | [], _ => Iff.rfl
  | c :: x, h => by
    have hc : c ≠ 32 := fun e => h (by rw [e]; exact List.mem_cons_self ..)
    rw [List.cons_append, index_cons_pos, index_skip t R x (fun hm => h (List.mem_cons_of_mem _ hm))]
    constructor
    · rintro (h1 | h1)
      · simp [List.isPrefixOf] at h1; exact absurd h1.1.symm hc
      · exact h1
    · exact .inr
theorem prefix_word : ∀ (t x R : Bs), 32 ∉ t → 32 ∉ x → ((t ++ [32]).isPrefixOf (x ++ 32 :: R) = true ↔ t = x)
  | [], [], R, _, _ => by simp [List.isPrefixOf]
  | [], c :: x, R, _, hx => by
    have hc : c ≠ 32 := fun e => hx (by rw [e]; exact List.mem_cons_self ..)
    simp [List.isPrefixOf]
    exact fun e => hc e.symm
  | a :: t, [], R, ht, _ => by
    have hc : a ≠ 32 := fun e => ht (by rw [e]; exact List.mem_cons_self ..)
    simp [List.isPrefixOf, hc]
  | a :: t, c :: x, R, ht, hx => by
    have ih := prefix_word t x R (fun hm => ht (List.mem_cons_of_mem _ hm)) (fun hm => hx (List.mem_cons_of_mem _ hm))
    simp only [List.cons_append, List.isPrefixOf, Bool.and_eq_true, beq_iff_eq, List.cons.injEq]
    rw [ih]
theorem index_words (t : Bs) (ht : 32 ∉ t) : ∀ ws : List Bs, (∀ x ∈ ws, 32 ∉ x) → (0 ≤ Lib.index (32 :: spaced ws) (32 :: (t ++ [32])) ↔ t ∈ ws)
  | [], _ => by
    rw [index_cons_pos]
    constructor
    · rintro (h | h)
      · cases t <;> simp [spaced, List.isPrefixOf] at h
      · simp [spaced, Lib.index] at h
    · intro h; cases h
  | x :: ws, h => by
    have hx := h x (List.mem_cons_self ..)
    have ih := index_words t ht ws (fun y hy => h y (List.mem_cons_of_mem _ hy))
    have e : spaced (x :: ws) = x ++ 32 :: spaced ws := by simp [spaced]
    rw [index_cons_pos, e, index_skip (t ++ [32]) (32 :: spaced ws) x hx, ih]
    have : (32 :: (t ++ [32])).isPrefixOf (32 :: (x ++ 32 :: spaced ws)) = (t ++ [32]).isPrefixOf (x ++ 32 :: spaced ws) := by simp [List.isPrefixOf]
    rw [this, prefix_word t x _ ht hx, List.mem_cons]
theorem contains_names (t : Bs) (ht : 32 ∉ t) : Lib.contains [32, 119, 114, 105, 116, 101, 32, 115, 121, 110, 99, 32, 103, 101, 116, 32, 115, 99, 97, 110, 32, 115, 110, 97, 112, 32, 114, 101, 108, 101, 97, 115, 101, 32, 100, 111, 32, 116, 105, 99, 107, 32, 102, 97, 108, 108, 32, 97, 114, 109, 32, 102, 97, 105, 108, 32] (32 :: (t ++ [32])) = decide (t ∈ names) := by
  have := index_words t ht names (by decide)
  unfold Lib.contains
  exact decide_eq_decide.2 this

theorem toksG_word : ∀ (l : Bs) (p k : Nat), ∀ t ∈ toksG l p k, t.kind = 0 → 32 ∉ t.text
  | [], _, _, t, h, _ => by rw [toksG] at h; cases h
  | _ :: l, p, k + 1, t, h, h0 => by rw [toksG] at h; exact toksG_word l (p + 1) k t h h0
  | c :: l, p, 0, t, h, h0 => by
    rw [toksG] at h
    split at h
    · exact toksG_word l (p + 1) 0 t h h0
    · split at h
      · cases h
      · split at h
        · cases hq : quoteL l with
          | none => rw [hq] at h; simp at h; subst h; simp at h0
          | some x =>
            rw [hq] at h
            rcases List.mem_cons.1 h with rfl | h
            · simp at h0
            · exact toksG_word l (p + 1) x.2 t h h0
        · rcases List.mem_cons.1 h with rfl | h
          · intro hm
            have h3 := List.all_eq_true.1 (List.all_takeWhile (p := fun d => !isStop d) (l := c :: l)) 32 hm
            simp [isStop] at h3
          · exact toksG_word l (p + 1) _ t h h0
theorem RdT.word {w : World} {r n : Nat} {t : Tok} {ts : List Tok} (h : RdT w r n (t :: ts)) (hk : t.kind = 0) : 32 ∉ t.text := by
  obtain ⟨line, a, _, _, _, hl⟩ := h
  exact toksG_word (line.data.toList.drop a) a 0 t (by unfold left at hl; rw [hl]; exact List.mem_cons_self ..) hk

theorem Par.typed {S : List Nat} {w w' : World} {lo p : Nat} {rs : List RStep} {rep : Option (Nat × Nat)} (h : Par w lo p rs rep) (hm : Mod S w w') (hp : p ∉ S)
    (hS : ∀ g ∈ S, ∃ t cs, Blk w g t cs ∧ t ≠ 69 ∧ t ≠ 71 ∧ t ≠ 3) : Par w' lo p rs rep := by
  obtain ⟨v, bg, ot, hb, h1, h2, h3, h4, h5⟩ := h
  exact ⟨v, bg, ot, hm.blk hb hp, h1, h2.typed hm hS, h3, h4, Nat.le_trans h5 hm.size⟩
theorem Par.reader {w w' : World} {lo p r n : Nat} {rs : List RStep} {rep : Option (Nat × Nat)} {ts : List Tok} (h : Par w lo p rs rep) (hr : RdT w r n ts) (hrp : r ≠ p) (hm : Mod [r] w w') : Par w' lo p rs rep := by
  obtain ⟨line, a, hb, _⟩ := hr
  exact h.typed hm (by simpa using Ne.symm hrp) (fun g hg => by simp at hg; subst hg; exact ⟨_, _, hb, by decide, by decide, by decide⟩)
theorem Par.ne {w : World} {lo p r n : Nat} {rs : List RStep} {rep : Option (Nat × Nat)} {ts : List Tok} (h : Par w lo p rs rep) (hr : RdT w r n ts) : r ≠ p := by
  obtain ⟨v, bg, ot, hb, _⟩ := h
  obtain ⟨line, a, hb2, _⟩ := hr
  exact hb2.ne_ hb (by decide)

def LinePost (w : World) (lo p r n : Nat) (ts : List Tok) (l : List StepS) (rep : Option (Nat × Nat)) (e : Ending) (w' : World) : Prop :=
  match lineP n ts ⟨l, rep⟩ with
  | .error f => ∃ v, e = .returned v ∧ FaultIs w w' f v ∧ Low lo [p, r] w w'
  | .ok st => e = .returned .nilIface ∧ (∃ rs' : List RStep, rs'.map (·.1) = st.l ∧ Par w' lo p rs' st.rep) ∧ Low lo [p, r] w w'
theorem line_bad {w w' : World} {lo p r n : Nat} {ts : List Tok} {l : List StepS} {rep : Option (Nat × Nat)} {f : Flt} {e : Ending} (h : lineP n ts ⟨l, rep⟩ = .error f)
    (h2 : ∃ v, e = .returned v ∧ FaultIs w w' f v ∧ Low lo [p, r] w w') : LinePost w lo p r n ts l rep e w' := by
  unfold LinePost; rw [h]; exact h2
theorem line_good {w w' : World} {lo p r n : Nat} {ts : List Tok} {l : List StepS} {rep : Option (Nat × Nat)} {st : PSt} {e : Ending} (h : lineP n ts ⟨l, rep⟩ = .ok st)
    (h2 : e = .returned .nilIface ∧ (∃ rs' : List RStep, rs'.map (·.1) = st.l ∧ Par w' lo p rs' st.rep) ∧ Low lo [p, r] w w') : LinePost w lo p r n ts l rep e w' := by
  unfold LinePost; rw [h]; exact h2

section
variable (w : World) (lo p r n : Nat) (t : Tok) (ts : List Tok) (rs : List RStep) (rep : Option (Nat × Nat)) (D : ByteArray)
set_option maxRecDepth 100000 in
set_option maxHeartbeats 4000000 in
theorem line_empty (hp : Par w lo p rs rep) (h : RdT w r n []) (hn : n ≤ 1099511627776) :
    Calls Tryz.prog 33 #[.pointer (some ⟨p, 0, none⟩), .pointer (some ⟨r, 0, none⟩)] w (LinePost w lo p r n [] (rs.map (·.1)) rep) := by
  have H := Lib.hid (And.intro hp h)
  clear hp h
  go_enter Tryz.func33, Tryz.ntmps33
  go_wp2_with fail
  refine (next_nil w r n H.out.2 hn).mono ?_
  rintro e w1 ⟨rfl, hrt, hm1⟩
  have H2 := Lib.hid hm1
  clear hrt hm1
  go_wp2
  go_ret
  obtain ⟨hp, h⟩ := H.out
  have hm1 := H2.out
  have hm2 : Mod [] w1 (w1.alloc (Obj.cells #[Value.int IntKind.i64 0, Value.int IntKind.i64 0, Value.string ⟨#[]⟩] 145)) := (Mod.refl _ _).alloc _
  have hlo : lo ≤ w.heap.size := by obtain ⟨_, _, _, _, _, _, _, _, h5⟩ := hp; exact h5
  exact line_good (st := ⟨rs.map (·.1), rep⟩) rfl ⟨rfl, ⟨rs, rfl, (hp.reader h (hp.ne h) hm1).typed hm2 (by simp) (by simp)⟩, (hm1.low hlo (by simp)).trans (hm2.low (by have := hm1.size; omega) (by simp))⟩

theorem lineP_kind (st : PSt) (hk : t.kind ≠ 0) : lineP n (t :: ts) st = .error (t.pos, 200) := by unfold lineP; simp only []; rw [if_pos hk]

set_option maxRecDepth 100000 in
set_option maxHeartbeats 4000000 in
theorem line_kind (hp : Par w lo p rs rep) (h : RdT w r n (t :: ts)) (hn : n ≤ 1099511627776) (hk : t.kind ≠ 0) (hD : D = ⟨t.text.toArray⟩) :
    Calls Tryz.prog 33 #[.pointer (some ⟨p, 0, none⟩), .pointer (some ⟨r, 0, none⟩)] w (LinePost w lo p r n (t :: ts) (rs.map (·.1)) rep) := by
  have hkk : ((t.kind : Int) == 0) = false := by rw [beq_eq_false_iff_ne]; omega
  have H := Lib.hid (And.intro hp (And.intro h (And.intro hD hk)))
  clear hp h hD hk
  go_enter Tryz.func33, Tryz.ntmps33
  go_wp2_with fail
  refine (next_cons w r n t ts D H.out.2.2.1 H.out.2.1 hn).mono ?_
  rintro e w1 ⟨rfl, hrt, hm1⟩
  have H2 := Lib.hid hm1
  clear hrt hm1
  go_wp2
  go_ret
  obtain ⟨hp, h, hD, hk⟩ := H.out
  have hm1 := H2.out
  have hlo : lo ≤ w.heap.size := by obtain ⟨_, _, _, _, _, _, _, _, h5⟩ := hp; exact h5
  have hs1 := hm1.size
  exact line_bad (lineP_kind n t ts _ hk) ⟨_, rfl, ⟨w1.heap.size + 1, rfl, by omega, Blk.newAt _ _ _ (by simp)⟩, (((hm1.alloc _).alloc _).low hlo (by simp))⟩
end
end Go.Proofs.YtjieelmbgfnllaaGreatDoor

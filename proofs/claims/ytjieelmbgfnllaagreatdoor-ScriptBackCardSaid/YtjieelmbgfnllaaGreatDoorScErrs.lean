/- The faults of Parse bear a number; told at what Parse handed back. Conditions: errors.errorType is laid. -/
import Derived.Test.YtjieelmbgfnllaaGreatDoorScKnown
namespace Go.Proofs.YtjieelmbgfnllaaGreatDoor
open Go.RowKit Scr

theorem num_err {n : Nat} {lo hi : Int} {ts : List Tok} {f : Flt} (h : num n lo hi ts = .error f) : f.2 ≠ 0 := by
  unfold num at h
  repeat' split at h
  all_goals first | (cases h; simp) | cases h
theorem txt_err {n : Nat} {ts : List Tok} {f : Flt} (h : txt n ts = .error f) : f.2 ≠ 0 := by
  unfold txt at h
  repeat' split at h
  all_goals first | (cases h; simp) | cases h
theorem fin_err {ts : List Tok} {f : Flt} (h : fin ts = .error f) : f.2 ≠ 0 := by
  rcases ts with _ | ⟨t, ts⟩
  · cases h
  · cases h; simp
theorem map_err {ε α β : Type} {x : Except ε α} {g : α → β} {f : ε} (h : x.map g = .error f) : x = .error f := by
  cases x with
  | error e => cases h; rfl
  | ok a => cases h
theorem writesP_err {n : Nat} : ∀ (k : Nat) (ts : List Tok) (f : Flt), ts.length ≤ k → writesP n ts = .error f → f.2 ≠ 0 := by
  intro k
  induction k with
  | zero =>
    intro ts f hk h
    have : ts = [] := List.eq_nil_of_length_eq_zero (by omega)
    subst this
    rw [writesP] at h; cases h
  | succ k ih =>
    intro ts f hk h
    rcases ts with _ | ⟨t, ts⟩
    · rw [writesP] at h; cases h
    · unfold writesP at h
      split at h
      · cases h
      · split at h
        · rcases ts with _ | ⟨x, ts⟩
          · cases h; simp
          · simp only [] at h
            split at h
            · rcases hw : writesP n ts with e | q
              · rw [hw] at h; cases h
                exact ih ts _ (by simp at hk; omega) hw
              · rw [hw] at h; cases h
            · cases h; simp
        · split at h
          · rcases ts with _ | ⟨x, _ | ⟨z, ts⟩⟩
            · cases h; simp
            · simp only [] at h; split at h <;> (cases h; simp)
            · simp only [] at h
              split at h
              · split at h
                · rcases hw : writesP n ts with e | q
                  · rw [hw] at h; cases h
                    exact ih ts _ (by simp at hk; omega) hw
                  · rw [hw] at h; cases h
                · cases h; simp
              · cases h; simp
          · cases h; simp
theorem keepsP_err {n : Nat} : ∀ (ts : List Tok) (f : Flt), keepsP n ts = .error f → f.2 ≠ 0
  | [], f, h => by rw [keepsP] at h; cases h
  | t :: ts, f, h => by
    rw [keepsP] at h
    rcases hx : numAny n (t :: ts) with e | ⟨v, r⟩
    · rw [hx] at h; cases h; exact num_err hx
    · rw [hx] at h
      simp only [] at h
      rcases hy : keepsP n ts with e | l2
      · rw [hy] at h; cases h; exact keepsP_err ts _ hy
      · rw [hy] at h; cases h
theorem snapP_err {n : Nat} {ts : List Tok} {f : Flt} (h : snapP n ts = .error f) : f.2 ≠ 0 := by
  unfold snapP at h
  rcases ts with _ | ⟨t, ts⟩
  · cases h
  · simp only [] at h
    split at h
    · exact num_err h
    · cases h; simp
theorem opP_err {n : Nat} {nm : Bs} {ts : List Tok} {f : Flt} (h : opP n nm ts = .error f) : f.2 ≠ 0 := by
  unfold opP at h
  split at h
  · exact writesP_err ts.length ts f (Nat.le_refl _) (map_err h)
  · split at h
    · cases h
    · split at h
      · cases h
      · split at h
        · exact num_err (map_err h)
        · split at h
          · rcases hx : txt n ts with e | ⟨k, r1⟩
            · rw [hx] at h; cases h; exact txt_err hx
            · rw [hx] at h; exact snapP_err (map_err h)
          · split at h
            · rcases hx : txt n ts with e | ⟨k, r1⟩
              · rw [hx] at h; cases h; exact txt_err hx
              · rw [hx] at h
                simp only [] at h
                rcases hy : txt n r1 with e | ⟨k2, r2⟩
                · rw [hy] at h; cases h; exact txt_err hy
                · rw [hy] at h
                  simp only [] at h
                  rcases hz : numAny n r2 with e | ⟨k3, r3⟩
                  · rw [hz] at h; cases h; exact num_err hz
                  · rw [hz] at h; exact snapP_err (map_err h)
            · cases h
theorem withFin_err {s : StepS} {ts : List Tok} {f : Flt} (h : withFin s ts = .error f) : f.2 ≠ 0 := fin_err (map_err h)
theorem stepP_err {n : Nat} {nm : Bs} {ts : List Tok} {f : Flt} (h : stepP n nm ts = .error f) : f.2 ≠ 0 := by
  unfold stepP at h
  split at h
  · exact withFin_err h
  · rcases hx : numAny n ts with e | ⟨a, r⟩
    · rw [hx] at h; cases h; exact num_err hx
    · rw [hx] at h
      simp only [] at h
      split at h
      · exact withFin_err h
      · split at h
        · exact withFin_err h
        · split at h
          · exact keepsP_err r f (map_err h)
          · split at h
            · rcases hy : numAny n r with e | ⟨b, r2⟩
              · rw [hy] at h; cases h; exact num_err hy
              · rw [hy] at h
                simp only [] at h
                rcases hz : numAny n r2 with e | ⟨c, r3⟩
                · rw [hz] at h; cases h; exact num_err hz
                · rw [hz] at h; exact withFin_err h
            · rcases ho : opP n nm r with e | ⟨o, r2⟩
              · rw [ho] at h; cases h; exact opP_err ho
              · rw [ho] at h; exact withFin_err h
theorem lineP_err {n : Nat} {ts : List Tok} {st : PSt} {f : Flt} (h : lineP n ts st = .error f) : f.2 ≠ 0 := by
  rcases ts with _ | ⟨t, ts⟩
  · rw [lineP] at h; cases h
  · rw [lineP_cons] at h
    split at h
    · cases h; simp
    · split at h
      · split at h
        · cases h; simp
        · split at h
          · next hn => cases h; exact num_err hn
          · exact fin_err (map_err h)
      · split at h
        · split at h
          · cases h; simp
          · split at h
            · cases h; simp
            · exact fin_err (map_err h)
        · split at h
          · cases h; simp
          · split at h
            · cases h; simp
            · exact stepP_err (map_err h)
theorem linesP_err : ∀ (ls : List Bs) (i : Nat) (st : PSt) (f : Fault), linesP i ls st = .error f → f.2.2 ≠ 0
  | [], i, st, f, h => by rw [linesP] at h; cases h
  | x :: r, i, st, f, h => by
    rw [linesP] at h
    rcases hl : lineP x.length (toks x) st with e | s1
    · rw [hl] at h; cases h; exact lineP_err hl
    · rw [hl] at h; exact linesP_err r (i + 1) s1 f h
theorem parse_err {text : Bs} {f : Fault} (h : parseP text = .error f) : f.2.2 ≠ 0 := by
  unfold parseP at h
  split at h
  · cases h; simp
  · rcases hl : linesP 1 (lines text) ⟨[], none⟩ with e | st
    · rw [hl] at h; cases h; exact linesP_err _ _ _ _ hl
    · rw [hl] at h
      simp only [] at h
      split at h
      · cases h; simp [endOf]
      · cases h

/-- told at what Parse handed back. -/
def foldF (p : Except Fault (List StepS)) : Fault := match p with | .error f => f | .ok _ => (0, 0, 0)
theorem told_parse (w w1 : World) (t : Bs) (x v : Value) (hg : errTypeIs w) (hp : ParsePost w t (.returned (.tuple #[x, v])) w1) :
    Calls Tryz.prog 13 #[v] w1 fun e w' => e = .returned (.tuple #[faultV (foldF (parseP t)), .bool true]) ∧ Mod [] w1 w' := by
  unfold ParsePost at hp
  rcases hq : parseP t with f | l
  · rw [hq] at hp
    obtain ⟨v', he, hmis, hm⟩ := hp
    cases he
    obtain ⟨b, rfl, _, hb⟩ := hmis
    exact told_mis w1 b f (hm.cell hg (by simp)) hb (parse_err hq)
  · rw [hq] at hp
    obtain ⟨v', rs, he, _⟩ := hp
    cases he
    exact told_nil w1
end Go.Proofs.YtjieelmbgfnllaaGreatDoor

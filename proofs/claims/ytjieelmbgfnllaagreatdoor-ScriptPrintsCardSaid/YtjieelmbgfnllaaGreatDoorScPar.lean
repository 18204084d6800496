/- The parser's own state in memory, what may turn under it, and how long a line's lists are. Conditions: none. -/
import Derived.Test.YtjieelmbgfnllaaGreatDoorScList
namespace Go.Proofs.YtjieelmbgfnllaaGreatDoor
open Go.RowKit Scr

/-- Of the blocks below lo those of S alone may have turned. -/
structure Low (lo : Nat) (S : List Nat) (w w' : World) : Prop where
  os : w'.os = w.os
  tape : w'.tape = w.tape
  output : w'.output = w.output
  size : w.heap.size ≤ w'.heap.size
  block : ∀ k, k < lo → k ∉ S → w'.heap[k]? = w.heap[k]?
theorem Low.refl (lo : Nat) (S : List Nat) (w : World) : Low lo S w w := ⟨rfl, rfl, rfl, Nat.le_refl _, fun _ _ _ => rfl⟩
theorem Low.trans {lo : Nat} {S : List Nat} {a w w' : World} (h : Low lo S a w) (k : Low lo S w w') : Low lo S a w' :=
  ⟨k.os.trans h.os, k.tape.trans h.tape, k.output.trans h.output, Nat.le_trans h.size k.size, fun i hi hn => (k.block i hi hn).trans (h.block i hi hn)⟩
theorem Low.mono {lo : Nat} {S S' : List Nat} {w w' : World} (h : Low lo S w w') (hs : ∀ k ∈ S, k ∈ S' ∨ lo ≤ k) : Low lo S' w w' :=
  ⟨h.os, h.tape, h.output, h.size, fun i hi hn => h.block i hi (fun hm => by rcases hs i hm with h1 | h1; exact hn h1; omega)⟩
theorem Mod.low {lo : Nat} {S S' : List Nat} {w w' : World} (h : Mod S w w') (hl : lo ≤ w.heap.size) (hs : ∀ k ∈ S, k ∈ S' ∨ lo ≤ k) : Low lo S' w w' :=
  ⟨h.os, h.tape, h.output, h.size, fun i hi hn => h.block i (by omega) (fun hm => by rcases hs i hm with h1 | h1; exact hn h1; omega)⟩
theorem Low.grown {lo : Nat} {S : List Nat} {a w w' : World} {row : Option Nat} (h : Low lo S a w) (hg : w.grownBy w' row) (hr : ∀ k, row = some k → lo ≤ k) (hl : lo ≤ w.heap.size) : Low lo S a w' :=
  ⟨hg.os.trans h.os, hg.tape.trans h.tape, hg.output.trans h.output, Nat.le_trans h.size hg.size, fun i hi hn => (hg.block i (by omega) (fun e => by have := hr i e.symm; omega)).trans (h.block i hi hn)⟩
theorem Low.setCell {lo : Nat} {S : List Nat} {a w : World} (h : Low lo S a w) {p : Addr} (hp : p.block ∈ S ∨ lo ≤ p.block) (u : Value) : Low lo S a (w.setCell p u) :=
  h.trans ((Mod.refl [p.block] w).setCell (by simp) u |> fun m => ⟨m.os, m.tape, m.output, m.size, fun i hi hn => by
    refine Below.heap_setCell w p u i ?_
    rintro rfl
    rcases hp with hp | hp
    · exact hn hp
    · omega⟩)

/-- Where a repeat's body begins and how often it is done: as the parser keeps it. -/
def RepIs (bg ot : Int) (n : Nat) : Option (Nat × Nat) → Prop
  | none => bg = -1
  | some (b, k) => bg = b ∧ ot = k ∧ b ≤ n ∧ 1 ≤ k ∧ k ≤ 1000
def lenMax : Nat := 1099511627776
def Lens (rs : List RStep) : Prop := ∀ x ∈ rs, x.1.op.writes.length ≤ lenMax ∧ x.1.keep.length ≤ lenMax
/-- The parser in memory. -/
def Par (w : World) (lo p : Nat) (rs : List RStep) (rep : Option (Nat × Nat)) : Prop :=
  ∃ v bg ot, Blk w p 99 #[v, .int .i64 bg, .int .i64 ot] ∧ RepIs bg ot rs.length rep ∧ Rich w lo v rs ∧ Lens rs ∧ rs.length ≤ 20000 ∧ lo ≤ w.heap.size

theorem writesP_len : ∀ (n : Nat) (m : Nat) (ts : List Tok), ts.length ≤ m → ∀ q, writesP n ts = .ok q → q.1.length ≤ ts.length := by
  intro n m
  induction m with
  | zero =>
    intro ts hm q hq
    have : ts = [] := List.eq_nil_of_length_eq_zero (by omega)
    subst this
    rw [writesP] at hq; cases hq; simp
  | succ m ih =>
    intro ts hm q hq
    rcases ts with _ | ⟨t, ts⟩
    · rw [writesP] at hq; cases hq; simp
    · by_cases hbad : ¬ (t.kind = 0 ∧ (t.text = wSync ∨ t.text = wDel ∨ t.text = wPut))
      · rw [writesP_bad hbad] at hq; cases hq
      · obtain ⟨hk, ht | ht | ht⟩ := Classical.not_not.1 hbad
        · rw [writesP_sync hk ht] at hq; cases hq; simp
        · rw [writesP_del hk ht] at hq
          rcases htx : txt n ts with f | ⟨x, ts2⟩
          · rw [htx] at hq; cases hq
          · rw [htx] at hq
            have hl := txt_len htx
            simp only [] at hq
            rcases hw : writesP n ts2 with f | q2
            · rw [hw] at hq; cases hq
            · rw [hw] at hq; cases hq
              have := ih ts2 (by simp at hm; omega) q2 hw
              simp; omega
        · rw [writesP_put hk ht] at hq
          rcases htx : txt n ts with f | ⟨x, ts2⟩
          · rw [htx] at hq; cases hq
          · rw [htx] at hq
            have hl := txt_len htx
            simp only [] at hq
            rcases hty : txt n ts2 with f | ⟨y, ts3⟩
            · rw [hty] at hq; cases hq
            · rw [hty] at hq
              have hl2 := txt_len hty
              simp only [] at hq
              rcases hw : writesP n ts3 with f | q2
              · rw [hw] at hq; cases hq
              · rw [hw] at hq; cases hq
                have := ih ts3 (by simp at hm; omega) q2 hw
                simp; omega
theorem keepsP_len : ∀ (n : Nat) (ts : List Tok) l, keepsP n ts = .ok l → l.length ≤ ts.length
  | n, [], l, h => by rw [keepsP] at h; cases h; simp
  | n, t :: ts, l, h => by
    rw [keepsP] at h
    rcases hx : numAny n (t :: ts) with f | x
    · rw [hx] at h; cases h
    · rw [hx] at h
      simp only [] at h
      rcases hy : keepsP n ts with f | l2
      · rw [hy] at h; cases h
      · rw [hy] at h; cases h
        have := keepsP_len n ts l2 hy
        simp; omega
theorem num_le {n : Nat} {lo hi x : Int} {ts ts2 : List Tok} (h : num n lo hi ts = .ok (x, ts2)) : ts2.length ≤ ts.length := by
  rcases ts with _ | ⟨t, ts⟩
  · cases h
  · have := num_rest h; subst this; simp
theorem except_map_ok {ε α β : Type} {x : Except ε α} {f : α → β} {y : β} (h : x.map f = .ok y) : ∃ a, x = .ok a ∧ y = f a := by
  cases x with
  | error e => cases h
  | ok a => cases h; exact ⟨a, rfl, rfl⟩
theorem opP_len {n : Nat} {nm : Bs} {ts ts' : List Tok} {o : OpS} (h : opP n nm ts = .ok (o, ts')) : o.writes.length ≤ ts.length := by
  unfold opP at h
  split at h
  · obtain ⟨a, ha, he⟩ := except_map_ok h
    cases he
    exact writesP_len n _ ts (Nat.le_refl _) a ha
  · split at h
    · cases h; simp [OpS.zero]
    · split at h
      · cases h; simp [OpS.zero]
      · split at h
        · obtain ⟨a, ha, he⟩ := except_map_ok h
          cases he; simp [OpS.zero]
        · split at h
          · split at h
            · cases h
            · obtain ⟨a, ha, he⟩ := except_map_ok h
              cases he; simp [OpS.zero]
          · split at h
            · split at h
              · cases h
              · split at h
                · cases h
                · split at h
                  · cases h
                  · obtain ⟨a, ha, he⟩ := except_map_ok h
                    cases he; simp [OpS.zero]
            · cases h; simp [OpS.zero]
theorem stepP_len {n : Nat} {nm : Bs} {ts : List Tok} {s : StepS} (h : stepP n nm ts = .ok s) : s.op.writes.length ≤ ts.length ∧ s.keep.length ≤ ts.length := by
  unfold stepP withFin at h
  split at h
  · obtain ⟨a, ha, rfl⟩ := except_map_ok h; simp [StepS.zero, OpS.zero]
  · rcases ha : numAny n ts with f | ⟨x, ts2⟩
    · rw [ha] at h; cases h
    · rw [ha] at h
      have hl := num_le ha
      simp only [] at h
      split at h
      · obtain ⟨a, ha, rfl⟩ := except_map_ok h; simp [StepS.zero, OpS.zero]
      · split at h
        · obtain ⟨a, ha, rfl⟩ := except_map_ok h; simp [StepS.zero, OpS.zero]
        · split at h
          · obtain ⟨a, ha, rfl⟩ := except_map_ok h
            have := keepsP_len n ts2 a ha
            simp [StepS.zero, OpS.zero]; omega
          · split at h
            · split at h
              · cases h
              · split at h
                · cases h
                · obtain ⟨a, ha, rfl⟩ := except_map_ok h; simp [StepS.zero, OpS.zero]
            · rcases ho : opP n nm ts2 with f | ⟨o, ts3⟩
              · rw [ho] at h; cases h
              · rw [ho] at h
                simp only [] at h
                obtain ⟨a, ha, rfl⟩ := except_map_ok h
                have := opP_len ho
                simp [StepS.zero]; omega
end Go.Proofs.YtjieelmbgfnllaaGreatDoor

/- Plain laws on the reading and the printing of steps, without any program. Conditions: none. -/
import Derived.Test.YtjieelmbgfnllaaGreatDoorScSpec
import Derived.Lib.ItoaNum

/- The plain printing of steps, in words of lists alone: no program in sight; and what the law's known text reads and prints as. Conditions: none. -/
namespace Scr

def digs : Bs := [48, 49, 50, 51, 52, 53, 54, 55, 56, 57, 97, 98, 99, 100, 101, 102]
def quoteB (c : UInt8) : Bs :=
  if c = 34 ∨ c = 92 then [92, c]
  else if c.toNat < 32 ∨ 126 < c.toNat then [92, 120, digs.getD (c.toNat / 16) 0, digs.getD (c.toNat % 16) 0]
  else [c]
def quotingL (s : Bs) : Bs := 34 :: (s.flatMap quoteB ++ [34])
def numS (n : Int) : Bs := 32 :: Go.Lib.itoa n
def snapS (n : Int) : Bs := if n = 0 then [] else [32, 115, 110, 97, 112, 32] ++ Go.Lib.itoa n
def wrS (x : Wr) : Bs :=
  if x.del then [32, 100, 101, 108, 32] ++ quotingL x.key
  else [32, 112, 117, 116, 32] ++ quotingL x.key ++ [32] ++ quotingL x.val
def operatedL (o : OpS) (client : Bs) : Bs :=
  if o.kind = 1 then wWrite ++ client ++ o.writes.flatMap wrS ++ (if o.sync then [32, 115, 121, 110, 99] else [])
  else if o.kind = 2 then wSync ++ client
  else if o.kind = 3 then wGet ++ client ++ [32] ++ quotingL o.key ++ snapS o.snap
  else if o.kind = 4 then wScan ++ client ++ [32] ++ quotingL o.key ++ [32] ++ quotingL o.til ++ [32] ++ Go.Lib.itoa o.n ++ snapS o.snap
  else if o.kind = 5 then wSnap ++ client
  else if o.kind = 6 then wRelease ++ client ++ [32] ++ Go.Lib.itoa o.snap
  else []
def shownL (s : StepS) : Bs :=
  if s.kind = 1 then operatedL s.op (numS s.a)
  else if s.kind = 2 then wDo ++ numS s.a
  else if s.kind = 3 then wTick
  else if s.kind = 4 then wFall ++ numS s.a ++ s.keep.flatMap numS
  else if s.kind = 5 then wArm ++ numS s.a
  else if s.kind = 6 then wFail ++ numS s.a ++ [32] ++ Go.Lib.itoa s.b ++ [32] ++ Go.Lib.itoa s.c
  else []
/-- The lines of steps behind a text; none where one has no line or the text grows too long. -/
def bodyL : Bs → List StepS → Option Bs
  | acc, [] => some acc
  | acc, s :: t => if shownL s = [] ∨ 65536 ≤ acc.length + (shownL s).length then none else bodyL (acc ++ shownL s ++ [10]) t
def printP (l : List StepS) : Option Bs :=
  if 20000 < l.length then none
  else match bodyL [] l with
    | none => none
    | some b => match parseP b with
      | .error _ => none
      | .ok again => if again = l then some b else none

theorem bodyL_le : ∀ (l : List StepS) (acc b : Bs), acc.length ≤ 65536 → bodyL acc l = some b → b.length ≤ 65536
  | [], acc, b, ha, h => by rw [bodyL] at h; cases h; exact ha
  | s :: t, acc, b, ha, h => by
    rw [bodyL] at h
    by_cases hc : shownL s = [] ∨ 65536 ≤ acc.length + (shownL s).length
    · rw [if_pos hc] at h; cases h
    · rw [if_neg hc] at h
      refine bodyL_le t _ b ?_ h
      have := not_or.1 hc
      simp; omega
theorem printP_back {l : List StepS} {s : Bs} (h : printP l = some s) : parseP s = .ok l ∧ s.length ≤ 65536 ∧ l.length ≤ 20000 := by
  unfold printP at h
  by_cases hl : 20000 < l.length
  · rw [if_pos hl] at h; cases h
  · rw [if_neg hl] at h
    rcases hb : bodyL [] l with _ | b
    · rw [hb] at h; cases h
    · rw [hb] at h
      simp only [] at h
      rcases hp : parseP b with f | again
      · rw [hp] at h; cases h
      · rw [hp] at h
        simp only [] at h
        by_cases he : again = l
        · rw [if_pos he] at h; cases h; subst he
          exact ⟨hp, bodyL_le again [] s (by simp) hb, by omega⟩
        · rw [if_neg he] at h; cases h

/-- The known text of the laws, its steps, and what they print as. -/
def kText : Bs := "write 0 put \"a\" \"1\" del \"b\\x00\" sync # two\nrepeat 2\ndo 0\ntick\nend\nfall 2 5 -1\n".toUTF8.data.toList
def kSteps : List StepS := [⟨1, 0, 0, 0, ⟨1, [⟨[97], false, [49]⟩, ⟨[98, 0], true, []⟩], true, [], [], 0, 0⟩, []⟩, ⟨2, 0, 0, 0, OpS.zero, []⟩, ⟨3, 0, 0, 0, OpS.zero, []⟩, ⟨2, 0, 0, 0, OpS.zero, []⟩, ⟨3, 0, 0, 0, OpS.zero, []⟩, ⟨4, 2, 0, 0, OpS.zero, [5, -1]⟩]
def kOut : Bs := "write 0 put \"a\" \"1\" del \"b\\x00\" sync\ndo 0\ntick\ndo 0\ntick\nfall 2 5 -1\n".toUTF8.data.toList
theorem known_parse : parseP kText = .ok kSteps := by rfl
theorem out_parse : parseP kOut = .ok kSteps := by rfl
theorem itoa0 : Go.Lib.itoa 0 = [48] := by unfold Go.Lib.itoa; rw [if_neg (by decide), Go.Lib.decDigits_one (by decide)]; rfl
theorem itoa2 : Go.Lib.itoa 2 = [50] := by unfold Go.Lib.itoa; rw [if_neg (by decide), Go.Lib.decDigits_one (by decide)]; rfl
theorem itoa5 : Go.Lib.itoa 5 = [53] := by unfold Go.Lib.itoa; rw [if_neg (by decide), Go.Lib.decDigits_one (by decide)]; rfl
theorem itoaM1 : Go.Lib.itoa (-1) = [45, 49] := by unfold Go.Lib.itoa; rw [if_pos (by decide), Go.Lib.decDigits_one (by decide)]; rfl
theorem known_body : bodyL [] kSteps = some kOut := by
  simp only [bodyL, kSteps, shownL, operatedL, numS, itoa0, itoa2, itoa5, itoaM1, List.flatMap_cons, List.flatMap_nil]
  rfl
theorem known_print : printP kSteps = some kOut := by
  unfold printP
  rw [if_neg (by decide), known_body]
  simp only []
  rw [out_parse]
  simp
end Scr

/- Plain laws on the reading of a text: lines behind, a repeat unfolded. Conditions: none. -/
namespace Scr

theorem linesG_cons (acc : Bs) (c : UInt8) (t : Bs) : linesG acc (c :: t) = if c = 10 then acc :: linesG [] t else linesG (acc ++ [c]) t := by rw [linesG]
theorem linesG_join : ∀ (a acc b : Bs), linesG acc (a ++ 10 :: b) = linesG acc a ++ linesG [] b
  | [], acc, b => by rw [List.nil_append, linesG_cons, if_pos rfl, linesG]; rfl
  | c :: t, acc, b => by
    rw [List.cons_append, linesG_cons, linesG_cons]
    by_cases hc : c = 10
    · rw [if_pos hc, if_pos hc, linesG_join t [] b]; rfl
    · rw [if_neg hc, if_neg hc, linesG_join t _ b]
theorem lines_join (a b : Bs) : lines (a ++ 10 :: b) = lines a ++ lines b := linesG_join a [] b
theorem linesG_count : ∀ (a acc : Bs), (linesG acc a).length = a.count 10 + 1
  | [], acc => by rw [linesG]; rfl
  | c :: t, acc => by
    rw [linesG_cons]
    by_cases hc : c = 10
    · rw [if_pos hc, List.length_cons, linesG_count t [], hc, List.count_cons_self]
    · rw [if_neg hc, linesG_count t _, List.count_cons_of_ne (by simpa using hc)]
theorem lines_count (a : Bs) : (lines a).length = a.count 10 + 1 := linesG_count a []

theorem linesP_join : ∀ (a b : List Bs) (i : Nat) (st : PSt), linesP i (a ++ b) st = match linesP i a st with
    | .error f => .error f
    | .ok st' => linesP (i + a.length) b st'
  | [], b, i, st => by rw [List.nil_append, linesP]; rfl
  | x :: r, b, i, st => by
    rw [List.cons_append, linesP, linesP]
    rcases h : lineP x.length (toks x) st with e | st'
    · rfl
    · simp only []
      rw [linesP_join r b (i + 1) st', List.length_cons, show i + 1 + r.length = i + (r.length + 1) from by omega]

/-- P20.11: lines behind don't bear on the fault, but for one at the text's end. -/
theorem behind_law {text more : Bs} (hlen : text.length + more.length ≤ 60000) {f : Fault} (h : parseP text = .error f) :
    (f.2.2 = 204 ∧ f.1 = text.count 10 + 1) ∨ parseP (text ++ 10 :: more) = .error f := by
  unfold parseP at h ⊢
  rw [if_neg (by omega)] at h
  rw [if_neg (by simp; omega), lines_join, linesP_join]
  rcases hl : linesP 1 (lines text) ⟨[], none⟩ with e | st
  · rw [hl] at h
    simp only [] at h ⊢
    exact .inr h
  · rw [hl] at h
    simp only [] at h
    rcases hr : st.rep with _ | q
    · rw [hr] at h; cases h
    · rw [hr] at h
      simp only [] at h
      cases h
      left
      exact ⟨rfl, lines_count text⟩
end Scr

/- Plain law: a repeat of n is its body written n times. Conditions: none. -/
namespace Scr

theorem toksG_infix : ∀ (l : Bs) (p k : Nat), ∀ t ∈ toksG l p k, t.kind = 0 → t.text <:+: l
  | [], _, _, t, h, _ => by rw [toksG] at h; cases h
  | c :: l, p, k + 1, t, h, h0 => by rw [toksG] at h; exact (toksG_infix l (p + 1) k t h h0).trans (List.suffix_cons c l).isInfix
  | c :: l, p, 0, t, h, h0 => by
    rw [toksG] at h
    split at h
    · exact (toksG_infix l (p + 1) 0 t h h0).trans (List.suffix_cons c l).isInfix
    · split at h
      · cases h
      · split at h
        · cases hq : quoteL l with
          | none => rw [hq] at h; simp at h; subst h; simp at h0
          | some x =>
            rw [hq] at h
            rcases List.mem_cons.1 h with rfl | h
            · simp at h0
            · exact (toksG_infix l (p + 1) x.2 t h h0).trans (List.suffix_cons c l).isInfix
        · rcases List.mem_cons.1 h with rfl | h
          · exact (List.takeWhile_prefix _).isInfix
          · exact (toksG_infix l (p + 1) _ t h h0).trans (List.suffix_cons c l).isInfix
theorem linesG_infix : ∀ (l acc x : Bs), x ∈ linesG acc l → x <:+: (acc ++ l)
  | [], acc, x, h => by rw [linesG] at h; simp at h; subst h; simp
  | c :: t, acc, x, h => by
    rw [linesG_cons] at h
    by_cases hc : c = 10
    · rw [if_pos hc] at h
      rcases List.mem_cons.1 h with rfl | h
      · exact (List.prefix_append _ _).isInfix
      · have := linesG_infix t [] x h
        rw [List.nil_append] at this
        exact this.trans ((List.suffix_cons c t).trans (List.suffix_append _ _)).isInfix
    · rw [if_neg hc] at h
      have := linesG_infix t (acc ++ [c]) x h
      simpa using this
/-- No line of a text without the word has it at its head. -/
def Plain (ls : List Bs) : Prop := ∀ x ∈ ls, ∀ t ∈ toks x, t.kind = 0 → t.text ≠ wRepeat
theorem plain_of {body : Bs} (h : ¬ wRepeat <:+: body) : Plain (lines body) := by
  intro x hx t ht hk he
  have h1 := toksG_infix x 0 0 t ht hk
  have h2 := linesG_infix body [] x hx
  rw [List.nil_append] at h2
  exact h (he ▸ h1.trans h2)

/-- The place of an open repeat lies within the steps. -/
def Fit (st : PSt) : Prop := match st.rep with | none => True | some q => q.1 ≤ st.l.length ∧ 1 ≤ q.2
def ahead (p : List StepS) (st : PSt) : PSt := ⟨p ++ st.l, st.rep.map fun q => (p.length + q.1, q.2)⟩

theorem map_ok {ε α β : Type} {x : Except ε α} {f : α → β} {y : β} (h : x.map f = .ok y) : ∃ a, x = .ok a ∧ y = f a := by
  cases x with
  | error e => cases h
  | ok a => cases h; exact ⟨a, rfl, rfl⟩
theorem times_length {α : Type} (k : Nat) (l : List α) : (times k l).length = l.length * k := by
  unfold times; simp [Nat.mul_comm]
theorem num_range {n : Nat} {lo hi x : Int} {ts ts2 : List Tok} (h : num n lo hi ts = .ok (x, ts2)) : lo ≤ x ∧ x ≤ hi := by
  unfold num at h
  rcases ts with _ | ⟨t, ts⟩
  · cases h
  · simp only [] at h
    split at h
    · cases h
    · split at h
      · cases h
      · split at h
        · next hc => cases h; exact ⟨hc.2.1, hc.2.2⟩
        · cases h

theorem lineP_cons (n : Nat) (t : Tok) (ts : List Tok) (st : PSt) : lineP n (t :: ts) st =
    if t.kind ≠ 0 then .error (t.pos, 200)
    else if t.text = wRepeat then
      match st.rep with
      | some _ => .error (t.pos, 200)
      | none =>
        match num n 1 1000 ts with
        | .error e => .error e
        | .ok r => (fin r.2).map fun _ => ⟨st.l, some (st.l.length, r.1.toNat)⟩
    else if t.text = wEnd then
      match st.rep with
      | none => .error (t.pos, 200)
      | some (b, k) =>
        if maxSteps < b + (st.l.length - b) * k then .error (t.pos, 203)
        else (fin ts).map fun _ => ⟨st.l.take b ++ times k (st.l.drop b), none⟩
    else if t.text ∉ names then .error (t.pos, 200)
    else if maxSteps ≤ st.l.length then .error (t.pos, 203)
    else (stepP n t.text ts).map fun s => ⟨st.l ++ [s], st.rep⟩ := rfl

theorem lineP_ahead (p : List StepS) (n : Nat) (ts : List Tok) (st st' : PSt) (h : lineP n ts st = .ok st') (hf : Fit st) :
    Fit st' ∧ st.l.length ≤ st'.l.length ∧ (p.length + st'.l.length ≤ 20000 → lineP n ts (ahead p st) = .ok (ahead p st')) := by
  obtain ⟨l, rep⟩ := st
  rcases ts with _ | ⟨t, ts⟩
  · rw [lineP] at h; cases h
    exact ⟨hf, Nat.le_refl _, fun _ => by rw [lineP]⟩
  · rw [lineP_cons] at h
    by_cases hk : t.kind ≠ 0
    · rw [if_pos hk] at h; cases h
    · rw [if_neg hk] at h
      by_cases h1 : t.text = wRepeat
      · rw [if_pos h1] at h
        rcases rep with _ | q
        · simp only [] at h
          rcases hn : num n 1 1000 ts with e | r
          · rw [hn] at h; cases h
          · rw [hn] at h
            simp only [] at h
            obtain ⟨a, ha, rfl⟩ := map_ok h
            have hr := num_range (x := r.1) (ts2 := r.2) hn
            refine ⟨⟨Nat.le_refl _, by omega⟩, Nat.le_refl _, fun _ => ?_⟩
            simp only [ahead, Option.map_none, Option.map_some]
            rw [lineP_cons, if_neg hk, if_pos h1]
            simp only [hn, ha, Except.map, List.length_append]
        · cases h
      · rw [if_neg h1] at h
        by_cases h2 : t.text = wEnd
        · rw [if_pos h2] at h
          rcases rep with _ | ⟨b, k⟩
          · cases h
          · simp only [] at h
            obtain ⟨hb, hk1⟩ : b ≤ l.length ∧ 1 ≤ k := hf
            by_cases hm : maxSteps < b + (l.length - b) * k
            · rw [if_pos hm] at h; cases h
            · rw [if_neg hm] at h
              obtain ⟨a, ha, rfl⟩ := map_ok h
              have hlen : (l.take b ++ times k (l.drop b)).length = b + (l.length - b) * k := by
                rw [List.length_append, times_length, List.length_take, List.length_drop]; omega
              have hge : l.length - b ≤ (l.length - b) * k := Nat.le_mul_of_pos_right _ (by omega)
              refine ⟨trivial, by simp only [hlen]; omega, fun hs => ?_⟩
              simp only [hlen] at hs
              have hsub : (p ++ l).length - (p.length + b) = l.length - b := by rw [List.length_append]; omega
              have hmm : ¬ maxSteps < p.length + b + ((p ++ l).length - (p.length + b)) * k := by rw [hsub]; simp only [maxSteps]; omega
              simp only [ahead, Option.map_some, Option.map_none]
              rw [lineP_cons, if_neg hk, if_neg h1, if_pos h2]
              simp only []
              rw [if_neg hmm, ha]
              simp only [Except.map]
              rw [List.take_length_add_append, List.drop_length_add_append, List.append_assoc]
        · rw [if_neg h2] at h
          by_cases h3 : t.text ∉ names
          · rw [if_pos h3] at h; cases h
          · rw [if_neg h3] at h
            by_cases h4 : maxSteps ≤ l.length
            · rw [if_pos h4] at h; cases h
            · rw [if_neg h4] at h
              obtain ⟨s, hs, rfl⟩ := map_ok h
              refine ⟨?_, by simp, fun hb => ?_⟩
              · rcases rep with _ | q
                · trivial
                · obtain ⟨q1, q2⟩ : q.1 ≤ l.length ∧ 1 ≤ q.2 := hf
                  exact ⟨by simp; omega, q2⟩
              · simp only [ahead]
                simp only [List.length_append, List.length_cons, List.length_nil] at hb
                have hmm : ¬ maxSteps ≤ (p ++ l).length := by simp only [maxSteps, List.length_append]; omega
                rw [lineP_cons, if_neg hk, if_neg h1, if_neg h2, if_neg h3]
                simp only []
                rw [if_neg hmm, hs]
                simp only [Except.map, List.append_assoc]

theorem linesP_ahead (p : List StepS) : ∀ (ls : List Bs) (i j : Nat) (st st' : PSt), linesP i ls st = .ok st' → Fit st →
    st.l.length ≤ st'.l.length ∧ (p.length + st'.l.length ≤ 20000 → linesP j ls (ahead p st) = .ok (ahead p st'))
  | [], i, j, st, st', h, _ => by rw [linesP] at h; cases h; exact ⟨Nat.le_refl _, fun _ => by rw [linesP]⟩
  | x :: r, i, j, st, st', h, hf => by
    rw [linesP] at h
    rcases hl : lineP x.length (toks x) st with e | s1
    · rw [hl] at h; cases h
    · rw [hl] at h
      simp only [] at h
      obtain ⟨hf1, hle, hgo⟩ := lineP_ahead p _ _ _ _ hl hf
      obtain ⟨hle2, hgo2⟩ := linesP_ahead p r (i + 1) (j + 1) s1 st' h hf1
      refine ⟨by omega, fun hb => ?_⟩
      rw [linesP, hgo (by omega)]
      exact hgo2 hb

/-- Lines without the word repeat, in a repeat's body. -/
theorem linesP_in (q : Nat × Nat) : ∀ (ls : List Bs) (i j : Nat) (l : List StepS) (st' : PSt), Plain ls → linesP i ls ⟨l, none⟩ = .ok st' → st'.rep = none ∧ linesP j ls ⟨l, some q⟩ = .ok ⟨st'.l, some q⟩
  | [], i, j, l, st', _, h => by rw [linesP] at h; cases h; exact ⟨rfl, by rw [linesP]⟩
  | x :: r, i, j, l, st', hp, h => by
    rw [linesP] at h ⊢
    have key : ∀ s1, lineP x.length (toks x) ⟨l, none⟩ = .ok s1 → s1.rep = none ∧ lineP x.length (toks x) ⟨l, some q⟩ = .ok ⟨s1.l, some q⟩ := by
      intro s1 h1
      have hx := hp x (List.mem_cons_self ..)
      rcases ht : toks x with _ | ⟨t, ts⟩
      · rw [ht, lineP] at h1; cases h1; exact ⟨rfl, by rw [lineP]⟩
      · rw [ht] at h1
        rw [lineP_cons] at h1 ⊢
        by_cases hk : t.kind ≠ 0
        · rw [if_pos hk] at h1; cases h1
        · have h2 := hx t (by rw [ht]; exact List.mem_cons_self ..) (by simpa using hk)
          rw [if_neg hk, if_neg h2] at h1 ⊢
          by_cases h3 : t.text = wEnd
          · rw [if_pos h3] at h1; cases h1
          · rw [if_neg h3] at h1 ⊢
            by_cases h4 : t.text ∉ names
            · rw [if_pos h4] at h1; cases h1
            · rw [if_neg h4] at h1 ⊢
              by_cases h5 : maxSteps ≤ l.length
              · rw [if_pos h5] at h1; cases h1
              · rw [if_neg h5] at h1 ⊢
                obtain ⟨s, hs, rfl⟩ := map_ok h1
                exact ⟨rfl, by rw [hs]; rfl⟩
    rcases hl : lineP x.length (toks x) ⟨l, none⟩ with e | s1
    · rw [hl] at h; cases h
    · rw [hl] at h
      simp only [] at h
      obtain ⟨h1, h2⟩ := key s1 hl
      obtain ⟨l1, rep1⟩ := s1
      simp only [] at h1
      subst h1
      rw [h2]
      exact linesP_in q r (i + 1) (j + 1) l1 st' (fun y hy => hp y (List.mem_cons_of_mem _ hy)) h

def count2 (n : Nat) : Bs := if n < 10 then [UInt8.ofNat (48 + n)] else [UInt8.ofNat (48 + n / 10), UInt8.ofNat (48 + n % 10)]
def repLine (n : Nat) : Bs := wRepeat ++ [32] ++ count2 n
theorem rep_line_fin : ∀ n : Fin 21, 1 ≤ n.val → toks (repLine n.val) = [⟨0, 0, wRepeat⟩, ⟨0, 7, count2 n.val⟩] ∧ numL (count2 n.val) = some (n.val : Int) ∧ 10 ∉ repLine n.val := by decide +kernel
theorem end_line : toks wEnd = [⟨0, 0, wEnd⟩] := by decide +kernel

theorem lines_one {l : Bs} (h : 10 ∉ l) : lines l = [l] := by
  have : ∀ (l acc : Bs), 10 ∉ l → linesG acc l = [acc ++ l] := by
    intro l
    induction l with
    | nil => intro acc _; rw [linesG]; simp
    | cons c t ih =>
      intro acc h
      rw [linesG_cons, if_neg (by rintro rfl; exact h (List.mem_cons_self ..)), ih _ (fun hm => h (List.mem_cons_of_mem _ hm))]
      simp
  exact this l [] h

theorem parse_ok {text : Bs} {l : List StepS} (h : parseP text = .ok l) : linesP 1 (lines text) ⟨[], none⟩ = .ok ⟨l, none⟩ := by
  unfold parseP at h
  split at h
  · cases h
  · rcases hl : linesP 1 (lines text) ⟨[], none⟩ with e | st
    · rw [hl] at h; cases h
    · rw [hl] at h
      obtain ⟨l1, rep⟩ := st
      rcases rep with _ | q
      · cases h; rfl
      · cases h
theorem ok_parse {text : Bs} {l : List StepS} (hs : text.length ≤ 65536) (h : linesP 1 (lines text) ⟨[], none⟩ = .ok ⟨l, none⟩) : parseP text = .ok l := by
  unfold parseP
  rw [if_neg (by omega), h]

/-- P20.10: a repeat of n is its body written n times. -/
theorem unfolds_law {a b c : Bs} {x y z : List StepS} {n : Nat} (hlen : a.length + b.length + c.length ≤ 3000) (h1 : 1 ≤ n) (h20 : n ≤ 20) (hx : parseP a = .ok x) (hy : parseP b = .ok y) (hz : parseP c = .ok z)
    (hno : ¬ wRepeat <:+: b) (hfew : x.length + y.length * n + z.length ≤ 20000) :
    parseP (a ++ 10 :: (repLine n ++ 10 :: (b ++ 10 :: (wEnd ++ 10 :: c)))) = .ok (x ++ times n y ++ z) := by
  obtain ⟨ht, hv, hnl⟩ := rep_line_fin ⟨n, by omega⟩ h1
  simp only [] at ht hv hnl
  have hcl : (repLine n).length ≤ 9 := by
    unfold repLine count2
    split <;> simp [wRepeat]
  refine ok_parse (by simp only [List.length_append, List.length_cons, show wEnd.length = 3 from rfl]; omega) ?_
  rw [lines_join, lines_join, lines_join, lines_join, lines_one hnl, lines_one (l := wEnd) (by decide)]
  have hxy : y.length ≤ y.length * n := Nat.le_mul_of_pos_right _ (by omega)
  rw [linesP_join, parse_ok hx]
  simp only [List.cons_append, List.nil_append]
  rw [linesP, ht, lineP_cons, if_neg (by simp), if_pos rfl]
  have hnum : num (repLine n).length 1 1000 [⟨0, 7, count2 n⟩] = .ok ((n : Int), []) := by
    rw [num]
    simp only []
    rw [if_neg (by simp), hv]
    simp only []
    rw [if_pos ⟨trivial, by omega, by omega⟩]
  rw [hnum]
  simp only [fin, Except.map]
  rw [linesP_join]
  obtain ⟨_, hb⟩ := linesP_ahead x (lines b) 1 1 ⟨[], none⟩ ⟨y, none⟩ (parse_ok hy) trivial
  have hb2 := hb (by simp only []; omega)
  simp only [ahead, Option.map_none, List.append_nil] at hb2
  obtain ⟨_, hb3⟩ := linesP_in (x.length, n) (lines b) 1 (1 + (lines a).length + 1) x ⟨x ++ y, none⟩ (plain_of hno) hb2
  rw [show ((n : Int)).toNat = n from by omega, hb3]
  simp only []
  rw [linesP, end_line, lineP_cons, if_neg (by simp), if_neg (by decide), if_pos rfl]
  simp only []
  have hsub : (x ++ y).length - x.length = y.length := by rw [List.length_append]; omega
  have hmm : ¬ maxSteps < x.length + ((x ++ y).length - x.length) * n := by rw [hsub]; simp only [maxSteps]; omega
  rw [if_neg hmm]
  simp only [fin, Except.map]
  rw [List.take_left, List.drop_left]
  obtain ⟨_, hc⟩ := linesP_ahead (x ++ times n y) (lines c) 1 (1 + (lines a).length + 1 + (lines b).length + 1) ⟨[], none⟩ ⟨z, none⟩ (parse_ok hz) trivial
  have hc2 := hc (by simp only [List.length_append, times_length]; omega)
  simp only [ahead, Option.map_none, List.append_nil] at hc2
  exact hc2
end Scr

/- Plain law: what a line says hangs on the kinds and the texts of its things, not on where they stand. Conditions: none. -/
namespace Scr

def kt (t : Tok) : Nat × Bs := (t.kind, t.text)
def Same (a b : List Tok) : Prop := a.map kt = b.map kt
theorem Same.nil {b : List Tok} (h : Same [] b) : b = [] := by
  unfold Same at h; simp at h; exact h
theorem Same.cons {t : Tok} {a b : List Tok} (h : Same (t :: a) b) : ∃ u c, b = u :: c ∧ u.kind = t.kind ∧ u.text = t.text ∧ Same a c := by
  unfold Same at h
  rcases b with _ | ⟨u, c⟩
  · simp at h
  · simp only [List.map_cons, List.cons.injEq, kt, Prod.mk.injEq] at h
    exact ⟨u, c, rfl, h.1.1.symm, h.1.2.symm, h.2⟩

theorem num_same {n m : Nat} {lo hi v : Int} {a b r : List Tok} (h : num n lo hi a = .ok (v, r)) (hs : Same a b) : ∃ r', num m lo hi b = .ok (v, r') ∧ Same r r' := by
  rcases a with _ | ⟨t, a⟩
  · cases h
  · obtain ⟨u, c, rfl, hk, ht, hr⟩ := hs.cons
    unfold num at h ⊢
    simp only [] at h ⊢
    rw [hk, ht]
    by_cases h2 : t.kind = 2
    · rw [if_pos h2] at h; cases h
    · rw [if_neg h2] at h ⊢
      rcases hv : numL t.text with _ | x
      · rw [hv] at h; cases h
      · rw [hv] at h
        simp only [] at h ⊢
        by_cases hc : t.kind = 0 ∧ lo ≤ x ∧ x ≤ hi
        · rw [if_pos hc] at h ⊢
          cases h
          exact ⟨c, rfl, hr⟩
        · rw [if_neg hc] at h; cases h
theorem txt_same {n m : Nat} {v : Bs} {a b r : List Tok} (h : txt n a = .ok (v, r)) (hs : Same a b) : ∃ r', txt m b = .ok (v, r') ∧ Same r r' := by
  rcases a with _ | ⟨t, a⟩
  · cases h
  · obtain ⟨u, c, rfl, hk, ht, hr⟩ := hs.cons
    unfold txt at h ⊢
    simp only [] at h ⊢
    rw [hk, ht]
    by_cases h2 : t.kind = 1
    · rw [if_pos h2] at h ⊢; cases h; exact ⟨c, rfl, hr⟩
    · rw [if_neg h2] at h; cases h
theorem fin_same {a b : List Tok} {x : Unit} (h : fin a = .ok x) (hs : Same a b) : fin b = .ok () := by
  rcases a with _ | ⟨t, a⟩
  · rw [hs.nil]; rfl
  · cases h
theorem writesP_same {n m : Nat} : ∀ (k : Nat) (a b r : List Tok) (l : List Wr) (sy : Bool), a.length ≤ k → writesP n a = .ok (l, sy, r) → Same a b → ∃ r', writesP m b = .ok (l, sy, r') ∧ Same r r' := by
  intro k
  induction k with
  | zero =>
    intro a b r l sy hk h hs
    have : a = [] := List.eq_nil_of_length_eq_zero (by omega)
    subst this
    rw [hs.nil, writesP] at *
    cases h
    exact ⟨[], rfl, rfl⟩
  | succ k ih =>
    intro a b r l sy hk h hs
    rcases a with _ | ⟨t, a⟩
    · rw [hs.nil]
      rw [writesP] at h ⊢
      cases h
      exact ⟨[], rfl, rfl⟩
    · obtain ⟨u, c, rfl, hk1, ht1, hr⟩ := hs.cons
      unfold writesP at h ⊢
      simp only [hk1, ht1] at h ⊢
      by_cases h1 : t.kind = 0 ∧ t.text = wSync
      · rw [if_pos h1] at h ⊢; cases h; exact ⟨c, rfl, hr⟩
      · rw [if_neg h1] at h ⊢
        by_cases h2 : t.kind = 0 ∧ t.text = wDel
        · rw [if_pos h2] at h ⊢
          rcases a with _ | ⟨x, a⟩
          · cases h
          · obtain ⟨y, d, rfl, hk2, ht2, hr2⟩ := hr.cons
            simp only [hk2, ht2] at h ⊢
            by_cases h3 : x.kind = 1
            · rw [if_pos h3] at h ⊢
              rcases hw : writesP n a with e | ⟨l2, sy2, r2⟩
              · rw [hw] at h; cases h
              · rw [hw] at h
                cases h
                obtain ⟨r3, h4, h5⟩ := ih a d r l2 sy (by simp at hk; omega) hw hr2
                rw [h4]
                exact ⟨r3, rfl, h5⟩
            · rw [if_neg h3] at h; cases h
        · rw [if_neg h2] at h ⊢
          by_cases h3 : t.kind = 0 ∧ t.text = wPut
          · rw [if_pos h3] at h ⊢
            rcases a with _ | ⟨x, _ | ⟨z, a⟩⟩
            · cases h
            · simp only [] at h
              split at h <;> cases h
            · obtain ⟨y, d, rfl, hk2, ht2, hr2⟩ := hr.cons
              obtain ⟨y2, d2, rfl, hk3, ht3, hr3⟩ := hr2.cons
              simp only [hk2, ht2, hk3, ht3] at h ⊢
              by_cases h4 : x.kind = 1
              · rw [if_pos h4] at h ⊢
                by_cases h5 : z.kind = 1
                · rw [if_pos h5] at h ⊢
                  rcases hw : writesP n a with e | ⟨l2, sy2, r2⟩
                  · rw [hw] at h; cases h
                  · rw [hw] at h
                    cases h
                    obtain ⟨r3, h4, h5⟩ := ih a d2 r l2 sy (by simp at hk; omega) hw hr3
                    rw [h4]
                    exact ⟨r3, rfl, h5⟩
                · rw [if_neg h5] at h; cases h
              · rw [if_neg h4] at h; cases h
          · rw [if_neg h3] at h; cases h
theorem keepsP_same {n m : Nat} : ∀ (a b : List Tok) (l : List Int), keepsP n a = .ok l → Same a b → keepsP m b = .ok l
  | [], b, l, h, hs => by rw [hs.nil]; rw [keepsP] at h ⊢; exact h
  | t :: a, b, l, h, hs => by
    obtain ⟨u, c, rfl, hk, ht, hr⟩ := hs.cons
    rw [keepsP] at h ⊢
    rcases hx : numAny n (t :: a) with e | ⟨v, r⟩
    · rw [hx] at h; cases h
    · rw [hx] at h
      simp only [] at h
      obtain ⟨r', h1, _⟩ := num_same (m := m) (b := u :: c) hx hs
      unfold numAny
      rw [h1]
      simp only []
      rcases hy : keepsP n a with e | l2
      · rw [hy] at h; cases h
      · rw [hy] at h; cases h
        rw [keepsP_same a c l2 hy hr]
theorem snapP_same {n m : Nat} {a b r : List Tok} {x : Int} (h : snapP n a = .ok (x, r)) (hs : Same a b) : ∃ r', snapP m b = .ok (x, r') ∧ Same r r' := by
  rcases a with _ | ⟨t, a⟩
  · rw [hs.nil]; cases h; exact ⟨[], rfl, rfl⟩
  · obtain ⟨u, c, rfl, hk, ht, hr⟩ := hs.cons
    unfold snapP at h ⊢
    simp only [hk, ht] at h ⊢
    by_cases h1 : t.kind = 0 ∧ t.text = wSnap
    · rw [if_pos h1] at h ⊢; exact num_same h hr
    · rw [if_neg h1] at h; cases h
theorem opP_same {n m : Nat} {nm : Bs} {a b r : List Tok} {o : OpS} (h : opP n nm a = .ok (o, r)) (hs : Same a b) : ∃ r', opP m nm b = .ok (o, r') ∧ Same r r' := by
  unfold opP at h ⊢
  by_cases h1 : nm = wWrite
  · rw [if_pos h1] at h ⊢
    obtain ⟨⟨l, sy, r2⟩, h2, h3⟩ := map_ok h
    cases h3
    obtain ⟨r', h4, h5⟩ := writesP_same (m := m) a.length a b _ l sy (Nat.le_refl _) h2 hs
    rw [h4]; exact ⟨r', rfl, h5⟩
  · rw [if_neg h1] at h ⊢
    by_cases h1 : nm = wSync
    · rw [if_pos h1] at h ⊢; cases h; exact ⟨b, rfl, hs⟩
    · rw [if_neg h1] at h ⊢
      by_cases h1 : nm = wSnap
      · rw [if_pos h1] at h ⊢; cases h; exact ⟨b, rfl, hs⟩
      · rw [if_neg h1] at h ⊢
        by_cases h1 : nm = wRelease
        · rw [if_pos h1] at h ⊢
          obtain ⟨⟨v, r2⟩, h2, h3⟩ := map_ok h
          cases h3
          obtain ⟨r', h4, h5⟩ := num_same (m := m) h2 hs
          unfold numAny
          rw [h4]; exact ⟨r', rfl, h5⟩
        · rw [if_neg h1] at h ⊢
          by_cases h1 : nm = wGet
          · rw [if_pos h1] at h ⊢
            rcases hx : txt n a with e | ⟨k, r1⟩
            · rw [hx] at h; cases h
            · rw [hx] at h
              simp only [] at h
              obtain ⟨r1', h4, h5⟩ := txt_same (m := m) hx hs
              rw [h4]
              simp only []
              obtain ⟨⟨v, r2⟩, h2, h3⟩ := map_ok h
              cases h3
              obtain ⟨r', h6, h7⟩ := snapP_same (m := m) h2 h5
              rw [h6]; exact ⟨r', rfl, h7⟩
          · rw [if_neg h1] at h ⊢
            by_cases h1 : nm = wScan
            · rw [if_pos h1] at h ⊢
              rcases hx : txt n a with e | ⟨k, r1⟩
              · rw [hx] at h; cases h
              · rw [hx] at h
                simp only [] at h
                obtain ⟨r1', h4, h5⟩ := txt_same (m := m) hx hs
                rw [h4]
                simp only []
                rcases hy : txt n r1 with e | ⟨k2, r2⟩
                · rw [hy] at h; cases h
                · rw [hy] at h
                  simp only [] at h
                  obtain ⟨r2', h6, h7⟩ := txt_same (m := m) hy h5
                  rw [h6]
                  simp only []
                  rcases hz : numAny n r2 with e | ⟨k3, r3⟩
                  · rw [hz] at h; cases h
                  · rw [hz] at h
                    simp only [] at h
                    obtain ⟨r3', h8, h9⟩ := num_same (m := m) hz h7
                    unfold numAny
                    rw [h8]
                    simp only []
                    obtain ⟨⟨v, r4⟩, h2, h3⟩ := map_ok h
                    cases h3
                    obtain ⟨r', h10, h11⟩ := snapP_same (m := m) h2 h9
                    rw [h10]; exact ⟨r', rfl, h11⟩
            · rw [if_neg h1] at h ⊢; cases h; exact ⟨b, rfl, hs⟩
theorem withFin_same {a b : List Tok} {s s' : StepS} (h : withFin s a = .ok s') (hs : Same a b) : withFin s b = .ok s' := by
  unfold withFin at h ⊢
  obtain ⟨x, h1, rfl⟩ := map_ok h
  rw [fin_same h1 hs]; rfl
theorem stepP_same {n m : Nat} {nm : Bs} {a b : List Tok} {s : StepS} (h : stepP n nm a = .ok s) (hs : Same a b) : stepP m nm b = .ok s := by
  unfold stepP at h ⊢
  by_cases h0 : nm = wTick
  · rw [if_pos h0] at h ⊢; exact withFin_same h hs
  · rw [if_neg h0] at h ⊢
    rcases hx : numAny n a with e | ⟨v, r⟩
    · rw [hx] at h; cases h
    · rw [hx] at h
      simp only [] at h
      obtain ⟨r', h1, h2⟩ := num_same (m := m) hx hs
      have h1' : numAny m b = .ok (v, r') := h1
      rw [h1']
      simp only []
      by_cases h3 : nm = wDo
      · rw [if_pos h3] at h ⊢; exact withFin_same h h2
      · rw [if_neg h3] at h ⊢
        by_cases h4 : nm = wArm
        · rw [if_pos h4] at h ⊢; exact withFin_same h h2
        · rw [if_neg h4] at h ⊢
          by_cases h5 : nm = wFall
          · rw [if_pos h5] at h ⊢
            obtain ⟨l, h6, rfl⟩ := map_ok h
            rw [keepsP_same (m := m) r r' l h6 h2]; rfl
          · rw [if_neg h5] at h ⊢
            by_cases h6 : nm = wFail
            · rw [if_pos h6] at h ⊢
              rcases hy : numAny n r with e | ⟨v2, r2⟩
              · rw [hy] at h; cases h
              · rw [hy] at h
                simp only [] at h
                obtain ⟨r2', h7, h8⟩ := num_same (m := m) hy h2
                have h7' : numAny m r' = .ok (v2, r2') := h7
                rw [h7']
                simp only []
                rcases hz : numAny n r2 with e | ⟨v3, r3⟩
                · rw [hz] at h; cases h
                · rw [hz] at h
                  simp only [] at h
                  obtain ⟨r3', h9, h10⟩ := num_same (m := m) hz h8
                  have h9' : numAny m r2' = .ok (v3, r3') := h9
                  rw [h9']
                  exact withFin_same h h10
            · rw [if_neg h6] at h ⊢
              rcases ho : opP n nm r with e | ⟨o, r2⟩
              · rw [ho] at h; cases h
              · rw [ho] at h
                simp only [] at h
                obtain ⟨r2', h7, h8⟩ := opP_same (m := m) ho h2
                rw [h7]
                exact withFin_same h h8
theorem lineP_same {n m : Nat} {a b : List Tok} {st st' : PSt} (h : lineP n a st = .ok st') (hs : Same a b) : lineP m b st = .ok st' := by
  rcases a with _ | ⟨t, a⟩
  · rw [hs.nil]; rw [lineP] at h ⊢; exact h
  · obtain ⟨u, c, rfl, hk, ht, hr⟩ := hs.cons
    rw [lineP_cons] at h ⊢
    rw [hk, ht]
    by_cases h0 : t.kind ≠ 0
    · rw [if_pos h0] at h; cases h
    · rw [if_neg h0] at h ⊢
      by_cases h1 : t.text = wRepeat
      · rw [if_pos h1] at h ⊢
        rcases hrp : st.rep with _ | q
        · rw [hrp] at h
          simp only [] at h ⊢
          rcases hn : num n 1 1000 a with e | ⟨v, r⟩
          · rw [hn] at h; cases h
          · rw [hn] at h
            simp only [] at h
            obtain ⟨r', h3, h4⟩ := num_same (m := m) hn hr
            rw [h3]
            simp only []
            obtain ⟨x, h5, rfl⟩ := map_ok h
            rw [fin_same h5 h4]; rfl
        · rw [hrp] at h; cases h
      · rw [if_neg h1] at h ⊢
        by_cases h2 : t.text = wEnd
        · rw [if_pos h2] at h ⊢
          rcases hrp : st.rep with _ | ⟨q1, q2⟩
          · rw [hrp] at h; cases h
          · rw [hrp] at h
            simp only [] at h ⊢
            by_cases h3 : maxSteps < q1 + (st.l.length - q1) * q2
            · rw [if_pos h3] at h; cases h
            · rw [if_neg h3] at h ⊢
              obtain ⟨x, h5, rfl⟩ := map_ok h
              rw [fin_same h5 hr]; rfl
        · rw [if_neg h2] at h ⊢
          by_cases h3 : t.text ∉ names
          · rw [if_pos h3] at h; cases h
          · rw [if_neg h3] at h ⊢
            by_cases h4 : maxSteps ≤ st.l.length
            · rw [if_pos h4] at h; cases h
            · rw [if_neg h4] at h ⊢
              obtain ⟨s, h5, rfl⟩ := map_ok h
              rw [stepP_same (m := m) h5 hr]; rfl
/-- Lines with the same things line by line read alike. -/
theorem linesP_same : ∀ (a b : List Bs) (i j : Nat) (st st' : PSt), linesP i a st = .ok st' → a.length = b.length → (∀ (k : Nat) (x y : Bs), a[k]? = some x → b[k]? = some y → Same (toks x) (toks y)) → linesP j b st = .ok st'
  | [], b, i, j, st, st', h, hl, _ => by
    have : b = [] := List.eq_nil_of_length_eq_zero (by simpa using hl.symm)
    subst this; rw [linesP] at h ⊢; exact h
  | x :: r, [], i, j, st, st', h, hl, _ => by simp at hl
  | x :: r, y :: r', i, j, st, st', h, hl, hs => by
    rw [linesP] at h ⊢
    rcases h1 : lineP x.length (toks x) st with e | s1
    · rw [h1] at h; cases h
    · rw [h1] at h
      simp only [] at h
      rw [lineP_same (m := y.length) h1 (hs 0 x y rfl rfl)]
      exact linesP_same r r' (i + 1) (j + 1) s1 st' h (by simpa using hl) (fun k a b ha hb => hs (k + 1) a b (by simpa using ha) (by simpa using hb))
end Scr

/- Plain law: the things of a printed line; a printed number and a printed text read as they were. Conditions: none. -/
namespace Scr

/-- The kinds and texts of the things of a line. -/
def kts (l : Bs) (k : Nat) : List (Nat × Bs) := (toksG l 0 k).map kt
theorem kts_pos : ∀ (l : Bs) (p q k : Nat), (toksG l p k).map kt = (toksG l q k).map kt
  | [], p, q, k => by rw [toksG, toksG]
  | c :: t, p, q, k + 1 => by rw [toksG, toksG]; exact kts_pos t _ _ _
  | c :: t, p, q, 0 => by
    rw [toksG, toksG]
    by_cases h1 : isBlank c = true
    · rw [if_pos h1, if_pos h1]; exact kts_pos t _ _ _
    · rw [if_neg h1, if_neg h1]
      by_cases h2 : c = 35
      · rw [if_pos h2, if_pos h2]
      · rw [if_neg h2, if_neg h2]
        by_cases h3 : c = 34
        · rw [if_pos h3, if_pos h3]
          cases quoteL t with
          | none => rfl
          | some x => simp only [List.map_cons, kt]; rw [kts_pos t (p + 1) (q + 1) x.2]
        · rw [if_neg h3, if_neg h3]
          simp only [List.map_cons, kt]; rw [kts_pos t (p + 1) (q + 1) _]
theorem kts_drop : ∀ (l : Bs) (k : Nat), kts l k = kts (l.drop k) 0
  | [], k => by unfold kts; simp [toksG]
  | c :: t, 0 => rfl
  | c :: t, k + 1 => by
    unfold kts
    rw [toksG, List.drop_succ_cons, kts_pos t _ 0 k]
    exact kts_drop t k
theorem kts_nil : kts [] 0 = [] := rfl
theorem kts_blank {c : UInt8} (h : isBlank c = true) (t : Bs) : kts (c :: t) 0 = kts t 0 := by
  unfold kts; rw [toksG, if_pos h]; exact kts_pos t _ 0 0
theorem kts_sp (t : Bs) : kts (32 :: t) 0 = kts t 0 := kts_blank (by decide) t
theorem kts_hash (t : Bs) : kts (35 :: t) 0 = [] := by
  unfold kts; rw [toksG, if_neg (by decide), if_pos rfl]; rfl
/-- A word ahead of a stop or of the end. -/
theorem takeWhile_word : ∀ (w r : Bs), (∀ c ∈ w, isStop c = false) → (r = [] ∨ ∃ c t, r = c :: t ∧ isStop c = true) → (w ++ r).takeWhile (fun d => !isStop d) = w
  | [], r, _, hr => by
    rcases hr with rfl | ⟨c, t, rfl, hc⟩
    · rfl
    · simp [hc]
  | c :: w, r, hw, hr => by
    rw [List.cons_append, List.takeWhile_cons, hw c (List.mem_cons_self ..)]
    simp only [Bool.not_false, if_true]
    rw [takeWhile_word w r (fun d hd => hw d (List.mem_cons_of_mem _ hd)) hr]
theorem kts_word {w r : Bs} (hw : ∀ c ∈ w, isStop c = false) (hne : w ≠ []) (hr : r = [] ∨ ∃ c t, r = c :: t ∧ isStop c = true) : kts (w ++ r) 0 = (0, w) :: kts r 0 := by
  rcases w with _ | ⟨c, w⟩
  · exact absurd rfl hne
  · have hc := hw c (List.mem_cons_self ..)
    have h1 : ¬ isBlank c = true := by
      intro h; unfold isBlank at h; unfold isStop at hc; simp at h hc; rcases h with h | h <;> simp [h] at hc
    have h2 : c ≠ 35 := by rintro rfl; simp [isStop] at hc
    have h3 : c ≠ 34 := by rintro rfl; simp [isStop] at hc
    unfold kts
    rw [List.cons_append, toksG, if_neg h1, if_neg h2, if_neg h3]
    have ht := takeWhile_word (c :: w) r hw hr
    have ht2 := takeWhile_word w r (fun d hd => hw d (List.mem_cons_of_mem _ hd)) hr
    rw [List.cons_append] at ht
    rw [ht, ht2]
    simp only [List.map_cons, kt]
    rw [kts_pos (w ++ r) _ 0 w.length]
    have := kts_drop (w ++ r) w.length
    rw [List.drop_left] at this
    unfold kts at this
    rw [this]

/-- The quoted form reads as the text. -/
theorem hexv_digs : ∀ n : Fin 16, hexv (digs.getD n.val 0) = some n.val := by decide
theorem quoteL_cons (c : UInt8) (t : Bs) : quoteL (c :: t) =
    if c = 34 then some ([], 1)
    else if c.toNat < 32 ∨ 126 < c.toNat then none
    else if c ≠ 92 then (quoteL t).map fun p => (c :: p.1, p.2 + 1)
    else match t with
      | [] => none
      | d :: u =>
        if d = 34 ∨ d = 92 then (quoteL u).map fun p => (d :: p.1, p.2 + 2)
        else if d = 120 then
          match u with
          | a :: b :: v =>
            match hexv a, hexv b with
            | some x, some y => (quoteL v).map fun p => (UInt8.ofNat (16 * x + y) :: p.1, p.2 + 4)
            | _, _ => none
          | _ => none
        else none := by rw [quoteL.eq_def]; rfl
theorem quoteL_plain {c : UInt8} (t : Bs) (h1 : c ≠ 34) (h2 : ¬ (c.toNat < 32 ∨ 126 < c.toNat)) (h3 : c ≠ 92) : quoteL (c :: t) = (quoteL t).map fun p => (c :: p.1, p.2 + 1) := by
  rw [quoteL_cons, if_neg h1, if_neg h2, if_pos h3]
theorem quoteL_back {d : UInt8} (t : Bs) (h : d = 34 ∨ d = 92) : quoteL (92 :: d :: t) = (quoteL t).map fun p => (d :: p.1, p.2 + 2) := by
  rw [quoteL_cons, if_neg (by decide), if_neg (by decide), if_neg (by decide)]
  simp only []
  rw [if_pos h]
theorem quoteL_hex {a b : UInt8} {x y : Nat} (t : Bs) (ha : hexv a = some x) (hb : hexv b = some y) : quoteL (92 :: 120 :: a :: b :: t) = (quoteL t).map fun p => (UInt8.ofNat (16 * x + y) :: p.1, p.2 + 4) := by
  rw [quoteL_cons, if_neg (by decide), if_neg (by decide), if_neg (by decide)]
  simp only []
  rw [if_neg (by decide), if_pos trivial, ha, hb]
theorem quoteB_read (c : UInt8) (t : Bs) : quoteL (quoteB c ++ t) = (quoteL t).map fun p => (c :: p.1, p.2 + (quoteB c).length) := by
  unfold quoteB
  by_cases h1 : c = 34 ∨ c = 92
  · rw [if_pos h1]; exact quoteL_back t h1
  · rw [if_neg h1]
    by_cases h2 : c.toNat < 32 ∨ 126 < c.toNat
    · rw [if_pos h2]
      have hc : c.toNat < 256 := c.toNat_lt
      have ha := hexv_digs ⟨c.toNat / 16, by omega⟩
      have hb := hexv_digs ⟨c.toNat % 16, by omega⟩
      simp only [List.cons_append, List.nil_append]
      rw [quoteL_hex t ha hb]
      have : UInt8.ofNat (16 * (c.toNat / 16) + c.toNat % 16) = c := by
        rw [show 16 * (c.toNat / 16) + c.toNat % 16 = c.toNat from by omega]; exact UInt8.ofNat_toNat
      simp only [this]
      rfl
    · rw [if_neg h2]
      exact quoteL_plain t (fun h => h1 (.inl h)) h2 (fun h => h1 (.inr h))
theorem quoting_read : ∀ (s r : Bs), quoteL (s.flatMap quoteB ++ 34 :: r) = some (s, (s.flatMap quoteB).length + 1)
  | [], r => by rw [List.flatMap_nil, List.nil_append, quoteL_cons, if_pos rfl]; rfl
  | c :: s, r => by
    rw [List.flatMap_cons, List.append_assoc, quoteB_read, quoting_read s r]
    simp only [Option.map_some, List.length_append]
    congr 2; omega
theorem kts_quoting (s r : Bs) : kts (quotingL s ++ r) 0 = (1, s) :: kts r 0 := by
  unfold quotingL
  rw [List.cons_append, List.append_assoc, List.cons_append, List.nil_append]
  have hq := quoting_read s r
  have hd := kts_drop (s.flatMap quoteB ++ 34 :: r) ((s.flatMap quoteB).length + 1)
  rw [← List.drop_drop, List.drop_left, List.drop_succ_cons, List.drop_zero] at hd
  rw [← hd]
  unfold kts
  rw [toksG, if_neg (by decide), if_neg (by decide), if_pos rfl, hq]
  simp only [List.map_cons, kt]
  rw [kts_pos _ (0 + 1) 0 _]

/-- A printed number reads as the number. -/
theorem decDigits_small {u : Nat} (h : u < 10) : Go.Lib.decDigits u = [UInt8.ofNat (48 + u)] := Go.Lib.decDigits_one h
theorem decDigits_big {u : Nat} (h : ¬ u < 10) : Go.Lib.decDigits u = Go.Lib.decDigits (u / 10) ++ [UInt8.ofNat (48 + u % 10)] := by rw [Go.Lib.decDigits, dif_neg h]
theorem digit_fin : ∀ d : Fin 10, isDig (UInt8.ofNat (48 + d.val)) = true ∧ (UInt8.ofNat (48 + d.val)).toNat - 48 = d.val := by decide
theorem dec_dig (u : Nat) : (Go.Lib.decDigits u).all isDig = true := by
  induction u using Nat.strongRecOn with
  | _ u ih =>
    by_cases h : u < 10
    · rw [decDigits_small h, List.all_cons, (digit_fin ⟨u, h⟩).1]; rfl
    · rw [decDigits_big h, List.all_append, ih (u / 10) (by omega)]
      rw [List.all_cons, (digit_fin ⟨u % 10, by omega⟩).1]; rfl
theorem dec_val (u : Nat) : (Go.Lib.decDigits u).foldl digVal 0 = u := by
  induction u using Nat.strongRecOn with
  | _ u ih =>
    by_cases h : u < 10
    · rw [decDigits_small h]
      simp only [List.foldl_cons, List.foldl_nil, digVal, (digit_fin ⟨u, h⟩).2]; omega
    · rw [decDigits_big h, List.foldl_append, ih (u / 10) (by omega)]
      simp only [List.foldl_cons, List.foldl_nil, digVal, (digit_fin ⟨u % 10, by omega⟩).2]; omega
theorem dec_ne (u : Nat) : Go.Lib.decDigits u ≠ [] := by
  by_cases h : u < 10
  · rw [decDigits_small h]; simp
  · rw [decDigits_big h]; simp
theorem dec_head (u : Nat) (hu : u ≠ 0) : (Go.Lib.decDigits u).head? ≠ some 48 := by
  induction u using Nat.strongRecOn with
  | _ u ih =>
    by_cases h : u < 10
    · rw [decDigits_small h]
      have : ∀ d : Fin 10, d.val ≠ 0 → [UInt8.ofNat (48 + d.val)].head? ≠ some (48 : UInt8) := by decide
      exact this ⟨u, h⟩ hu
    · rw [decDigits_big h]
      have h2 := ih (u / 10) (by omega) (by omega)
      rcases hd : Go.Lib.decDigits (u / 10) with _ | ⟨a, b⟩
      · exact absurd hd (dec_ne _)
      · rw [hd] at h2; simpa using h2
theorem dec_len (u : Nat) (k : Nat) (hk : 1 ≤ k) (h : u < 10 ^ k) : (Go.Lib.decDigits u).length ≤ k := by
  induction k generalizing u with
  | zero => omega
  | succ k ih =>
    by_cases h10 : u < 10
    · rw [decDigits_small h10]; simp
    · rw [decDigits_big h10, List.length_append]
      rcases Nat.eq_zero_or_pos k with rfl | hk0
      · simp at h; omega
      · have := ih (u / 10) hk0 (by rw [Nat.pow_succ] at h; omega)
        simp; omega
def Num40 (x : Int) : Prop := -1099511627776 ≤ x ∧ x ≤ 1099511627776
theorem dec_neg_head (u : Nat) : (Go.Lib.decDigits u).head? ≠ some 45 := by
  rcases hd : Go.Lib.decDigits u with _ | ⟨a, b⟩
  · simp
  · have := dec_dig u
    rw [hd] at this
    simp only [List.all_cons, Bool.and_eq_true] at this
    intro h
    simp at h
    subst h
    exact absurd this.1 (by decide)
theorem numL_of {s d : Bs} {neg : Bool} {u : Nat} (hd : (if s.head? = some 45 then s.tail else s) = d) (hn : (s.head? = some 45) ↔ neg = true) (h : d = Go.Lib.decDigits u) (hu : u ≤ maxN) (hz : u = 0 → s = [48]) :
    numL s = some (if neg = true then -(u : Int) else (u : Int)) := by
  subst h
  unfold numL
  simp only [hd]
  have hl : (Go.Lib.decDigits u).length ≤ 13 := dec_len u 13 (by decide) (by unfold maxN at hu; omega)
  rw [if_neg, if_pos (dec_dig u), dec_val u, if_neg (by omega)]
  · by_cases hg : s.head? = some 45
    · rw [if_pos hg, if_pos (hn.1 hg)]
    · rw [if_neg hg, if_neg (fun e => hg (hn.2 e))]
  · rintro (h | h | h)
    · exact dec_ne u h
    · omega
    · by_cases h0 : u = 0
      · exact h.2 (hz h0)
      · exact dec_head u h0 h.1
theorem numL_itoa {x : Int} (h : Num40 x) : numL (Go.Lib.itoa x) = some x := by
  unfold Go.Lib.itoa
  by_cases hx : x < 0
  · rw [if_pos hx]
    have := numL_of (s := 45 :: Go.Lib.decDigits x.natAbs) (d := Go.Lib.decDigits x.natAbs) (neg := true) (u := x.natAbs) (by simp) (by simp) rfl (by unfold maxN; unfold Num40 at h; omega) (by omega)
    rw [this, if_pos rfl]
    congr 1; omega
  · rw [if_neg hx]
    have hh := dec_neg_head x.toNat
    have := numL_of (s := Go.Lib.decDigits x.toNat) (d := Go.Lib.decDigits x.toNat) (neg := false) (u := x.toNat) (by rw [if_neg hh]) (by simp [hh]) rfl (by unfold maxN; unfold Num40 at h; omega) (by intro h0; rw [h0, decDigits_small (by decide)]; rfl)
    rw [this, if_neg (by simp)]
    congr 1; omega
theorem dig_stop {c : UInt8} (h : isDig c = true) : isStop c = false := by
  unfold isDig at h
  simp at h
  unfold isStop
  simp
  refine ⟨⟨⟨?_, ?_⟩, ?_⟩, ?_⟩ <;> (rintro rfl; revert h; decide)
theorem itoa_stop (x : Int) : ∀ c ∈ Go.Lib.itoa x, isStop c = false := by
  intro c hc
  unfold Go.Lib.itoa at hc
  split at hc
  · rcases List.mem_cons.1 hc with rfl | hc
    · decide
    · exact dig_stop (List.all_eq_true.1 (dec_dig _) c hc)
  · exact dig_stop (List.all_eq_true.1 (dec_dig _) c hc)
theorem itoa_ne (x : Int) : Go.Lib.itoa x ≠ [] := by
  unfold Go.Lib.itoa
  split
  · simp
  · exact dec_ne _
/-- What may stand behind a thing: nothing, or a stop. -/
def Halt (r : Bs) : Prop := r = [] ∨ ∃ c t, r = c :: t ∧ isStop c = true
theorem halt_nil : Halt [] := .inl rfl
theorem halt_sp (t : Bs) : Halt (32 :: t) := .inr ⟨32, t, rfl, by decide⟩
theorem kts_num (x : Int) {r : Bs} (hr : Halt r) : kts (32 :: (Go.Lib.itoa x ++ r)) 0 = (0, Go.Lib.itoa x) :: kts r 0 := by
  rw [kts_sp]; exact kts_word (itoa_stop x) (itoa_ne x) hr
end Scr

/- Plain law: what a line says is printed so that it reads as it was; what Parse reads Print writes. Conditions: none. -/
namespace Scr

inductive CanonOp : OpS → Prop
  | write (l : List Wr) (sy : Bool) : (∀ x ∈ l, x.del = true → x.val = []) → CanonOp { OpS.zero with kind := 1, writes := l, sync := sy }
  | sync : CanonOp { OpS.zero with kind := 2 }
  | snap : CanonOp { OpS.zero with kind := 5 }
  | release (n : Int) : Num40 n → CanonOp { OpS.zero with kind := 6, snap := n }
  | get (k : Bs) (n : Int) : Num40 n → CanonOp { OpS.zero with kind := 3, key := k, snap := n }
  | scan (k t : Bs) (m n : Int) : Num40 m → Num40 n → CanonOp { OpS.zero with kind := 4, key := k, til := t, n := m, snap := n }
inductive Canon : StepS → Prop
  | tick : Canon { StepS.zero with kind := 3 }
  | mach (a : Int) : Num40 a → Canon { StepS.zero with kind := 2, a := a }
  | arm (a : Int) : Num40 a → Canon { StepS.zero with kind := 5, a := a }
  | fall (a : Int) (l : List Int) : Num40 a → (∀ x ∈ l, Num40 x) → Canon { StepS.zero with kind := 4, a := a, keep := l }
  | fail (a b c : Int) : Num40 a → Num40 b → Num40 c → Canon { StepS.zero with kind := 6, a := a, b := b, c := c }
  | op (a : Int) (o : OpS) : Num40 a → CanonOp o → Canon { StepS.zero with kind := 1, a := a, op := o }

theorem numAny_in {n : Nat} {x : Int} {ts r : List Tok} (h : numAny n ts = .ok (x, r)) : Num40 x := num_range h
theorem writesP_canon {n : Nat} : ∀ (k : Nat) (ts r : List Tok) (l : List Wr) (sy : Bool), ts.length ≤ k → writesP n ts = .ok (l, sy, r) → ∀ x ∈ l, x.del = true → x.val = [] := by
  intro k
  induction k with
  | zero =>
    intro ts r l sy hk h
    have : ts = [] := List.eq_nil_of_length_eq_zero (by omega)
    subst this
    rw [writesP] at h; cases h; simp
  | succ k ih =>
    intro ts r l sy hk h
    rcases ts with _ | ⟨t, ts⟩
    · rw [writesP] at h; cases h; simp
    · unfold writesP at h
      split at h
      · cases h; simp
      · split at h
        · rcases ts with _ | ⟨x, ts⟩
          · cases h
          · simp only [] at h
            split at h
            · rcases hw : writesP n ts with e | ⟨l2, sy2, r2⟩
              · rw [hw] at h; cases h
              · rw [hw] at h; cases h
                intro y hy hd
                rcases List.mem_cons.1 hy with rfl | hy
                · rfl
                · exact ih ts r l2 sy (by simp at hk; omega) hw y hy hd
            · cases h
        · split at h
          · rcases ts with _ | ⟨x, _ | ⟨z, ts⟩⟩
            · cases h
            · simp only [] at h; split at h <;> cases h
            · simp only [] at h
              split at h
              · split at h
                · rcases hw : writesP n ts with e | ⟨l2, sy2, r2⟩
                  · rw [hw] at h; cases h
                  · rw [hw] at h; cases h
                    intro y hy hd
                    rcases List.mem_cons.1 hy with rfl | hy
                    · cases hd
                    · exact ih ts r l2 sy (by simp at hk; omega) hw y hy hd
                · cases h
              · cases h
          · cases h
theorem keepsP_canon {n : Nat} : ∀ (ts : List Tok) (l : List Int), keepsP n ts = .ok l → ∀ x ∈ l, Num40 x
  | [], l, h => by rw [keepsP] at h; cases h; simp
  | t :: ts, l, h => by
    rw [keepsP] at h
    rcases hx : numAny n (t :: ts) with e | ⟨v, r⟩
    · rw [hx] at h; cases h
    · rw [hx] at h
      simp only [] at h
      rcases hy : keepsP n ts with e | l2
      · rw [hy] at h; cases h
      · rw [hy] at h; cases h
        intro x hm
        rcases List.mem_cons.1 hm with rfl | hm
        · exact numAny_in hx
        · exact keepsP_canon ts l2 hy x hm
theorem snapP_in {n : Nat} {x : Int} {ts r : List Tok} (h : snapP n ts = .ok (x, r)) : Num40 x := by
  unfold snapP at h
  rcases ts with _ | ⟨t, ts⟩
  · cases h; exact ⟨by decide, by decide⟩
  · simp only [] at h
    split at h
    · exact numAny_in h
    · cases h
theorem opP_canon {n : Nat} {nm : Bs} {ts r : List Tok} {o : OpS} (h : opP n nm ts = .ok (o, r)) (hn : nm ∈ [wWrite, wSync, wSnap, wRelease, wGet, wScan]) : CanonOp o := by
  unfold opP at h
  split at h
  · obtain ⟨⟨l, sy, r2⟩, h2, h3⟩ := map_ok h
    cases h3
    exact .write l sy (writesP_canon ts.length ts _ l sy (Nat.le_refl _) h2)
  · split at h
    · cases h; exact .sync
    · split at h
      · cases h; exact .snap
      · split at h
        · obtain ⟨⟨v, r2⟩, h2, h3⟩ := map_ok h
          cases h3
          exact .release v (numAny_in h2)
        · split at h
          · rcases hx : txt n ts with e | ⟨k, r1⟩
            · rw [hx] at h; cases h
            · rw [hx] at h
              obtain ⟨⟨v, r2⟩, h2, h3⟩ := map_ok h
              cases h3
              exact .get k v (snapP_in h2)
          · split at h
            · rcases hx : txt n ts with e | ⟨k, r1⟩
              · rw [hx] at h; cases h
              · rw [hx] at h
                simp only [] at h
                rcases hy : txt n r1 with e | ⟨k2, r2⟩
                · rw [hy] at h; cases h
                · rw [hy] at h
                  simp only [] at h
                  rcases hz : numAny n r2 with e | ⟨k3, r3⟩
                  · rw [hz] at h; cases h
                  · rw [hz] at h
                    obtain ⟨⟨v, r4⟩, h2, h3⟩ := map_ok h
                    cases h3
                    exact .scan k k2 k3 v (numAny_in hz) (snapP_in h2)
            · simp_all
theorem withFin_ok {s s' : StepS} {ts : List Tok} (h : withFin s ts = .ok s') : s' = s := by
  unfold withFin at h
  obtain ⟨x, _, rfl⟩ := map_ok h; rfl
theorem stepP_canon {n : Nat} {nm : Bs} {ts : List Tok} {s : StepS} (h : stepP n nm ts = .ok s) (hn : nm ∈ names) : Canon s := by
  unfold stepP at h
  split at h
  · rw [withFin_ok h]; exact .tick
  · rcases hx : numAny n ts with e | ⟨a, r⟩
    · rw [hx] at h; cases h
    · rw [hx] at h
      have ha := numAny_in hx
      simp only [] at h
      split at h
      · rw [withFin_ok h]; exact .mach a ha
      · split at h
        · rw [withFin_ok h]; exact .arm a ha
        · split at h
          · obtain ⟨l, h2, rfl⟩ := map_ok h
            exact .fall a l ha (keepsP_canon r l h2)
          · split at h
            · rcases hy : numAny n r with e | ⟨b, r2⟩
              · rw [hy] at h; cases h
              · rw [hy] at h
                simp only [] at h
                rcases hz : numAny n r2 with e | ⟨c, r3⟩
                · rw [hz] at h; cases h
                · rw [hz] at h
                  simp only [] at h
                  rw [withFin_ok h]; exact .fail a b c ha (numAny_in hy) (numAny_in hz)
            · rcases ho : opP n nm r with e | ⟨o, r2⟩
              · rw [ho] at h; cases h
              · rw [ho] at h
                simp only [] at h
                rw [withFin_ok h]
                refine .op a o ha (opP_canon ho ?_)
                simp only [names, List.mem_cons, List.not_mem_nil, or_false] at hn ⊢
                rcases hn with h | h | h | h | h | h | h | h | h | h | h <;> first | (exact absurd h (by assumption)) | simp [h]

/-- The things of a printed line. -/
def wrK (x : Wr) : List (Nat × Bs) := if x.del then [(0, wDel), (1, x.key)] else [(0, wPut), (1, x.key), (1, x.val)]
theorem num_kt {n : Nat} {x : Int} {ts : List Tok} {R : List (Nat × Bs)} (h : ts.map kt = (0, Go.Lib.itoa x) :: R) (hx : Num40 x) : ∃ r, numAny n ts = .ok (x, r) ∧ r.map kt = R := by
  rcases ts with _ | ⟨t, ts⟩
  · simp at h
  · simp only [List.map_cons, List.cons.injEq, kt, Prod.mk.injEq] at h
    obtain ⟨⟨hk, ht⟩, hr⟩ := h
    refine ⟨ts, ?_, hr⟩
    unfold numAny num
    simp only []
    rw [hk, ht, if_neg (by decide), numL_itoa hx]
    simp only []
    rw [if_pos ⟨trivial, hx.1, hx.2⟩]
theorem txt_kt {n : Nat} {s : Bs} {ts : List Tok} {R : List (Nat × Bs)} (h : ts.map kt = (1, s) :: R) : ∃ r, txt n ts = .ok (s, r) ∧ r.map kt = R := by
  rcases ts with _ | ⟨t, ts⟩
  · simp at h
  · simp only [List.map_cons, List.cons.injEq, kt, Prod.mk.injEq] at h
    obtain ⟨⟨hk, ht⟩, hr⟩ := h
    refine ⟨ts, ?_, hr⟩
    unfold txt
    simp only []
    rw [hk, ht, if_pos rfl]
theorem fin_kt {ts : List Tok} (h : ts.map kt = []) : fin ts = .ok () := by
  have : ts = [] := by simpa using h
  subst this; rfl
theorem with_kt {ts : List Tok} (s : StepS) (h : ts.map kt = []) : withFin s ts = .ok s := by
  unfold withFin; rw [fin_kt h]; rfl
def syK (sy : Bool) : List (Nat × Bs) := if sy then [(0, wSync)] else []
theorem writes_kt {n : Nat} (sy : Bool) : ∀ (l : List Wr) (ts : List Tok), (∀ x ∈ l, x.del = true → x.val = []) → ts.map kt = l.flatMap wrK ++ syK sy → writesP n ts = .ok (l, sy, [])
  | [], ts, _, h => by
    rw [List.flatMap_nil, List.nil_append] at h
    rcases ts with _ | ⟨t, ts⟩
    · cases sy
      · rw [writesP]
      · simp [syK] at h
    · cases sy
      · simp [syK] at h
      · simp only [syK, if_true, List.map_cons, List.cons.injEq, kt, Prod.mk.injEq, List.map_eq_nil_iff] at h
        obtain ⟨⟨hk, ht⟩, rfl⟩ := h
        unfold writesP
        rw [if_pos ⟨hk, ht⟩]
  | x :: l, ts, hd, h => by
    have ih := fun ts' => writes_kt (n := n) sy l ts' (fun y hy => hd y (List.mem_cons_of_mem _ hy))
    have hx := hd x (List.mem_cons_self ..)
    obtain ⟨key, del, val⟩ := x
    rw [List.flatMap_cons] at h
    cases del
    · simp only [wrK, Bool.false_eq_true, if_false, List.cons_append, List.nil_append] at h
      rcases ts with _ | ⟨t, _ | ⟨u, _ | ⟨v, ts⟩⟩⟩
      · simp at h
      · simp at h
      · simp at h
      · simp only [List.map_cons, List.cons.injEq, kt, Prod.mk.injEq] at h
        obtain ⟨⟨hk, ht⟩, ⟨hk2, ht2⟩, ⟨hk3, ht3⟩, hr⟩ := h
        unfold writesP
        rw [if_neg (by rw [ht]; exact fun h => absurd h.2 (by decide)), if_neg (by rw [ht]; exact fun h => absurd h.2 (by decide)), if_pos ⟨hk, ht⟩]
        simp only []
        rw [if_pos hk2, if_pos hk3, ih ts hr, ht2, ht3]
    · simp only [wrK, if_true, List.cons_append, List.nil_append] at h
      have hv : val = [] := hx rfl
      subst hv
      rcases ts with _ | ⟨t, _ | ⟨u, ts⟩⟩
      · simp at h
      · simp at h
      · simp only [List.map_cons, List.cons.injEq, kt, Prod.mk.injEq] at h
        obtain ⟨⟨hk, ht⟩, ⟨hk2, ht2⟩, hr⟩ := h
        unfold writesP
        rw [if_neg (by rw [ht]; exact fun h => absurd h.2 (by decide)), if_pos ⟨hk, ht⟩]
        simp only []
        rw [if_pos hk2, ih ts hr, ht2]
theorem keeps_kt {n : Nat} : ∀ (l : List Int) (ts : List Tok), (∀ x ∈ l, Num40 x) → ts.map kt = l.map (fun x => (0, Go.Lib.itoa x)) → keepsP n ts = .ok l
  | [], ts, _, h => by
    have : ts = [] := by simpa using h
    subst this; rw [keepsP]
  | x :: l, ts, hl, h => by
    rcases ts with _ | ⟨t, ts⟩
    · simp at h
    · obtain ⟨r, h1, h2⟩ := num_kt (n := n) (ts := t :: ts) (x := x) (R := l.map (fun x => (0, Go.Lib.itoa x))) h (hl x (List.mem_cons_self ..))
      rw [keepsP, h1]
      simp only []
      simp only [List.map_cons, List.cons.injEq] at h
      rw [keeps_kt l ts (fun y hy => hl y (List.mem_cons_of_mem _ hy)) h.2]

theorem kts_w {w r : Bs} (hw : w ∈ wPut :: wDel :: names) (hr : Halt r) : kts (w ++ r) 0 = (0, w) :: kts r 0 := by
  have h1 : ∀ w ∈ wPut :: wDel :: names, w ≠ [] ∧ ∀ c ∈ w, isStop c = false := by decide
  exact kts_word (h1 w hw).2 (h1 w hw).1 hr
theorem wrS_eq (x : Wr) : wrS x = if x.del then 32 :: (wDel ++ 32 :: quotingL x.key) else 32 :: (wPut ++ 32 :: (quotingL x.key ++ 32 :: quotingL x.val)) := by
  unfold wrS
  split
  · simp [wDel]
  · simp [wPut]
theorem kts_wr (x : Wr) (r : Bs) : kts (wrS x ++ r) 0 = wrK x ++ kts r 0 := by
  rw [wrS_eq]
  unfold wrK
  by_cases h : x.del = true
  · rw [if_pos h, if_pos h]
    simp only [List.cons_append, List.append_assoc, List.nil_append]
    rw [kts_sp, kts_w (by decide) (halt_sp _), kts_sp, kts_quoting]
  · rw [if_neg h, if_neg h]
    simp only [List.cons_append, List.append_assoc, List.nil_append]
    rw [kts_sp, kts_w (by decide) (halt_sp _), kts_sp, kts_quoting, kts_sp, kts_quoting]
theorem kts_wrs : ∀ (l : List Wr) (r : Bs), kts (l.flatMap wrS ++ r) 0 = l.flatMap wrK ++ kts r 0
  | [], r => rfl
  | x :: l, r => by rw [List.flatMap_cons, List.flatMap_cons, List.append_assoc, kts_wr, kts_wrs l r, List.append_assoc]
theorem halt_wrs (l : List Wr) {r : Bs} (hr : Halt r) : Halt (l.flatMap wrS ++ r) := by
  rcases l with _ | ⟨x, l⟩
  · exact hr
  · rw [List.flatMap_cons, wrS_eq]
    split <;> exact halt_sp _
theorem halt_nums (l : List Int) : Halt (l.flatMap numS) := by
  rcases l with _ | ⟨x, l⟩
  · exact halt_nil
  · rw [List.flatMap_cons]; exact halt_sp _
theorem kts_nums : ∀ (l : List Int), kts (l.flatMap numS) 0 = l.map (fun x => (0, Go.Lib.itoa x))
  | [] => rfl
  | x :: l => by
    rw [List.flatMap_cons, List.map_cons]
    show kts (32 :: (Go.Lib.itoa x ++ l.flatMap numS)) 0 = _
    rw [kts_num x (halt_nums l), kts_nums l]
def snK (n : Int) : List (Nat × Bs) := if n = 0 then [] else [(0, wSnap), (0, Go.Lib.itoa n)]
theorem snapS_eq (n : Int) : snapS n = if n = 0 then [] else 32 :: (wSnap ++ 32 :: Go.Lib.itoa n) := by
  unfold snapS; split
  · rfl
  · simp [wSnap]
theorem halt_snap (n : Int) : Halt (snapS n) := by
  rw [snapS_eq]; split
  · exact halt_nil
  · exact halt_sp _
theorem kts_snap (n : Int) : kts (snapS n) 0 = snK n := by
  rw [snapS_eq]; unfold snK
  split
  · rfl
  · rw [kts_sp, kts_w (by decide) (halt_sp _)]
    have := kts_num n halt_nil
    rw [List.append_nil] at this
    rw [this]; rfl
theorem snap_kt {n : Nat} {x : Int} {ts : List Tok} (h : ts.map kt = snK x) (hx : Num40 x) : snapP n ts = .ok (x, []) := by
  unfold snK at h
  by_cases h0 : x = 0
  · rw [if_pos h0] at h
    have : ts = [] := by simpa using h
    subst this; subst h0; rfl
  · rw [if_neg h0] at h
    rcases ts with _ | ⟨t, ts⟩
    · simp at h
    · simp only [List.map_cons, List.cons.injEq, kt, Prod.mk.injEq] at h
      obtain ⟨⟨hk, ht⟩, hr⟩ := h
      obtain ⟨r, h1, h2⟩ := num_kt (n := n) (ts := ts) (R := []) hr hx
      have : r = [] := by simpa using h2
      subst this
      unfold snapP
      simp only []
      rw [if_pos ⟨hk, ht⟩, h1]
theorem kts_numE (x : Int) : kts (32 :: Go.Lib.itoa x) 0 = [(0, Go.Lib.itoa x)] := by
  have := kts_num x halt_nil
  rw [List.append_nil] at this
  rw [this]; rfl

/-- The printed operation reads as the operation. -/
theorem op_trip {a : Int} {o : OpS} (ho : CanonOp o) : ∃ nm R, kts (operatedL o (numS a)) 0 = (0, nm) :: (0, Go.Lib.itoa a) :: R ∧ nm ∈ names ∧ nm ≠ wTick ∧ nm ≠ wDo ∧ nm ≠ wArm ∧ nm ≠ wFall ∧ nm ≠ wFail ∧
    ∀ (n : Nat) (ts : List Tok), ts.map kt = R → opP n nm ts = .ok (o, []) := by
  cases ho with
  | write l sy hl =>
    refine ⟨wWrite, l.flatMap wrK ++ syK sy, ?_, by decide, by decide, by decide, by decide, by decide, by decide, ?_⟩
    · simp only [operatedL, if_true, numS, List.append_assoc, List.cons_append]
      have hs : Halt (if sy = true then [32, 115, 121, 110, 99] else ([] : Bs)) := by cases sy; exact halt_nil; exact halt_sp _
      rw [kts_w (by decide) (halt_sp _), kts_num a (halt_wrs l hs), kts_wrs]
      cases sy <;> rfl
    · intro n ts h
      unfold opP
      rw [if_pos rfl, writes_kt sy l ts hl h]; rfl
  | sync =>
    refine ⟨wSync, [], ?_, by decide, by decide, by decide, by decide, by decide, by decide, ?_⟩
    · simp only [operatedL, numS]
      rw [if_neg (by decide), if_pos trivial, kts_w (by decide) (halt_sp _), kts_numE]
    · intro n ts h
      have : ts = [] := by simpa using h
      subst this; rfl
  | snap =>
    refine ⟨wSnap, [], ?_, by decide, by decide, by decide, by decide, by decide, by decide, ?_⟩
    · simp only [operatedL, numS]
      rw [if_neg (by decide), if_neg (by decide), if_neg (by decide), if_neg (by decide), if_pos trivial, kts_w (by decide) (halt_sp _), kts_numE]
    · intro n ts h
      have : ts = [] := by simpa using h
      subst this; rfl
  | release m hm =>
    refine ⟨wRelease, [(0, Go.Lib.itoa m)], ?_, by decide, by decide, by decide, by decide, by decide, by decide, ?_⟩
    · simp only [operatedL, numS, List.append_assoc, List.cons_append, List.nil_append]
      rw [if_neg (by decide), if_neg (by decide), if_neg (by decide), if_neg (by decide), if_neg (by decide), if_pos trivial, kts_w (by decide) (halt_sp _), kts_num a (halt_sp _), kts_numE]
    · intro n ts h
      obtain ⟨r, h1, h2⟩ := num_kt (n := n) h hm
      have : r = [] := by simpa using h2
      subst this
      unfold opP
      rw [if_neg (by decide), if_neg (by decide), if_neg (by decide), if_pos rfl, h1]; rfl
  | get k m hm =>
    refine ⟨wGet, (1, k) :: snK m, ?_, by decide, by decide, by decide, by decide, by decide, by decide, ?_⟩
    · simp only [operatedL, numS, List.append_assoc, List.cons_append, List.nil_append]
      rw [if_neg (by decide), if_neg (by decide), if_pos trivial, kts_w (by decide) (halt_sp _), kts_num a (halt_sp _), kts_sp, kts_quoting, kts_snap]
    · intro n ts h
      obtain ⟨r, h1, h2⟩ := txt_kt (n := n) h
      unfold opP
      rw [if_neg (by decide), if_neg (by decide), if_neg (by decide), if_neg (by decide), if_pos rfl, h1]
      simp only []
      rw [snap_kt h2 hm]; rfl
  | scan k t m q hm hq =>
    refine ⟨wScan, (1, k) :: (1, t) :: (0, Go.Lib.itoa m) :: snK q, ?_, by decide, by decide, by decide, by decide, by decide, by decide, ?_⟩
    · simp only [operatedL, numS, List.append_assoc, List.cons_append, List.nil_append]
      rw [if_neg (by decide), if_neg (by decide), if_neg (by decide), if_pos trivial, kts_w (by decide) (halt_sp _), kts_num a (halt_sp _), kts_sp, kts_quoting, kts_sp, kts_quoting, kts_num m (halt_snap q), kts_snap]
    · intro n ts h
      obtain ⟨r, h1, h2⟩ := txt_kt (n := n) h
      obtain ⟨r2, h3, h4⟩ := txt_kt (n := n) h2
      obtain ⟨r3, h5, h6⟩ := num_kt (n := n) h4 hm
      unfold opP
      rw [if_neg (by decide), if_neg (by decide), if_neg (by decide), if_neg (by decide), if_neg (by decide), if_pos rfl, h1]
      simp only []
      rw [h3]
      simp only []
      rw [h5]
      simp only []
      rw [snap_kt h6 hq]; rfl
/-- The printed step reads as the step. -/
theorem step_trip {s : StepS} (hs : Canon s) : ∃ nm R, kts (shownL s) 0 = (0, nm) :: R ∧ nm ∈ names ∧ ∀ (n : Nat) (ts : List Tok), ts.map kt = R → stepP n nm ts = .ok s := by
  cases hs with
  | tick =>
    refine ⟨wTick, [], by decide, by decide, ?_⟩
    intro n ts h
    unfold stepP
    rw [if_pos rfl, with_kt _ h]
  | mach a ha =>
    refine ⟨wDo, [(0, Go.Lib.itoa a)], ?_, by decide, ?_⟩
    · simp only [shownL, numS]
      rw [if_neg (by decide), if_pos trivial, kts_w (by decide) (halt_sp _), kts_numE]
    · intro n ts h
      obtain ⟨r, h1, h2⟩ := num_kt (n := n) h ha
      unfold stepP
      rw [if_neg (by decide), h1]
      simp only []
      rw [if_pos trivial, with_kt _ h2]
  | arm a ha =>
    refine ⟨wArm, [(0, Go.Lib.itoa a)], ?_, by decide, ?_⟩
    · simp only [shownL, numS]
      rw [if_neg (by decide), if_neg (by decide), if_neg (by decide), if_neg (by decide), if_pos trivial, kts_w (by decide) (halt_sp _), kts_numE]
    · intro n ts h
      obtain ⟨r, h1, h2⟩ := num_kt (n := n) h ha
      unfold stepP
      rw [if_neg (by decide), h1]
      simp only []
      rw [if_neg (by decide), if_pos trivial, with_kt _ h2]
  | fall a l ha hl =>
    refine ⟨wFall, (0, Go.Lib.itoa a) :: l.map (fun x => (0, Go.Lib.itoa x)), ?_, by decide, ?_⟩
    · simp only [shownL, numS, List.append_assoc, List.cons_append]
      rw [if_neg (by decide), if_neg (by decide), if_neg (by decide), if_pos trivial, kts_w (by decide) (halt_sp _)]
      have h1 := halt_nums l
      have h2 := kts_nums l
      rw [kts_num a h1, h2]
    · intro n ts h
      obtain ⟨r, h1, h2⟩ := num_kt (n := n) h ha
      unfold stepP
      rw [if_neg (by decide), h1]
      simp only []
      rw [if_neg (by decide), if_neg (by decide), if_pos trivial, keeps_kt l r hl h2]; rfl
  | fail a b c ha hb hc =>
    refine ⟨wFail, [(0, Go.Lib.itoa a), (0, Go.Lib.itoa b), (0, Go.Lib.itoa c)], ?_, by decide, ?_⟩
    · simp only [shownL, numS, List.append_assoc, List.cons_append, List.nil_append]
      rw [if_neg (by decide), if_neg (by decide), if_neg (by decide), if_neg (by decide), if_neg (by decide), if_pos trivial, kts_w (by decide) (halt_sp _), kts_num a (halt_sp _), kts_num b (halt_sp _), kts_numE]
    · intro n ts h
      obtain ⟨r, h1, h2⟩ := num_kt (n := n) h ha
      obtain ⟨r2, h3, h4⟩ := num_kt (n := n) h2 hb
      obtain ⟨r3, h5, h6⟩ := num_kt (n := n) h4 hc
      unfold stepP
      rw [if_neg (by decide), h1]
      simp only []
      rw [if_neg (by decide), if_neg (by decide), if_neg (by decide), if_pos trivial, h3]
      simp only []
      rw [h5]
      simp only []
      rw [with_kt _ h6]
  | op a o ha ho =>
    obtain ⟨nm, R, h1, h2, h3, h4, h5, h6, h7, h8⟩ := op_trip (a := a) ho
    refine ⟨nm, (0, Go.Lib.itoa a) :: R, ?_, h2, ?_⟩
    · simp only [shownL, if_true]; exact h1
    · intro n ts h
      obtain ⟨r, h9, h10⟩ := num_kt (n := n) h ha
      unfold stepP
      rw [if_neg h3, h9]
      simp only []
      rw [if_neg h4, if_neg h5, if_neg h6, if_neg h7, h8 n r h10]
      simp only []
      rw [with_kt _ rfl]
end Scr

/- Plain law: what Parse reads Print writes, unless that text is too long, and Parse reads that as the same steps. Conditions: none. -/
namespace Scr

theorem itoa_nl (x : Int) : 10 ∉ Go.Lib.itoa x := by
  intro h
  have hd : ∀ u, (10 : UInt8) ∉ Go.Lib.decDigits u := by
    intro u hm
    have := List.all_eq_true.1 (dec_dig u) 10 hm
    revert this; decide
  unfold Go.Lib.itoa at h
  split at h
  · rcases List.mem_cons.1 h with h | h
    · revert h; decide
    · exact hd _ h
  · exact hd _ h
theorem quoteB_nl_fin : ∀ n : Fin 256, (10 : UInt8) ∉ quoteB (UInt8.ofNat n.val) := by decide +kernel
theorem quoteB_nl (c : UInt8) : (10 : UInt8) ∉ quoteB c := by
  have := quoteB_nl_fin ⟨c.toNat, c.toNat_lt⟩
  simpa using this
theorem quoting_nl (s : Bs) : (10 : UInt8) ∉ quotingL s := by
  unfold quotingL
  simp only [List.mem_cons, List.mem_append, List.mem_flatMap, List.not_mem_nil, or_false, not_or, not_exists, not_and]
  exact ⟨by decide, fun c _ => quoteB_nl c, by decide⟩
theorem numS_nl (x : Int) : (10 : UInt8) ∉ numS x := by
  unfold numS
  simp only [List.mem_cons, not_or]
  exact ⟨by decide, itoa_nl x⟩
theorem wrS_nl (x : Wr) : (10 : UInt8) ∉ wrS x := by
  have h1 := quoting_nl x.key
  have h2 := quoting_nl x.val
  unfold wrS
  split <;> simp only [List.mem_append, not_or] <;> simp [h1, h2]
theorem snapS_nl (x : Int) : (10 : UInt8) ∉ snapS x := by
  have h1 := itoa_nl x
  unfold snapS
  split
  · simp
  · simp [h1]
theorem shown_nl (s : StepS) : (10 : UInt8) ∉ shownL s := by
  have ha := numS_nl s.a
  have hb := itoa_nl s.b
  have hc := itoa_nl s.c
  have hn := itoa_nl s.op.n
  have hs := itoa_nl s.op.snap
  have hk := quoting_nl s.op.key
  have ht := quoting_nl s.op.til
  have hp := snapS_nl s.op.snap
  have hw : (10 : UInt8) ∉ s.op.writes.flatMap wrS := by
    simp only [List.mem_flatMap, not_exists, not_and]; intro x _; exact wrS_nl x
  have hke : (10 : UInt8) ∉ s.keep.flatMap numS := by
    simp only [List.mem_flatMap, not_exists, not_and]; intro x _; exact numS_nl x
  have hw1 : (10 : UInt8) ∉ wWrite ∧ (10 : UInt8) ∉ wSync ∧ (10 : UInt8) ∉ wGet ∧ (10 : UInt8) ∉ wScan ∧ (10 : UInt8) ∉ wSnap ∧ (10 : UInt8) ∉ wRelease ∧ (10 : UInt8) ∉ wDo ∧ (10 : UInt8) ∉ wTick ∧ (10 : UInt8) ∉ wFall ∧ (10 : UInt8) ∉ wArm ∧ (10 : UInt8) ∉ wFail ∧ (10 : UInt8) ∉ ([32] : Bs) ∧ (10 : UInt8) ∉ ([32, 115, 121, 110, 99] : Bs) ∧ (10 : UInt8) ∉ ([] : Bs) := by decide
  obtain ⟨h1, h2, h3, h4, h5, h6, h7, h8, h9, h10, h11, h12, h13, h14⟩ := hw1
  unfold shownL operatedL
  repeat' split
  all_goals simp only [List.mem_append, not_or, *, not_false_eq_true, and_self]

def bodyT (l : List StepS) : Bs := l.flatMap fun s => shownL s ++ [10]
theorem bodyT_cons (s : StepS) (l : List StepS) : bodyT (s :: l) = shownL s ++ 10 :: bodyT l := by unfold bodyT; simp
theorem shown_ne {s : StepS} (h : Canon s) : shownL s ≠ [] := by
  obtain ⟨nm, R, h1, _⟩ := step_trip h
  intro he
  rw [he] at h1
  cases h1
theorem bodyL_eq : ∀ (l : List StepS) (acc : Bs), (∀ s ∈ l, Canon s) → acc.length ≤ 65536 → bodyL acc l = if acc.length + (bodyT l).length ≤ 65536 then some (acc ++ bodyT l) else none
  | [], acc, _, ha => by rw [bodyL]; unfold bodyT; simp [ha]
  | s :: t, acc, hc, ha => by
    rw [bodyL, bodyT_cons]
    have h1 := shown_ne (hc s (List.mem_cons_self ..))
    by_cases h : shownL s = [] ∨ 65536 ≤ acc.length + (shownL s).length
    · rw [if_pos h]
      rcases h with h | h
      · exact absurd h h1
      · rw [if_neg (by simp; omega)]
    · rw [if_neg h]
      have h2 := not_or.1 h
      rw [bodyL_eq t _ (fun x hx => hc x (List.mem_cons_of_mem _ hx)) (by simp; omega)]
      simp only [List.length_append, List.length_cons, List.length_nil, List.append_assoc, List.cons_append, List.nil_append]
      by_cases h3 : acc.length + ((shownL s).length + (0 + 1)) + (bodyT t).length ≤ 65536
      · rw [if_pos (by omega), if_pos (by omega)]
      · rw [if_neg (by omega), if_neg (by omega)]
theorem line_shown {s : StepS} (h : Canon s) (n : Nat) (st : PSt) (hl : st.l.length < 20000) : lineP n (toks (shownL s)) st = .ok ⟨st.l ++ [s], st.rep⟩ := by
  obtain ⟨nm, R, h1, h2, h3⟩ := step_trip h
  have h4 : (toks (shownL s)).map kt = (0, nm) :: R := h1
  rcases ht : toks (shownL s) with _ | ⟨t, ts⟩
  · rw [ht] at h4; simp at h4
  · rw [ht] at h4
    simp only [List.map_cons, List.cons.injEq, kt, Prod.mk.injEq] at h4
    obtain ⟨⟨hk, hx⟩, hr⟩ := h4
    have hno : ∀ w ∈ names, w ≠ wRepeat ∧ w ≠ wEnd := by decide
    rw [lineP_cons, if_neg (by rw [hk]; decide), if_neg (by rw [hx]; exact (hno nm h2).1), if_neg (by rw [hx]; exact (hno nm h2).2), if_neg (by rw [hx]; exact fun h => h h2), if_neg (by simp only [maxSteps]; omega), hx, h3 n ts hr]
    rfl
theorem linesP_body : ∀ (l : List StepS) (i : Nat) (st : PSt), (∀ s ∈ l, Canon s) → st.l.length + l.length ≤ 20000 → linesP i (lines (bodyT l)) st = .ok ⟨st.l ++ l, st.rep⟩
  | [], i, st, _, _ => by
    have : lines (bodyT []) = [[]] := rfl
    rw [this, linesP]
    have h2 : toks [] = [] := rfl
    rw [h2, lineP]
    simp only []
    rw [linesP, List.append_nil]
  | s :: t, i, st, hc, hl => by
    rw [bodyT_cons, lines_join, lines_one (shown_nl s), List.cons_append, List.nil_append, linesP]
    simp only [List.length_cons] at hl
    rw [line_shown (hc s (List.mem_cons_self ..)) _ st (by omega)]
    simp only []
    rw [linesP_body t (i + 1) _ (fun x hx => hc x (List.mem_cons_of_mem _ hx)) (by simp; omega)]
    simp

/-- What was read is in order. -/
def Ord (st : PSt) : Prop := (∀ s ∈ st.l, Canon s) ∧ st.l.length ≤ 20000 ∧ Fit st
theorem lineP_ord {n : Nat} {ts : List Tok} {st st' : PSt} (h : lineP n ts st = .ok st') (ho : Ord st) : Ord st' := by
  obtain ⟨hc, hl, hf⟩ := ho
  have hf' := (lineP_ahead [] n ts st st' h hf).1
  refine ⟨?_, ?_, hf'⟩
  all_goals
    rcases ts with _ | ⟨t, ts⟩
    · rw [lineP] at h; cases h; assumption
    · rw [lineP_cons] at h
      split at h
      · cases h
      · split at h
        · split at h
          · cases h
          · split at h
            · cases h
            · obtain ⟨x, _, rfl⟩ := map_ok h; assumption
        · split at h
          · split at h
            · cases h
            · next b k hr =>
              split at h
              · cases h
              · next hm =>
                obtain ⟨x, _, rfl⟩ := map_ok h
                first
                  | (intro s hs
                     rcases List.mem_append.1 hs with hs | hs
                     · exact hc s (List.mem_of_mem_take hs)
                     · unfold times at hs
                       simp only [List.mem_flatten, List.mem_replicate] at hs
                       obtain ⟨l, ⟨_, rfl⟩, hs⟩ := hs
                       exact hc s (List.mem_of_mem_drop hs))
                  | (simp only [List.length_append, times_length, List.length_take, List.length_drop]
                     simp only [maxSteps] at hm
                     omega)
          · split at h
            · cases h
            · next hn =>
              split at h
              · cases h
              · next hm =>
                obtain ⟨s, hs, rfl⟩ := map_ok h
                first
                  | (intro y hy
                     rcases List.mem_append.1 hy with hy | hy
                     · exact hc y hy
                     · simp at hy; subst hy; exact stepP_canon hs (Classical.not_not.1 hn))
                  | (simp only [List.length_append, List.length_cons, List.length_nil]
                     simp only [maxSteps] at hm
                     omega)
theorem linesP_ord : ∀ (ls : List Bs) (i : Nat) (st st' : PSt), linesP i ls st = .ok st' → Ord st → Ord st'
  | [], i, st, st', h, ho => by rw [linesP] at h; cases h; exact ho
  | x :: r, i, st, st', h, ho => by
    rw [linesP] at h
    rcases hl : lineP x.length (toks x) st with e | s1
    · rw [hl] at h; cases h
    · rw [hl] at h; exact linesP_ord r (i + 1) s1 st' h (lineP_ord hl ho)
theorem parse_ord {text : Bs} {l : List StepS} (h : parseP text = .ok l) : (∀ s ∈ l, Canon s) ∧ l.length ≤ 20000 := by
  have := linesP_ord _ _ _ _ (parse_ok h) ⟨by simp, by simp, trivial⟩
  exact ⟨this.1, this.2.1⟩

/-- P20.10: what Parse reads Print writes, unless that text is too long, and Parse reads that as the same steps. -/
theorem again_law {text : Bs} {l : List StepS} (h : parseP text = .ok l) :
    ((bodyT l).length ≤ 65536 → printP l = some (bodyT l) ∧ parseP (bodyT l) = .ok l) ∧ (65536 < (bodyT l).length → printP l = none) := by
  obtain ⟨hc, hl⟩ := parse_ord h
  have hb := bodyL_eq l [] hc (by simp)
  rw [List.length_nil, Nat.zero_add, List.nil_append] at hb
  constructor
  · intro hn
    have hp : parseP (bodyT l) = .ok l := by
      refine ok_parse hn ?_
      rw [linesP_body l 1 ⟨[], none⟩ hc (by simpa using hl)]; rfl
    refine ⟨?_, hp⟩
    unfold printP
    rw [if_neg (by omega), hb, if_pos hn]
    simp only []
    rw [hp]
    simp
  · intro hn
    unfold printP
    rw [if_neg (by omega), hb, if_neg (by omega)]
end Scr

/- Plain law: how many bytes a printed line takes. Conditions: none. -/
namespace Scr

def widthL (n : Int) : Nat := (Go.Lib.itoa n).length
def markedL (s : Bs) : Nat := (quotingL s).length + 1
def printedL (s : StepS) : Nat :=
  if s.kind = 3 then 5
  else if s.kind = 2 then 2 + widthL s.a + 2
  else if s.kind = 5 then 2 + widthL s.a + 3
  else if s.kind = 6 then 2 + widthL s.a + 4 + 2 + widthL s.b + widthL s.c
  else if s.kind = 4 then 2 + widthL s.a + 4 + (s.keep.map fun x => 1 + widthL x).sum
  else if s.op.kind = 1 then 2 + widthL s.a + 5 + (s.op.writes.map fun x => 4 + markedL x.key + if x.del then 0 else markedL x.val).sum + if s.op.sync then 5 else 0
  else if s.op.kind = 2 ∨ s.op.kind = 5 then 2 + widthL s.a + 4
  else if s.op.kind = 3 then 2 + widthL s.a + 3 + markedL s.op.key + if s.op.snap = 0 then 0 else 6 + widthL s.op.snap
  else if s.op.kind = 4 then 2 + widthL s.a + 4 + markedL s.op.key + markedL s.op.til + 1 + widthL s.op.n + if s.op.snap = 0 then 0 else 6 + widthL s.op.snap
  else if s.op.kind = 6 then 2 + widthL s.a + 7 + 1 + widthL s.op.snap
  else 2 + widthL s.a
theorem numS_len (x : Int) : (numS x).length = 1 + widthL x := by unfold numS widthL; simp; omega
theorem nums_len : ∀ l : List Int, (l.flatMap numS).length = (l.map fun x => 1 + widthL x).sum
  | [] => rfl
  | x :: l => by rw [List.flatMap_cons, List.length_append, numS_len, nums_len l]; simp
theorem wrS_len (x : Wr) : (wrS x).length = 4 + markedL x.key + if x.del then 0 else markedL x.val := by
  unfold wrS markedL
  split <;> simp <;> omega
theorem wrs_len : ∀ l : List Wr, (l.flatMap wrS).length = (l.map fun x => 4 + markedL x.key + if x.del then 0 else markedL x.val).sum
  | [] => rfl
  | x :: l => by rw [List.flatMap_cons, List.length_append, wrS_len, wrs_len l]; simp
theorem snapS_len (x : Int) : (snapS x).length = if x = 0 then 0 else 6 + widthL x := by
  unfold snapS widthL; split <;> simp; omega
theorem printed_len {s : StepS} (h : Canon s) : printedL s = (shownL s).length + 1 := by
  cases h with
  | tick => rfl
  | mach a ha => simp [printedL, shownL, numS_len, wDo]; omega
  | arm a ha => simp [printedL, shownL, numS_len, wArm]; omega
  | fall a l ha hl => simp [printedL, shownL, numS_len, nums_len, wFall, -List.length_flatMap]; omega
  | fail a b c ha hb hc => simp [printedL, shownL, numS_len, wFail, widthL]; omega
  | op a o ha ho =>
    cases ho with
    | write l sy hl => cases sy <;> simp [printedL, shownL, operatedL, numS_len, wrs_len, wWrite, -List.length_flatMap] <;> omega
    | sync => simp [printedL, shownL, operatedL, numS_len, wSync]; omega
    | snap => simp [printedL, shownL, operatedL, numS_len, wSnap]; omega
    | release n hn => simp [printedL, shownL, operatedL, numS_len, wRelease, widthL]; omega
    | get k n hn => simp only [printedL, shownL, operatedL]; simp [numS_len, snapS_len, wGet, markedL]; omega
    | scan k t m n hm hn => simp only [printedL, shownL, operatedL]; simp [numS_len, snapS_len, wScan, markedL, widthL]; omega
theorem body_len : ∀ l : List StepS, (∀ s ∈ l, Canon s) → (bodyT l).length = (l.map printedL).sum
  | [], _ => rfl
  | s :: l, h => by
    rw [bodyT_cons, List.length_append, List.length_cons, body_len l (fun x hx => h x (List.mem_cons_of_mem _ hx)), List.map_cons, List.sum_cons, printed_len (h s (List.mem_cons_self ..))]
    omega
end Scr

/- Plain law: blanks, tabs, comments and lines without words change nothing of the steps. Conditions: none. -/
namespace Scr

/-- What was read takes things that can stand. -/
def Took (ts r : List Tok) : Prop := ∃ p, ts = p ++ r ∧ ∀ t ∈ p, t.kind ≠ 2
theorem Took.refl (ts : List Tok) : Took ts ts := ⟨[], rfl, by simp⟩
theorem Took.trans {a b c : List Tok} (h : Took a b) (k : Took b c) : Took a c := by
  obtain ⟨p, rfl, hp⟩ := h
  obtain ⟨q, rfl, hq⟩ := k
  exact ⟨p ++ q, by simp, by intro t ht; rcases List.mem_append.1 ht with h | h; exact hp t h; exact hq t h⟩
theorem Took.cons {t : Tok} {a b : List Tok} (ht : t.kind ≠ 2) (h : Took a b) : Took (t :: a) b := by
  obtain ⟨p, rfl, hp⟩ := h
  exact ⟨t :: p, rfl, by intro u hu; rcases List.mem_cons.1 hu with rfl | hu; exact ht; exact hp u hu⟩
theorem num_took {n : Nat} {lo hi v : Int} {ts r : List Tok} (h : num n lo hi ts = .ok (v, r)) : Took ts r := by
  unfold num at h
  rcases ts with _ | ⟨t, ts⟩
  · cases h
  · simp only [] at h
    split at h
    · cases h
    · next hk =>
      split at h
      · cases h
      · split at h
        · cases h; exact .cons hk (.refl _)
        · cases h
theorem txt_took {n : Nat} {v : Bs} {ts r : List Tok} (h : txt n ts = .ok (v, r)) : Took ts r := by
  unfold txt at h
  rcases ts with _ | ⟨t, ts⟩
  · cases h
  · simp only [] at h
    split at h
    · next hk => cases h; exact .cons (by omega) (.refl _)
    · cases h
theorem writesP_took {n : Nat} : ∀ (k : Nat) (ts r : List Tok) (l : List Wr) (sy : Bool), ts.length ≤ k → writesP n ts = .ok (l, sy, r) → Took ts r := by
  intro k
  induction k with
  | zero =>
    intro ts r l sy hk h
    have : ts = [] := List.eq_nil_of_length_eq_zero (by omega)
    subst this
    rw [writesP] at h; cases h; exact .refl _
  | succ k ih =>
    intro ts r l sy hk h
    rcases ts with _ | ⟨t, ts⟩
    · rw [writesP] at h; cases h; exact .refl _
    · unfold writesP at h
      split at h
      · next hc => cases h; exact .cons (by omega) (.refl _)
      · split at h
        · next hc =>
          rcases ts with _ | ⟨x, ts⟩
          · cases h
          · simp only [] at h
            split at h
            · next hx =>
              rcases hw : writesP n ts with e | ⟨l2, sy2, r2⟩
              · rw [hw] at h; cases h
              · rw [hw] at h; cases h
                exact .cons (by omega) (.cons (by omega) (ih ts r l2 sy (by simp at hk; omega) hw))
            · cases h
        · split at h
          · next hc =>
            rcases ts with _ | ⟨x, _ | ⟨z, ts⟩⟩
            · cases h
            · simp only [] at h; split at h <;> cases h
            · simp only [] at h
              split at h
              · next hx =>
                split at h
                · next hz =>
                  rcases hw : writesP n ts with e | ⟨l2, sy2, r2⟩
                  · rw [hw] at h; cases h
                  · rw [hw] at h; cases h
                    exact .cons (by omega) (.cons (by omega) (.cons (by omega) (ih ts r l2 sy (by simp at hk; omega) hw)))
                · cases h
              · cases h
          · cases h
theorem num_cons {n : Nat} {lo hi v : Int} {t : Tok} {ts r : List Tok} (h : num n lo hi (t :: ts) = .ok (v, r)) : t.kind ≠ 2 := by
  unfold num at h
  simp only [] at h
  split at h
  · cases h
  · next hk => exact hk
theorem keepsP_took {n : Nat} : ∀ (ts : List Tok) (l : List Int), keepsP n ts = .ok l → Took ts []
  | [], l, h => .refl _
  | t :: ts, l, h => by
    rw [keepsP] at h
    rcases hx : numAny n (t :: ts) with e | ⟨v, r⟩
    · rw [hx] at h; cases h
    · rw [hx] at h
      simp only [] at h
      rcases hy : keepsP n ts with e | l2
      · rw [hy] at h; cases h
      · exact .cons (num_cons hx) (keepsP_took ts l2 hy)
theorem snapP_took {n : Nat} {x : Int} {ts r : List Tok} (h : snapP n ts = .ok (x, r)) : Took ts r := by
  unfold snapP at h
  rcases ts with _ | ⟨t, ts⟩
  · cases h; exact .refl _
  · simp only [] at h
    split at h
    · next hc => exact .cons (by omega) (num_took h)
    · cases h
theorem opP_took {n : Nat} {nm : Bs} {ts r : List Tok} {o : OpS} (h : opP n nm ts = .ok (o, r)) : Took ts r := by
  unfold opP at h
  split at h
  · obtain ⟨⟨l, sy, r2⟩, h2, h3⟩ := map_ok h
    cases h3
    exact writesP_took ts.length ts _ l sy (Nat.le_refl _) h2
  · split at h
    · cases h; exact .refl _
    · split at h
      · cases h; exact .refl _
      · split at h
        · obtain ⟨⟨v, r2⟩, h2, h3⟩ := map_ok h
          cases h3
          exact num_took h2
        · split at h
          · rcases hx : txt n ts with e | ⟨k, r1⟩
            · rw [hx] at h; cases h
            · rw [hx] at h
              obtain ⟨⟨v, r2⟩, h2, h3⟩ := map_ok h
              cases h3
              exact (txt_took hx).trans (snapP_took h2)
          · split at h
            · rcases hx : txt n ts with e | ⟨k, r1⟩
              · rw [hx] at h; cases h
              · rw [hx] at h
                simp only [] at h
                rcases hy : txt n r1 with e | ⟨k2, r2⟩
                · rw [hy] at h; cases h
                · rw [hy] at h
                  simp only [] at h
                  rcases hz : numAny n r2 with e | ⟨k3, r3⟩
                  · rw [hz] at h; cases h
                  · rw [hz] at h
                    obtain ⟨⟨v, r4⟩, h2, h3⟩ := map_ok h
                    cases h3
                    exact (((txt_took hx).trans (txt_took hy)).trans (num_took hz)).trans (snapP_took h2)
            · cases h; exact .refl _
theorem fin_took {ts : List Tok} {u : Unit} (h : fin ts = .ok u) : Took ts [] := by
  rcases ts with _ | ⟨t, ts⟩
  · exact .refl _
  · cases h
theorem withFin_took {s s' : StepS} {ts : List Tok} (h : withFin s ts = .ok s') : Took ts [] := by
  unfold withFin at h
  obtain ⟨u, h1, _⟩ := map_ok h
  exact fin_took h1
theorem stepP_took {n : Nat} {nm : Bs} {ts : List Tok} {s : StepS} (h : stepP n nm ts = .ok s) : Took ts [] := by
  unfold stepP at h
  split at h
  · exact withFin_took h
  · rcases hx : numAny n ts with e | ⟨a, r⟩
    · rw [hx] at h; cases h
    · rw [hx] at h
      have hk : Took ts r := num_took hx
      simp only [] at h
      split at h
      · exact hk.trans (withFin_took h)
      · split at h
        · exact hk.trans (withFin_took h)
        · split at h
          · obtain ⟨l, h2, rfl⟩ := map_ok h
            exact hk.trans (keepsP_took r l h2)
          · split at h
            · rcases hy : numAny n r with e | ⟨b, r2⟩
              · rw [hy] at h; cases h
              · rw [hy] at h
                simp only [] at h
                rcases hz : numAny n r2 with e | ⟨c, r3⟩
                · rw [hz] at h; cases h
                · rw [hz] at h
                  exact ((hk.trans (num_took hy)).trans (num_took hz)).trans (withFin_took h)
            · rcases ho : opP n nm r with e | ⟨o, r2⟩
              · rw [ho] at h; cases h
              · rw [ho] at h
                exact (hk.trans (opP_took ho)).trans (withFin_took h)
theorem took_all {ts : List Tok} (h : Took ts []) : ∀ t ∈ ts, t.kind ≠ 2 := by
  obtain ⟨p, rfl, hp⟩ := h
  simpa using hp
theorem lineP_no2 {n : Nat} {ts : List Tok} {st st' : PSt} (h : lineP n ts st = .ok st') : ∀ t ∈ ts, t.kind ≠ 2 := by
  rcases ts with _ | ⟨t, ts⟩
  · simp
  · apply took_all
    rw [lineP_cons] at h
    split at h
    · cases h
    · next hk =>
      have hk2 : t.kind ≠ 2 := by omega
      refine .cons hk2 ?_
      split at h
      · split at h
        · cases h
        · split at h
          · cases h
          · next r hn =>
            obtain ⟨x, hx, rfl⟩ := map_ok h
            exact (num_took (r := r.2) (v := r.1) hn).trans (fin_took hx)
      · split at h
        · split at h
          · cases h
          · split at h
            · cases h
            · obtain ⟨x, hx, rfl⟩ := map_ok h
              exact fin_took hx
        · split at h
          · cases h
          · split at h
            · cases h
            · obtain ⟨s, hs, rfl⟩ := map_ok h
              exact stepP_took hs
theorem linesP_no2 : ∀ (ls : List Bs) (i : Nat) (st st' : PSt), linesP i ls st = .ok st' → ∀ x ∈ ls, ∀ t ∈ toks x, t.kind ≠ 2
  | [], i, st, st', h => by simp
  | x :: r, i, st, st', h => by
    rw [linesP] at h
    rcases hl : lineP x.length (toks x) st with e | s1
    · rw [hl] at h; cases h
    · rw [hl] at h
      intro y hy
      rcases List.mem_cons.1 hy with rfl | hy
      · exact lineP_no2 hl
      · exact linesP_no2 r (i + 1) s1 st' h y hy

/-- Where the spacing stands: in no text, in a quoted one, behind a backslash in one, in a comment (with its number). -/
inductive Md where
  | out
  | inq
  | esc
  | com (n : Int)
def spB (n : Int) : Bs := if n.tmod 4 = 1 then [32, 9] else []
def spN (n : Int) : Bs := if n.tmod 4 = 1 then [32, 9] else if n.tmod 4 = 2 then [32, 35, 32, 34, 120] else []
def spS (f : Nat → Int) (m : Md) (k : Nat) (c : UInt8) : Bs × Md × Nat :=
  match m with
  | .com n => if c = 10 then (spN n ++ [10], .out, k) else ([c], .com n, k)
  | .esc => ([c], .inq, k)
  | .inq => if c = 92 then ([c], .esc, k + 1) else if c = 34 ∨ c = 10 then ([c], .out, k + 1) else ([c], .inq, k + 1)
  | .out => if c = 35 then ([c], .com (f k), k + 1) else if c = 10 then (spN (f k) ++ [10], .out, k + 1) else if c = 32 then (spB (f k) ++ [32], .out, k + 1) else if c = 34 then ([c], .inq, k + 1) else ([c], .out, k + 1)
def spG (f : Nat → Int) : Md → Nat → Bs → Bs
  | _, _, [] => []
  | m, k, c :: t => (spS f m k c).1 ++ spG f (spS f m k c).2.1 (spS f m k c).2.2 t
def spE (f : Nat → Int) : Md → Nat → Bs → Md × Nat
  | m, k, [] => (m, k)
  | m, k, c :: t => spE f (spS f m k c).2.1 (spS f m k c).2.2 t
theorem spG_join (f : Nat → Int) : ∀ (x R : Bs) (m : Md) (k : Nat), spG f m k (x ++ R) = spG f m k x ++ spG f (spE f m k x).1 (spE f m k x).2 R
  | [], R, m, k => by rw [List.nil_append, spG, spE, List.nil_append]
  | c :: t, R, m, k => by rw [List.cons_append, spG, spG, spE, spG_join f t R, List.append_assoc]
theorem spE_join (f : Nat → Int) : ∀ (x R : Bs) (m : Md) (k : Nat), spE f m k (x ++ R) = spE f (spE f m k x).1 (spE f m k x).2 R
  | [], R, m, k => by rw [List.nil_append]; rfl
  | c :: t, R, m, k => by rw [List.cons_append, spE, spE, spE_join f t R]

theorem spN_kts (n : Int) : kts (spN n) 0 = [] := by
  unfold spN; split
  · rfl
  · split <;> rfl
theorem spB_kts (n : Int) (r : Bs) : kts (spB n ++ r) 0 = kts r 0 := by
  unfold spB; split
  · simp only [List.cons_append, List.nil_append]; rw [kts_sp, kts_blank (by decide)]
  · rfl
theorem spN_halt (n : Int) : Halt (spN n) := by
  unfold spN; split
  · exact halt_sp _
  · split
    · exact halt_sp _
    · exact halt_nil
theorem quoteL_local : ∀ (m : Nat) (t : Bs) (s : Bs) (n : Nat), t.length ≤ m → quoteL t = some (s, n) → (n ≤ t.length ∧ s.length ≤ n) ∧ ∀ X, quoteL (t.take n ++ X) = some (s, n) := by
  intro m
  induction m with
  | zero =>
    intro t s n hm h
    have : t = [] := List.eq_nil_of_length_eq_zero (by omega)
    subst this; cases h
  | succ m ih =>
    intro t s n hm h
    rcases t with _ | ⟨c, t⟩
    · cases h
    · rw [quoteL_cons] at h
      by_cases h1 : c = 34
      · rw [if_pos h1] at h; cases h
        refine ⟨⟨by simp, by simp⟩, fun X => ?_⟩
        simp only [List.take_succ_cons, List.take_zero, List.cons_append, List.nil_append]
        rw [quoteL_cons, if_pos h1]
      · rw [if_neg h1] at h
        by_cases h2 : c.toNat < 32 ∨ 126 < c.toNat
        · rw [if_pos h2] at h; cases h
        · rw [if_neg h2] at h
          by_cases h3 : c ≠ 92
          · rw [if_pos h3] at h
            rcases hq : quoteL t with _ | ⟨s1, n1⟩
            · rw [hq] at h; cases h
            · rw [hq] at h; cases h
              obtain ⟨h4, h5⟩ := ih t s1 n1 (by simp at hm; omega) hq
              refine ⟨⟨by simp; omega, by simp; omega⟩, fun X => ?_⟩
              rw [List.take_succ_cons, List.cons_append, quoteL_plain _ h1 h2 h3, h5 X]; rfl
          · rw [if_neg h3] at h
            have h3' : c = 92 := Classical.not_not.1 h3
            subst h3'
            rcases t with _ | ⟨d, u⟩
            · cases h
            · simp only [] at h
              by_cases h4 : d = 34 ∨ d = 92
              · rw [if_pos h4] at h
                rcases hq : quoteL u with _ | ⟨s1, n1⟩
                · rw [hq] at h; cases h
                · rw [hq] at h; cases h
                  obtain ⟨h5, h6⟩ := ih u s1 n1 (by simp at hm; omega) hq
                  refine ⟨⟨by simp; omega, by simp; omega⟩, fun X => ?_⟩
                  rw [List.take_succ_cons, List.take_succ_cons, List.cons_append, List.cons_append, quoteL_back _ h4, h6 X]; rfl
              · rw [if_neg h4] at h
                by_cases h5 : d = 120
                · rw [if_pos h5] at h
                  subst h5
                  rcases u with _ | ⟨a, _ | ⟨b, v⟩⟩
                  · cases h
                  · cases h
                  · simp only [] at h
                    rcases ha : hexv a with _ | x
                    · rw [ha] at h; cases h
                    · rcases hb : hexv b with _ | y
                      · rw [ha, hb] at h; cases h
                      · rw [ha, hb] at h
                        simp only [] at h
                        rcases hq : quoteL v with _ | ⟨s1, n1⟩
                        · rw [hq] at h; cases h
                        · rw [hq] at h; cases h
                          obtain ⟨h5, h6⟩ := ih v s1 n1 (by simp at hm; omega) hq
                          refine ⟨⟨by simp; omega, by simp; omega⟩, fun X => ?_⟩
                          rw [List.take_succ_cons, List.take_succ_cons, List.take_succ_cons, List.take_succ_cons, List.cons_append, List.cons_append, List.cons_append, List.cons_append, quoteL_hex _ ha hb, h6 X]; rfl
                · rw [if_neg h5] at h; cases h
/-- Within a quoted text that can stand nothing is added, and its end is found. -/
theorem spG_quote (f : Nat → Int) : ∀ (m : Nat) (t : Bs) (s : Bs) (n k : Nat), t.length ≤ m → 10 ∉ t → quoteL t = some (s, n) → ∃ k', spG f .inq k (t.take n) = t.take n ∧ spE f .inq k (t.take n) = (.out, k') := by
  intro m
  induction m with
  | zero =>
    intro t s n k hm _ h
    have : t = [] := List.eq_nil_of_length_eq_zero (by omega)
    subst this; cases h
  | succ m ih =>
    intro t s n k hm hnl h
    rcases t with _ | ⟨c, t⟩
    · cases h
    · have hc10 : c ≠ 10 := by rintro rfl; exact hnl (List.mem_cons_self ..)
      have hnt : 10 ∉ t := fun hh => hnl (List.mem_cons_of_mem _ hh)
      rw [quoteL_cons] at h
      by_cases h1 : c = 34
      · rw [if_pos h1] at h; cases h
        subst h1
        exact ⟨k + 1, rfl, rfl⟩
      · rw [if_neg h1] at h
        by_cases h2 : c.toNat < 32 ∨ 126 < c.toNat
        · rw [if_pos h2] at h; cases h
        · rw [if_neg h2] at h
          by_cases h3 : c ≠ 92
          · rw [if_pos h3] at h
            rcases hq : quoteL t with _ | ⟨s1, n1⟩
            · rw [hq] at h; cases h
            · rw [hq] at h; cases h
              obtain ⟨k', h4, h5⟩ := ih t s1 n1 (k + 1) (by simp at hm; omega) hnt hq
              have hs : spS f .inq k c = ([c], .inq, k + 1) := by
                unfold spS; simp only []
                rw [if_neg h3, if_neg (by simp [h1, hc10])]
              exact ⟨k', by rw [List.take_succ_cons, spG, hs, h4]; rfl, by rw [List.take_succ_cons, spE, hs, h5]⟩
          · rw [if_neg h3] at h
            have h3' : c = 92 := Classical.not_not.1 h3
            subst h3'
            have two : ∀ (d : UInt8) (u : Bs), spG f .inq k (92 :: d :: u) = 92 :: d :: spG f .inq (k + 1) u ∧ spE f .inq k (92 :: d :: u) = spE f .inq (k + 1) u := fun d u => ⟨rfl, rfl⟩
            rcases t with _ | ⟨d, u⟩
            · cases h
            · have hnu : 10 ∉ u := fun hh => hnt (List.mem_cons_of_mem _ hh)
              simp only [] at h
              by_cases h4 : d = 34 ∨ d = 92
              · rw [if_pos h4] at h
                rcases hq : quoteL u with _ | ⟨s1, n1⟩
                · rw [hq] at h; cases h
                · rw [hq] at h; cases h
                  obtain ⟨k', h5, h6⟩ := ih u s1 n1 (k + 1) (by simp at hm; omega) hnu hq
                  exact ⟨k', by rw [List.take_succ_cons, List.take_succ_cons, (two d _).1, h5], by rw [List.take_succ_cons, List.take_succ_cons, (two d _).2, h6]⟩
              · rw [if_neg h4] at h
                by_cases h5 : d = 120
                · rw [if_pos h5] at h
                  subst h5
                  rcases u with _ | ⟨a, _ | ⟨b, v⟩⟩
                  · cases h
                  · cases h
                  · simp only [] at h
                    have hh : ∀ c x, hexv c = some x → c ≠ 34 ∧ c ≠ 92 ∧ c ≠ 10 := by
                      intro c x hx
                      refine ⟨?_, ?_, ?_⟩ <;> (rintro rfl; exact absurd hx (by simp [hexv]))
                    have one : ∀ c x (j : Nat) (r : Bs), hexv c = some x → spG f .inq j (c :: r) = c :: spG f .inq (j + 1) r ∧ spE f .inq j (c :: r) = spE f .inq (j + 1) r := by
                      intro c x j r hx
                      obtain ⟨g1, g2, g3⟩ := hh c x hx
                      have hs : spS f .inq j c = ([c], .inq, j + 1) := by
                        unfold spS; simp only []
                        rw [if_neg g2, if_neg (by simp [g1, g3])]
                      exact ⟨by rw [spG, hs]; rfl, by rw [spE, hs]⟩
                    rcases ha : hexv a with _ | x
                    · rw [ha] at h; cases h
                    · rcases hb : hexv b with _ | y
                      · rw [ha, hb] at h; cases h
                      · rw [ha, hb] at h
                        simp only [] at h
                        rcases hq : quoteL v with _ | ⟨s1, n1⟩
                        · rw [hq] at h; cases h
                        · rw [hq] at h; cases h
                          obtain ⟨k', h5, h6⟩ := ih v s1 n1 (k + 1 + 1 + 1) (by simp at hm; omega) (fun hh => hnu (by simp [hh])) hq
                          refine ⟨k', ?_, ?_⟩
                          · rw [List.take_succ_cons, List.take_succ_cons, List.take_succ_cons, List.take_succ_cons, (two _ _).1, (one a x _ _ ha).1, (one b y _ _ hb).1, h5]
                          · rw [List.take_succ_cons, List.take_succ_cons, List.take_succ_cons, List.take_succ_cons, (two _ _).2, (one a x _ _ ha).2, (one b y _ _ hb).2, h6]
                · rw [if_neg h5] at h; cases h
theorem spG_com (f : Nat → Int) (n : Int) (k : Nat) : ∀ t : Bs, 10 ∉ t → spG f (.com n) k t = t ∧ spE f (.com n) k t = (.com n, k)
  | [], _ => ⟨rfl, rfl⟩
  | c :: t, h => by
    have hc : c ≠ 10 := by rintro rfl; exact h (List.mem_cons_self ..)
    have hs : spS f (.com n) k c = ([c], .com n, k) := by unfold spS; simp only []; rw [if_neg hc]
    obtain ⟨h1, h2⟩ := spG_com f n k t (fun hh => h (List.mem_cons_of_mem _ hh))
    exact ⟨by rw [spG, hs, h1]; rfl, by rw [spE, hs, h2]⟩
theorem spG_word (f : Nat → Int) : ∀ (x : Bs) (k : Nat), (∀ c ∈ x, isStop c = false) → 10 ∉ x → ∃ k', spG f .out k x = x ∧ spE f .out k x = (.out, k')
  | [], k, _, _ => ⟨k, rfl, rfl⟩
  | c :: t, k, hw, h => by
    have hc : c ≠ 10 := by rintro rfl; exact h (List.mem_cons_self ..)
    have hs1 := hw c (List.mem_cons_self ..)
    have h32 : c ≠ 32 := by rintro rfl; simp [isStop] at hs1
    have h35 : c ≠ 35 := by rintro rfl; simp [isStop] at hs1
    have h34 : c ≠ 34 := by rintro rfl; simp [isStop] at hs1
    have hs : spS f .out k c = ([c], .out, k + 1) := by unfold spS; simp only []; rw [if_neg h35, if_neg hc, if_neg h32, if_neg h34]
    obtain ⟨k', h1, h2⟩ := spG_word f t (k + 1) (fun d hd => hw d (List.mem_cons_of_mem _ hd)) (fun hh => h (List.mem_cons_of_mem _ hh))
    exact ⟨k', by rw [spG, hs, h1]; rfl, by rw [spE, hs, h2]⟩
def Rest (m : Md) : Prop := match m with | .out => True | .com _ => True | _ => False
theorem halt_spG (f : Nat → Int) (k : Nat) (r : Bs) (e : Bs) (hr : Halt r) (he : Halt e) : Halt (spG f .out k r ++ e) := by
  rcases hr with rfl | ⟨c, t, rfl, hc⟩
  · exact he
  · right
    rw [spG]
    unfold spS
    simp only []
    have h4 : c = 32 ∨ c = 9 ∨ c = 35 ∨ c = 34 := by simpa [isStop, or_assoc] using hc
    rcases h4 with rfl | rfl | rfl | rfl
    · rw [if_neg (by decide), if_neg (by decide), if_pos rfl]
      unfold spB
      split
      · exact ⟨32, _, rfl, by decide⟩
      · exact ⟨32, _, rfl, by decide⟩
    · exact ⟨9, _, rfl, by decide⟩
    · exact ⟨35, _, rfl, by decide⟩
    · exact ⟨34, _, rfl, by decide⟩
/-- A line's things after the spacing. -/
theorem line_spaced (f : Nat → Int) : ∀ (m : Nat) (x : Bs) (k : Nat), x.length ≤ m → 10 ∉ x → (∀ y ∈ kts x 0, y.1 ≠ 2) →
    Rest (spE f .out k x).1 ∧ ∀ n, kts (spG f .out k x ++ spN n) 0 = kts x 0 := by
  intro m
  induction m with
  | zero =>
    intro x k hm _ _
    have : x = [] := List.eq_nil_of_length_eq_zero (by omega)
    subst this
    exact ⟨trivial, fun n => by rw [spG, List.nil_append, spN_kts]; rfl⟩
  | succ m ih =>
    intro x k hm hnl h2
    rcases x with _ | ⟨c, t⟩
    · exact ⟨trivial, fun n => by rw [spG, List.nil_append, spN_kts]; rfl⟩
    · have hc10 : c ≠ 10 := by rintro rfl; exact hnl (List.mem_cons_self ..)
      have hnt : 10 ∉ t := fun hh => hnl (List.mem_cons_of_mem _ hh)
      simp only [List.length_cons] at hm
      by_cases hb : isBlank c = true
      · have hk := kts_blank hb t
        rw [hk] at h2
        obtain ⟨h3, h4⟩ := ih t (k + 1) (by omega) hnt h2
        have h5 : c = 32 ∨ c = 9 := by simpa [isBlank] using hb
        rcases h5 with rfl | rfl
        · have hs : spS f .out k 32 = (spB (f k) ++ [32], .out, k + 1) := rfl
          refine ⟨by rw [spE, hs]; exact h3, fun n => ?_⟩
          rw [spG, hs, hk, ← h4 n]
          simp only [List.append_assoc, List.cons_append, List.nil_append]
          rw [spB_kts, kts_sp]
        · have hs : spS f .out k 9 = ([9], .out, k + 1) := rfl
          refine ⟨by rw [spE, hs]; exact h3, fun n => ?_⟩
          rw [spG, hs, hk, ← h4 n]
          simp only [List.cons_append, List.nil_append]
          rw [kts_blank (by decide)]
      · by_cases h35 : c = 35
        · subst h35
          have hs : spS f .out k 35 = ([35], .com (f k), k + 1) := rfl
          obtain ⟨h3, h4⟩ := spG_com f (f k) (k + 1) t hnt
          refine ⟨by rw [spE, hs, h4]; trivial, fun n => ?_⟩
          rw [spG, hs]
          simp only [List.cons_append, List.nil_append]
          rw [kts_hash, kts_hash]
        · by_cases h34 : c = 34
          · subst h34
            rcases hq : quoteL t with _ | ⟨s, n⟩
            · exfalso
              refine h2 (2, []) ?_ rfl
              unfold kts
              rw [toksG, if_neg hb, if_neg h35, if_pos rfl, hq]
              simp [kt]
            · obtain ⟨⟨h3, _⟩, h4⟩ := quoteL_local t.length t s n (Nat.le_refl _) hq
              obtain ⟨k', h5, h6⟩ := spG_quote f t.length t s n (k + 1) (Nat.le_refl _) hnt hq
              have split : ∀ X, kts (34 :: (t.take n ++ X)) 0 = (1, s) :: kts X 0 := by
                intro X
                have hd := kts_drop (t.take n ++ X) n
                rw [List.drop_left' (by simp; omega)] at hd
                rw [← hd]
                unfold kts
                rw [toksG, if_neg hb, if_neg h35, if_pos rfl, h4 X]
                simp only [List.map_cons, kt]
                rw [kts_pos _ (0 + 1) 0 _]
              have hx := split (t.drop n)
              rw [List.take_append_drop] at hx
              have hrest : ∀ y ∈ kts (t.drop n) 0, y.1 ≠ 2 := fun y hy => h2 y (by rw [hx]; exact List.mem_cons_of_mem _ hy)
              obtain ⟨h7, h8⟩ := ih (t.drop n) k' (by rw [List.length_drop]; omega) (fun hh => hnt (List.mem_of_mem_drop hh)) hrest
              have hs : spS f .out k 34 = ([34], .inq, k + 1) := rfl
              have hG : spG f .out k (34 :: t) = 34 :: (t.take n ++ spG f .out k' (t.drop n)) := by
                rw [spG, hs]
                simp only [List.cons_append, List.nil_append]
                conv => lhs; rw [← List.take_append_drop n t]
                rw [spG_join, h5, h6]
              have hE : spE f .out k (34 :: t) = spE f .out k' (t.drop n) := by
                rw [spE, hs]
                simp only []
                conv => lhs; rw [← List.take_append_drop n t]
                rw [spE_join, h6]
              refine ⟨by rw [hE]; exact h7, fun j => ?_⟩
              rw [hG, List.cons_append, List.append_assoc, split, h8 j, hx]
          · have hst : isStop c = false := by
              rw [Bool.eq_false_iff]; intro hh
              have h4 : c = 32 ∨ c = 9 ∨ c = 35 ∨ c = 34 := by simpa [isStop, or_assoc] using hh
              rcases h4 with rfl | rfl | rfl | rfl
              · exact hb rfl
              · exact hb rfl
              · exact h35 rfl
              · exact h34 rfl
            have hsplit : c :: t = (c :: t).takeWhile (fun d => !isStop d) ++ (c :: t).dropWhile (fun d => !isStop d) := (List.takeWhile_append_dropWhile).symm
            have hwne : (c :: t).takeWhile (fun d => !isStop d) ≠ [] := by rw [List.takeWhile_cons, hst]; simp
            have hwst : ∀ d ∈ (c :: t).takeWhile (fun d => !isStop d), isStop d = false := by
              intro d hd
              have := List.all_eq_true.1 (List.all_takeWhile (p := fun d => !isStop d) (l := c :: t)) d hd
              simpa using this
            have hhalt : Halt ((c :: t).dropWhile (fun d => !isStop d)) := by
              rcases hdw : (c :: t).dropWhile (fun d => !isStop d) with _ | ⟨d, r⟩
              · exact halt_nil
              · right
                refine ⟨d, r, rfl, ?_⟩
                have := List.head_dropWhile_not (fun d => !isStop d) (l := c :: t) (by rw [hdw]; simp)
                simp only [hdw, List.head_cons] at this
                simpa using this
            generalize hw : (c :: t).takeWhile (fun d => !isStop d) = w at *
            generalize hr : (c :: t).dropWhile (fun d => !isStop d) = r at *
            have hlen : r.length ≤ m := by
              have := congrArg List.length hsplit
              have hp := List.length_pos_iff.2 hwne
              simp only [List.length_cons, List.length_append] at this
              omega
            have hx := kts_word hwst hwne hhalt
            rw [hsplit] at h2 hnl
            rw [hx] at h2
            obtain ⟨k', h5, h6⟩ := spG_word f w k hwst (fun hh => hnl (List.mem_append_left _ hh))
            obtain ⟨h7, h8⟩ := ih r k' hlen (fun hh => hnl (List.mem_append_right _ hh)) (fun y hy => h2 y (List.mem_cons_of_mem _ hy))
            rw [hsplit]
            refine ⟨by rw [spE_join, h6]; exact h7, fun n => ?_⟩
            rw [spG_join, h5, h6, List.append_assoc, kts_word hwst hwne (halt_spG f k' r _ hhalt (spN_halt n)), h8 n, hx]

theorem spS_nl (f : Nat → Int) (m : Md) (k : Nat) {c : UInt8} (h : c ≠ 10) : 10 ∉ (spS f m k c).1 := by
  have h1 : ∀ n, (10 : UInt8) ∉ spB n := by intro n; unfold spB; split <;> decide
  have h2 : (10 : UInt8) ≠ c := Ne.symm h
  unfold spS
  cases m with
  | com n => simp [h, h2]
  | esc => simp [h2]
  | inq =>
    simp only []
    split
    · simp [h2]
    · split <;> simp [h2]
  | out =>
    simp only []
    split
    · simp [h2]
    · split
      · simp [h1]
      · split <;> simp [h2]
theorem spG_nl (f : Nat → Int) : ∀ (x : Bs) (m : Md) (k : Nat), 10 ∉ x → 10 ∉ spG f m k x
  | [], m, k, _ => by rw [spG]; simp
  | c :: t, m, k, h => by
    rw [spG, List.mem_append, not_or]
    exact ⟨spS_nl f m k (by rintro rfl; exact h (List.mem_cons_self ..)), spG_nl f t _ _ (fun hh => h (List.mem_cons_of_mem _ hh))⟩
theorem spN_nl (n : Int) : (10 : UInt8) ∉ spN n := by
  unfold spN; split
  · decide
  · split <;> decide
theorem first_line : ∀ (s : Bs), 10 ∉ s ∨ ∃ x r, s = x ++ 10 :: r ∧ 10 ∉ x
  | [] => .inl (by simp)
  | c :: t => by
    by_cases hc : c = 10
    · subst hc; exact .inr ⟨[], t, rfl, by simp⟩
    · rcases first_line t with h | ⟨x, r, rfl, hx⟩
      · exact .inl (by simp [h, Ne.symm hc])
      · exact .inr ⟨c :: x, r, rfl, by simp [hx, Ne.symm hc]⟩
theorem lines_spaced (f : Nat → Int) : ∀ (m : Nat) (s : Bs) (k : Nat), s.length ≤ m → (∀ x ∈ lines s, ∀ y ∈ kts x 0, y.1 ≠ 2) →
    (lines (spG f .out k s)).map (fun x => kts x 0) = (lines s).map (fun x => kts x 0) := by
  intro m
  induction m with
  | zero =>
    intro s k hm _
    have : s = [] := List.eq_nil_of_length_eq_zero (by omega)
    subst this; rfl
  | succ m ih =>
    intro s k hm h2
    rcases first_line s with h | ⟨x, r, rfl, hx⟩
    · rw [lines_one h, lines_one (spG_nl f s _ k h)]
      rw [lines_one h] at h2
      have h3 := (line_spaced f s.length s k (Nat.le_refl _) h (h2 s (by simp))).2 0
      have h0 : spN 0 = [] := by decide
      rw [h0, List.append_nil] at h3
      simp [h3]
    · rw [lines_join, lines_one hx] at h2
      obtain ⟨h3, h4⟩ := line_spaced f x.length x k (Nat.le_refl _) hx (h2 x (by simp))
      have key : ∃ n k', spG f .out k (x ++ 10 :: r) = (spG f .out k x ++ spN n) ++ 10 :: spG f .out k' r := by
        rw [spG_join]
        rcases hE : spE f .out k x with ⟨m', k'⟩
        rw [hE] at h3
        cases m' with
        | out => exact ⟨f k', k' + 1, by simp [spG, spS]⟩
        | com n => exact ⟨n, k', by simp [spG, spS]⟩
        | inq => exact absurd h3 (by simp [Rest])
        | esc => exact absurd h3 (by simp [Rest])
      obtain ⟨n, k', hk⟩ := key
      rw [hk, lines_join, lines_join, lines_one hx, lines_one (by rw [List.mem_append, not_or]; exact ⟨spG_nl f x _ k hx, spN_nl n⟩)]
      simp only [List.cons_append, List.nil_append, List.map_cons]
      rw [h4 n, ih r k' (by simp at hm; omega) (fun y hy => h2 y (by simp [hy]))]
/-- P20.10: blanks, tabs, comments and lines without words change nothing of the steps. -/
theorem spaces_law (f : Nat → Int) {text : Bs} {l : List StepS} (h : parseP text = .ok l) (hl : (spG f .out 0 text).length ≤ 65536) : parseP (spG f .out 0 text) = .ok l := by
  have hp := parse_ok h
  have h2 := linesP_no2 _ _ _ _ hp
  have h3 := lines_spaced f text.length text 0 (Nat.le_refl _) (by
    intro x hx y hy
    unfold kts at hy
    obtain ⟨t, ht, rfl⟩ := List.mem_map.1 hy
    exact h2 x hx t ht)
  refine ok_parse hl (linesP_same _ _ 1 1 _ _ hp ?_ ?_)
  · have := congrArg List.length h3
    simpa using this.symm
  · intro k x y hx hy
    have h4 : ((lines (spG f .out 0 text)).map (fun x => kts x 0))[k]? = ((lines text).map (fun x => kts x 0))[k]? := by rw [h3]
    rw [List.getElem?_map, List.getElem?_map, hx, hy] at h4
    simp only [Option.map_some, Option.some.injEq] at h4
    exact h4.symm
end Scr

/- Plain law: how great the parts of a step are that was read. Conditions: none. -/
namespace Scr

def Lim (N : Nat) (s : StepS) : Prop := s.op.key.length ≤ N ∧ s.op.til.length ≤ N ∧ s.op.writes.length ≤ N ∧ s.keep.length ≤ N ∧ ∀ x ∈ s.op.writes, x.key.length ≤ N ∧ x.val.length ≤ N
def I64 (x : Int) : Prop := -9223372036854775808 ≤ x ∧ x ≤ 9223372036854775807
/-- A step that can be shown. -/
def Nice (s : StepS) : Prop := Lim 70000 s ∧ I64 s.a ∧ I64 s.b ∧ I64 s.c ∧ I64 s.op.n ∧ I64 s.op.snap ∧ ∀ x ∈ s.keep, I64 x
theorem Num40.i64 {x : Int} (h : Num40 x) : I64 x := by unfold Num40 at h; unfold I64; omega
theorem i64_zero : I64 0 := by unfold I64; omega

theorem toksG_texts : ∀ (l : Bs) (p k : Nat), ∀ t ∈ toksG l p k, t.text.length ≤ l.length
  | [], _, _, t, h => by rw [toksG] at h; cases h
  | _ :: l, p, k + 1, t, h => by rw [toksG] at h; have := toksG_texts l (p + 1) k t h; simp only [List.length_cons]; omega
  | c :: l, p, 0, t, h => by
    rw [toksG] at h
    split at h
    · have := toksG_texts l (p + 1) 0 t h; simp only [List.length_cons]; omega
    · split at h
      · cases h
      · split at h
        · cases hq : quoteL l with
          | none => rw [hq] at h; simp at h; subst h; simp
          | some x =>
            rw [hq] at h
            rcases List.mem_cons.1 h with rfl | h
            · obtain ⟨⟨h1, h2⟩, _⟩ := quoteL_local l.length l x.1 x.2 (Nat.le_refl _) hq
              simp only [List.length_cons]; omega
            · have := toksG_texts l (p + 1) x.2 t h; simp only [List.length_cons]; omega
        · rcases List.mem_cons.1 h with rfl | h
          · exact (List.takeWhile_sublist _).length_le
          · have := toksG_texts l (p + 1) _ t h; simp only [List.length_cons]; omega
theorem toksG_many : ∀ (l : Bs) (p k : Nat), (toksG l p k).length ≤ l.length
  | [], _, _ => Nat.le_refl _
  | _ :: t, p, k + 1 => by rw [toksG]; have := toksG_many t (p + 1) k; simp; omega
  | c :: t, p, 0 => by
    rw [toksG]
    split
    · have := toksG_many t (p + 1) 0; simp; omega
    · split
      · simp
      · split
        · cases quoteL t with
          | none => simp
          | some x => have := toksG_many t (p + 1) x.2; simp; omega
        · have := toksG_many t (p + 1) (t.takeWhile (fun d => !isStop d)).length; simp; omega

/-- Few things, with short texts. -/
def Few (N : Nat) (ts : List Tok) : Prop := ts.length ≤ N ∧ ∀ t ∈ ts, t.text.length ≤ N
theorem Few.tail {N : Nat} {t : Tok} {ts : List Tok} (h : Few N (t :: ts)) : Few N ts := ⟨by have := h.1; simp at this; omega, fun u hu => h.2 u (List.mem_cons_of_mem _ hu)⟩
theorem num_few {N n : Nat} {lo hi v : Int} {ts r : List Tok} (h : num n lo hi ts = .ok (v, r)) (hf : Few N ts) : Few N r := by
  unfold num at h
  rcases ts with _ | ⟨t, ts⟩
  · cases h
  · simp only [] at h
    split at h
    · cases h
    · split at h
      · cases h
      · split at h
        · cases h; exact hf.tail
        · cases h
theorem txt_few {N n : Nat} {v : Bs} {ts r : List Tok} (h : txt n ts = .ok (v, r)) (hf : Few N ts) : Few N r ∧ v.length ≤ N := by
  unfold txt at h
  rcases ts with _ | ⟨t, ts⟩
  · cases h
  · simp only [] at h
    split at h
    · cases h; exact ⟨hf.tail, hf.2 t (List.mem_cons_self ..)⟩
    · cases h
theorem writesP_few {N n : Nat} : ∀ (k : Nat) (ts r : List Tok) (l : List Wr) (sy : Bool), ts.length ≤ k → writesP n ts = .ok (l, sy, r) → Few N ts → l.length ≤ ts.length ∧ ∀ x ∈ l, x.key.length ≤ N ∧ x.val.length ≤ N := by
  intro k
  induction k with
  | zero =>
    intro ts r l sy hk h hf
    have : ts = [] := List.eq_nil_of_length_eq_zero (by omega)
    subst this
    rw [writesP] at h; cases h; simp
  | succ k ih =>
    intro ts r l sy hk h hf
    rcases ts with _ | ⟨t, ts⟩
    · rw [writesP] at h; cases h; simp
    · unfold writesP at h
      split at h
      · cases h; simp
      · split at h
        · rcases ts with _ | ⟨x, ts⟩
          · cases h
          · simp only [] at h
            split at h
            · rcases hw : writesP n ts with e | ⟨l2, sy2, r2⟩
              · rw [hw] at h; cases h
              · rw [hw] at h; cases h
                obtain ⟨h1, h2⟩ := ih ts r l2 sy (by simp at hk; omega) hw hf.tail.tail
                refine ⟨by simp; omega, fun y hy => ?_⟩
                rcases List.mem_cons.1 hy with rfl | hy
                · exact ⟨hf.2 x (by simp), by simp⟩
                · exact h2 y hy
            · cases h
        · split at h
          · rcases ts with _ | ⟨x, _ | ⟨z, ts⟩⟩
            · cases h
            · simp only [] at h; split at h <;> cases h
            · simp only [] at h
              split at h
              · split at h
                · rcases hw : writesP n ts with e | ⟨l2, sy2, r2⟩
                  · rw [hw] at h; cases h
                  · rw [hw] at h; cases h
                    obtain ⟨h1, h2⟩ := ih ts r l2 sy (by simp at hk; omega) hw hf.tail.tail.tail
                    refine ⟨by simp; omega, fun y hy => ?_⟩
                    rcases List.mem_cons.1 hy with rfl | hy
                    · exact ⟨hf.2 x (by simp), hf.2 z (by simp)⟩
                    · exact h2 y hy
                · cases h
              · cases h
          · cases h
theorem keepsP_few {n : Nat} : ∀ (ts : List Tok) (l : List Int), keepsP n ts = .ok l → l.length ≤ ts.length
  | [], l, h => by rw [keepsP] at h; cases h; simp
  | t :: ts, l, h => by
    rw [keepsP] at h
    rcases hx : numAny n (t :: ts) with e | ⟨v, r⟩
    · rw [hx] at h; cases h
    · rw [hx] at h
      simp only [] at h
      rcases hy : keepsP n ts with e | l2
      · rw [hy] at h; cases h
      · rw [hy] at h; cases h
        have := keepsP_few ts l2 hy
        simp; omega
theorem opP_few {N n : Nat} {nm : Bs} {ts r : List Tok} {o : OpS} (h : opP n nm ts = .ok (o, r)) (hf : Few N ts) :
    o.key.length ≤ N ∧ o.til.length ≤ N ∧ o.writes.length ≤ N ∧ ∀ x ∈ o.writes, x.key.length ≤ N ∧ x.val.length ≤ N := by
  unfold opP at h
  split at h
  · obtain ⟨⟨l, sy, r2⟩, h2, h3⟩ := map_ok h
    cases h3
    obtain ⟨h4, h5⟩ := writesP_few ts.length ts _ l sy (Nat.le_refl _) h2 hf
    exact ⟨by simp [OpS.zero], by simp [OpS.zero], by have := hf.1; simp only []; omega, h5⟩
  · split at h
    · cases h; simp [OpS.zero]
    · split at h
      · cases h; simp [OpS.zero]
      · split at h
        · obtain ⟨⟨v, r2⟩, h2, h3⟩ := map_ok h
          cases h3; simp [OpS.zero]
        · split at h
          · rcases hx : txt n ts with e | ⟨k, r1⟩
            · rw [hx] at h; cases h
            · rw [hx] at h
              obtain ⟨⟨v, r2⟩, h2, h3⟩ := map_ok h
              cases h3
              have := (txt_few hx hf).2
              simp [OpS.zero, this]
          · split at h
            · rcases hx : txt n ts with e | ⟨k, r1⟩
              · rw [hx] at h; cases h
              · rw [hx] at h
                simp only [] at h
                rcases hy : txt n r1 with e | ⟨k2, r2⟩
                · rw [hy] at h; cases h
                · rw [hy] at h
                  simp only [] at h
                  rcases hz : numAny n r2 with e | ⟨k3, r3⟩
                  · rw [hz] at h; cases h
                  · rw [hz] at h
                    obtain ⟨⟨v, r4⟩, h2, h3⟩ := map_ok h
                    cases h3
                    have h4 := txt_few hx hf
                    have h5 := txt_few hy h4.1
                    simp [OpS.zero, h4.2, h5.2]
            · cases h; simp [OpS.zero]
theorem stepP_lim {N n : Nat} {nm : Bs} {ts : List Tok} {s : StepS} (h : stepP n nm ts = .ok s) (hf : Few N ts) : Lim N s := by
  unfold stepP at h
  split at h
  · rw [withFin_ok h]; simp [Lim, StepS.zero, OpS.zero]
  · rcases hx : numAny n ts with e | ⟨a, r⟩
    · rw [hx] at h; cases h
    · rw [hx] at h
      have hr : Few N r := num_few hx hf
      simp only [] at h
      split at h
      · rw [withFin_ok h]; simp [Lim, StepS.zero, OpS.zero]
      · split at h
        · rw [withFin_ok h]; simp [Lim, StepS.zero, OpS.zero]
        · split at h
          · obtain ⟨l, h2, rfl⟩ := map_ok h
            have h3 := keepsP_few r l h2
            have h4 := hr.1
            refine ⟨by simp [StepS.zero, OpS.zero], by simp [StepS.zero, OpS.zero], by simp [StepS.zero, OpS.zero], by simp only []; omega, by simp [StepS.zero, OpS.zero]⟩
          · split at h
            · rcases hy : numAny n r with e | ⟨b, r2⟩
              · rw [hy] at h; cases h
              · rw [hy] at h
                simp only [] at h
                rcases hz : numAny n r2 with e | ⟨c, r3⟩
                · rw [hz] at h; cases h
                · rw [hz] at h
                  simp only [] at h
                  rw [withFin_ok h]; simp [Lim, StepS.zero, OpS.zero]
            · rcases ho : opP n nm r with e | ⟨o, r2⟩
              · rw [ho] at h; cases h
              · rw [ho] at h
                simp only [] at h
                obtain ⟨h4, h5, h6, h7⟩ := opP_few ho hr
                rw [withFin_ok h]
                exact ⟨h4, h5, h6, by simp [StepS.zero], h7⟩
theorem linesP_lim {N : Nat} : ∀ (ls : List Bs) (i : Nat) (st st' : PSt), (∀ x ∈ ls, x.length ≤ N) → linesP i ls st = .ok st' → (∀ s ∈ st.l, Lim N s) → ∀ s ∈ st'.l, Lim N s
  | [], i, st, st', _, h, ho => by rw [linesP] at h; cases h; exact ho
  | x :: r, i, st, st', hx, h, ho => by
    rw [linesP] at h
    rcases hl : lineP x.length (toks x) st with e | s1
    · rw [hl] at h; cases h
    · rw [hl] at h
      refine linesP_lim r (i + 1) s1 st' (fun y hy => hx y (List.mem_cons_of_mem _ hy)) h ?_
      have hxn := hx x (List.mem_cons_self ..)
      have hf : Few N (toks x) := ⟨Nat.le_trans (toksG_many x 0 0) hxn, fun t ht => Nat.le_trans (toksG_texts x 0 0 t ht) hxn⟩
      rcases ht : toks x with _ | ⟨t, ts⟩
      · rw [ht, lineP] at hl; cases hl; exact ho
      · rw [ht] at hl hf
        rw [lineP_cons] at hl
        split at hl
        · cases hl
        · split at hl
          · split at hl
            · cases hl
            · split at hl
              · cases hl
              · obtain ⟨y, _, rfl⟩ := map_ok hl; exact ho
          · split at hl
            · split at hl
              · cases hl
              · split at hl
                · cases hl
                · obtain ⟨y, _, rfl⟩ := map_ok hl
                  intro s hs
                  rcases List.mem_append.1 hs with hs | hs
                  · exact ho s (List.mem_of_mem_take hs)
                  · unfold times at hs
                    simp only [List.mem_flatten, List.mem_replicate] at hs
                    obtain ⟨l, ⟨_, rfl⟩, hs⟩ := hs
                    exact ho s (List.mem_of_mem_drop hs)
            · split at hl
              · cases hl
              · split at hl
                · cases hl
                · obtain ⟨s, hs, rfl⟩ := map_ok hl
                  intro y hy
                  rcases List.mem_append.1 hy with hy | hy
                  · exact ho y hy
                  · simp at hy; subst hy; exact stepP_lim hs hf.tail
theorem linesG_short : ∀ (l acc x : Bs), x ∈ linesG acc l → x.length ≤ acc.length + l.length := by
  intro l acc x h
  have := (linesG_infix l acc x h).length_le
  simpa using this
theorem canon_i64 {s : StepS} (h : Canon s) : I64 s.a ∧ I64 s.b ∧ I64 s.c ∧ I64 s.op.n ∧ I64 s.op.snap ∧ ∀ x ∈ s.keep, I64 x := by
  have z := i64_zero
  cases h with
  | tick => exact ⟨z, z, z, z, z, by simp [StepS.zero]⟩
  | mach a ha => exact ⟨ha.i64, z, z, z, z, by simp [StepS.zero]⟩
  | arm a ha => exact ⟨ha.i64, z, z, z, z, by simp [StepS.zero]⟩
  | fall a l ha hl => exact ⟨ha.i64, z, z, z, z, fun x hx => (hl x hx).i64⟩
  | fail a b c ha hb hc => exact ⟨ha.i64, hb.i64, hc.i64, z, z, by simp [StepS.zero]⟩
  | op a o ha ho =>
    cases ho with
    | write l sy hl => exact ⟨ha.i64, z, z, z, z, by simp [StepS.zero]⟩
    | sync => exact ⟨ha.i64, z, z, z, z, by simp [StepS.zero]⟩
    | snap => exact ⟨ha.i64, z, z, z, z, by simp [StepS.zero]⟩
    | release n hn => exact ⟨ha.i64, z, z, z, hn.i64, by simp [StepS.zero]⟩
    | get k n hn => exact ⟨ha.i64, z, z, z, hn.i64, by simp [StepS.zero]⟩
    | scan k t m n hm hn => exact ⟨ha.i64, z, z, hm.i64, hn.i64, by simp [StepS.zero]⟩
theorem parse_size {text : Bs} {l : List StepS} (h : parseP text = .ok l) : text.length ≤ 65536 := by
  unfold parseP at h
  split at h
  · cases h
  · omega
theorem parse_nice {text : Bs} {l : List StepS} (h : parseP text = .ok l) : ∀ s ∈ l, Nice s := by
  intro s hs
  have h1 := canon_i64 ((parse_ord h).1 s hs)
  have h2 := parse_size h
  exact ⟨linesP_lim (N := 70000) (lines text) 1 ⟨[], none⟩ ⟨l, none⟩ (fun x hx => by have := linesG_short text [] x hx; simp at this; omega) (parse_ok h) (by simp) s hs, h1⟩
end Scr

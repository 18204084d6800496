/- What writes hands back: a batch, and sync or nothing. Conditions: a line of at most 2^40 bytes. -/
import Derived.Test.YtjieelmbgfnllaaGreatDoorScStep
namespace Go.Proofs.YtjieelmbgfnllaaGreatDoor
open Go.RowKit Scr

theorem toksG_len : ∀ (l : Bs) (p k : Nat), (toksG l p k).length ≤ l.length
  | [], _, _ => Nat.le_refl _
  | _ :: t, p, k + 1 => by rw [toksG]; have := toksG_len t (p + 1) k; simp; omega
  | c :: t, p, 0 => by
    rw [toksG]
    split
    · have := toksG_len t (p + 1) 0; simp; omega
    · split
      · simp
      · split
        · cases quoteL t with
          | none => simp
          | some x => have := toksG_len t (p + 1) x.2; simp; omega
        · have := toksG_len t (p + 1) (t.takeWhile (fun d => !isStop d)).length; simp; omega
theorem RdT.len {w : World} {r n : Nat} {ts : List Tok} (h : RdT w r n ts) : ts.length ≤ n := by
  obtain ⟨line, a, _, _, rfl, rfl⟩ := h
  have := toksG_len (line.data.toList.drop a) a 0
  unfold left
  rw [List.length_drop] at this
  rw [Lib.size_eq]; omega

/-- What is still to be read of a batch, and what has been. -/
def WrAt (n : Nat) (ts ts' : List Tok) (acc : List Wr) : Prop :=
  writesP n ts = match writesP n ts' with | .error f => .error f | .ok q => .ok (acc ++ q.1, q.2)
theorem writesP_del {n : Nat} {t : Tok} {ts : List Tok} (hk : t.kind = 0) (ht : t.text = wDel) : writesP n (t :: ts) = match txt n ts with
    | .error f => .error f
    | .ok x => match writesP n x.2 with | .error f => .error f | .ok q => .ok (⟨x.1, true, []⟩ :: q.1, q.2) := by
  rw [writesP.eq_def]
  simp only []
  rw [if_neg (fun h => by rw [ht] at h; exact absurd h.2 (by decide)), if_pos ⟨hk, ht⟩]
  rcases ts with _ | ⟨k, ts⟩
  · rfl
  · simp only [txt]
    by_cases h1 : k.kind = 1
    · simp only [if_pos h1]; rfl
    · simp only [if_neg h1]
theorem writesP_put {n : Nat} {t : Tok} {ts : List Tok} (hk : t.kind = 0) (ht : t.text = wPut) : writesP n (t :: ts) = match txt n ts with
    | .error f => .error f
    | .ok x => match txt n x.2 with
      | .error f => .error f
      | .ok y => match writesP n y.2 with | .error f => .error f | .ok q => .ok (⟨x.1, false, y.1⟩ :: q.1, q.2) := by
  rw [writesP.eq_def]
  simp only []
  rw [if_neg (fun h => by rw [ht] at h; exact absurd h.2 (by decide)), if_neg (fun h => by rw [ht] at h; exact absurd h.2 (by decide)), if_pos ⟨hk, ht⟩]
  rcases ts with _ | ⟨k, _ | ⟨v, ts⟩⟩
  · rfl
  · simp only [txt]
    by_cases h1 : k.kind = 1
    · simp only [if_pos h1]
    · simp only [if_neg h1]
  · simp only [txt]
    by_cases h1 : k.kind = 1
    · simp only [if_pos h1]
      by_cases h2 : v.kind = 1
      · simp only [if_pos h2]; rfl
      · simp only [if_neg h2]
    · simp only [if_neg h1]
theorem writesP_sync {n : Nat} {t : Tok} {ts : List Tok} (hk : t.kind = 0) (ht : t.text = wSync) : writesP n (t :: ts) = .ok ([], true, ts) := by
  rw [writesP.eq_def]
  simp only []
  rw [if_pos ⟨hk, ht⟩]
theorem writesP_bad {n : Nat} {t : Tok} {ts : List Tok} (h : ¬ (t.kind = 0 ∧ (t.text = wSync ∨ t.text = wDel ∨ t.text = wPut))) : writesP n (t :: ts) = .error (t.pos, 200) := by
  rw [writesP.eq_def]
  simp only []
  rw [if_neg (fun g => h ⟨g.1, .inl g.2⟩), if_neg (fun g => h ⟨g.1, .inr (.inl g.2)⟩), if_neg (fun g => h ⟨g.1, .inr (.inr g.2)⟩)]

theorem RdT.far {w : World} {r n : Nat} {ts : List Tok} (h : RdT w r n ts) {lo size k : Nat} {v : Value} {xs : List Value} {e : TypeId} (ho : w.ownsRow lo e size v k xs) (he : e ≠ 103) {g : Nat} (hg : v.ownBlock = some g) : g ≠ r := by
  obtain ⟨line, a, hb, _⟩ := h
  exact owns_far ho hb he hg

theorem txt_len {n : Nat} {ts ts' : List Tok} {x : Bs} (h : txt n ts = .ok (x, ts')) : ts'.length + 1 = ts.length := by
  rcases ts with _ | ⟨t, ts⟩
  · cases h
  · simp only [txt] at h
    split at h
    · cases h; rfl
    · cases h

def Writing (w : World) (r b n : Nat) (cs : Value → Value → Array Value) (ts ts' : List Tok) (acc : List Wr) (wx : World) : Prop :=
  RdT wx r n ts' ∧ (∃ wv, Blk wx b 69 (cs wv (.bool false)) ∧ WritesAt wx w.heap.size wv acc) ∧ Mod [r, b] w wx ∧ WrAt n ts ts' acc ∧ acc.length + ts'.length ≤ ts.length

def WritesPost (w : World) (r b n : Nat) (cs : Value → Value → Array Value) (ts : List Tok) (e : Ending) (w' : World) : Prop :=
  match writesP n ts with
  | .error f => ∃ v, e = .returned v ∧ FaultIs w w' f v ∧ SomeStep w' b (cs (.slice none 0 0) (.bool false)) ∧ Mod [r, b] w w'
  | .ok q => e = .returned .nilIface ∧ RdT w' r n q.2.2 ∧ (∃ wv, Blk w' b 69 (cs wv (.bool q.2.1)) ∧ WritesAt w' w.heap.size wv q.1) ∧ Mod [r, b] w w'
theorem writes_bad {w w' : World} {r b n : Nat} {cs : Value → Value → Array Value} {ts : List Tok} {f : Flt} {e : Ending} (h : writesP n ts = .error f)
    (h2 : ∃ v, e = .returned v ∧ FaultIs w w' f v ∧ SomeStep w' b (cs (.slice none 0 0) (.bool false)) ∧ Mod [r, b] w w') : WritesPost w r b n cs ts e w' := by
  unfold WritesPost; rw [h]; exact h2
theorem writes_good {w w' : World} {r b n : Nat} {cs : Value → Value → Array Value} {ts ts' : List Tok} {acc : List Wr} {sy : Bool} {e : Ending} (h : writesP n ts = .ok (acc, sy, ts'))
    (h2 : e = .returned .nilIface ∧ RdT w' r n ts' ∧ (∃ wv, Blk w' b 69 (cs wv (.bool sy)) ∧ WritesAt w' w.heap.size wv acc) ∧ Mod [r, b] w w') : WritesPost w r b n cs ts e w' := by
  unfold WritesPost; rw [h]; exact h2

theorem writing_step {w W w4 : World} {r b n p : Nat} {v0 v1 v2 v3 v4 v7 v8 v9 v10 v11 wv : Value} {ts ts2 : List Tok} {acc : List Wr} {x : Wr} {O : Obj} {A : Option Addr} {k c : Nat} {w2 : World}
    (hrt : RdT w2 r n ts2) (hmW : Mod [p] w2 W) (hrp : r ≠ p) (hrb : r ≠ b) (hmWW : Mod [r, b] w W) (hNR : ∀ g, wv.ownBlock = some g → g ≠ r ∧ g ≠ b) (hoW : WritesAt W w.heap.size wv acc)
    (hg4 : (W.alloc O).drew.grownBy w4 wv.ownBlock) (hown4 : w4.ownsRow w.heap.size 71 3 (.slice A k c) (acc.length + 1) (acc.flatMap encWr ++ encWr x))
    (hb4 : Blk w4 b 69 #[v0, v1, v2, v3, v4, wv, .bool false, v7, v8, v9, v10, v11]) (hat : WrAt n ts ts2 (acc ++ [x])) (hal : acc.length + 1 + ts2.length ≤ ts.length) :
    Writing w r b n (fun wv sy => #[v0, v1, v2, v3, v4, wv, sy, v7, v8, v9, v10, v11]) ts ts2 (acc ++ [x]) (w4.setCell ⟨b, 5, none⟩ (.slice A k c)) := by
  have hrW : RdT W r n ts2 := hrt.frame hmW (by simpa using hrp)
  have hrl := hrW.lt
  have hr4 : RdT w4 r n ts2 := by
    obtain ⟨line, a, hb, h2⟩ := hrW
    exact ⟨line, a, (hg4.block r (by simp; omega) (fun e => (hNR r e.symm).1 rfl)).trans (hb.alloc _).drew, h2⟩
  refine ⟨hr4.frame (S := [b]) ((Mod.refl _ _).setCell (by simp) _) (by simpa using hrb), ⟨_, hb4.set_ 5 _, ?_⟩, ?_, hat, by simp; omega⟩
  · have h1 : w4.ownsRow w.heap.size 71 3 (.slice A k c) (acc ++ [x]).length ((acc ++ [x]).flatMap encWr) := by simpa using hown4
    exact owns_mod h1 ((Mod.refl [b] _).setCell (by simp) _) (fun g hg => by have := owns_far hown4 hb4 (by decide) hg; simpa using this)
  · refine Mod.setCell (Mod.grown ((hmWW.alloc _).drew) hg4 (fun g hg => .inr (own_ge hoW hg))) (by simp) _

set_option maxRecDepth 100000 in
set_option maxHeartbeats 4000000 in
theorem writes_walk (w : World) (r b n : Nat) (v0 v1 v2 v3 v4 v7 v8 v9 v10 v11 : Value) (ts : List Tok) (h : RdT w r n ts) (hn : n ≤ 1099511627776)
    (hb : Blk w b 69 #[v0, v1, v2, v3, v4, .slice none 0 0, .bool false, v7, v8, v9, v10, v11]) :
    Calls Tryz.prog 229 #[.pointer (some ⟨r, 0, none⟩), .pointer (some ⟨b, 4, none⟩)] w (WritesPost w r b n (fun wv sy => #[v0, v1, v2, v3, v4, wv, sy, v7, v8, v9, v10, v11]) ts) := by
  have hrb := h.ne_step hb
  have hlen := h.len
  have hbl := hb.lt
  have hrl := h.lt
  obtain ⟨i0, hi, hz0, hz1, hz2⟩ := info_parts info_write
  have HI := Lib.hid (And.intro hi (And.intro hz0 (And.intro hz1 hz2)))
  clear hi hz0 hz1 hz2
  have H0 : Writing w r b n (fun wv sy => #[v0, v1, v2, v3, v4, wv, sy, v7, v8, v9, v10, v11]) ts ts [] w := ⟨h, ⟨_, hb, ⟨by simp, .inl ⟨rfl, rfl⟩⟩⟩, Mod.refl _ _, by unfold WrAt; cases writesP n ts <;> rfl, by simp⟩
  have HS := Lib.hid H0
  clear H0 h hb
  go_enter Tryz.func229, Tryz.ntmps229
  go_wp2
  go_loopg [] ts.length (fun g wx => ∃ ts' acc, ts'.length = g ∧ Writing w r b n (fun wv sy => #[v0, v1, v2, v3, v4, wv, sy, v7, v8, v9, v10, v11]) ts ts' acc wx)
  case atStart => exact ⟨ts, [], rfl, HS.out⟩
  case round =>
    obtain ⟨ts', acc, hg, hrt, ⟨wv, hb, hown⟩, hm, hat, hal⟩ := hrel
    have hsz := hm.size
    have hnr : ∀ g, wv.ownBlock = some g → g ≠ r ∧ g ≠ b := fun g hg2 => ⟨hrt.far hown (by decide) hg2, owns_far hown hb (by decide) hg2⟩
    have HNR := Lib.hid hnr
    have HOW := Lib.hid (own_one hown)
    clear hnr
    rcases ts' with _ | ⟨t, ts'⟩
    · have HC := Lib.hid (next_nil wr r n hrt hn)
      have H := Lib.hid (And.intro hb (And.intro hown (And.intro hm hat)))
      clear hrt hb hown hm hat
      go_wp2_with fail
      refine HC.out.mono ?_
      rintro e w1 ⟨rfl, hrt, hm1⟩
      have H2 := Lib.hid (And.intro hrt hm1)
      clear hrt hm1
      go_wp2
      go_ret
      obtain ⟨hb, hown, hm, hat⟩ := H.out
      obtain ⟨hrt, hm1⟩ := H2.out
      have hm3 : Mod [] w1 ((w1.alloc (.cells #[.int .i64 0, .int .i64 0, .string ⟨#[]⟩] 145)).alloc (.cells #[.string ⟨#[]⟩, .bool false, .string ⟨#[]⟩] 71)) := ((Mod.refl [] w1).alloc _).alloc _
      refine writes_good (acc := acc) (sy := false) (ts' := []) (by unfold WrAt at hat; rw [hat]; simp [writesP]) ⟨rfl, hrt.frame hm3 (by simp), ⟨wv, hm3.blk (hm1.blk hb (by simp; omega)) (by simp), ?_⟩, ?_⟩
      · exact owns_mod (owns_mod hown hm1 (fun g hg => by simp; exact (HNR.out g hg).1)) hm3 (by simp)
      · exact (hm.trans (hm1.mono (by simp))).trans (hm3.mono (by simp))
    · obtain ⟨D, hD⟩ : ∃ D : ByteArray, D = ⟨t.text.toArray⟩ := ⟨_, rfl⟩
      have hDl : D.data.toList = t.text := by rw [hD]
      by_cases hbad : ¬ (t.kind = 0 ∧ (t.text = wSync ∨ t.text = wDel ∨ t.text = wPut))
      · -- a word that can't stand here
        have hE : writesP n ts = .error (t.pos, 200) := by unfold WrAt at hat; rw [hat, writesP_bad hbad]
        have HC := Lib.hid (next_cons wr r n t ts' D hD hrt hn)
        have hno : ((t.kind : Int) == 0) = false ∨ (((t.kind : Int) == 0) = true ∧ (D.toList == [115, 121, 110, 99]) = false ∧ (D.toList == [100, 101, 108]) = false ∧ (D.toList == [112, 117, 116]) = false) := by
          by_cases h0 : t.kind = 0
          · right
            rw [Lib.toList_data, hDl]
            refine ⟨by rw [h0]; rfl, ?_, ?_, ?_⟩ <;> rw [beq_eq_false_iff_ne] <;> intro h2 <;> apply hbad <;> refine ⟨h0, ?_⟩
            · exact .inl h2
            · exact .inr (.inl h2)
            · exact .inr (.inr h2)
          · left; rw [beq_eq_false_iff_ne]; omega
        have H := Lib.hid (And.intro hE (And.intro hb hm))
        clear hbad hE hrt hb hown hm hat hD hDl
        rcases hno with hk | ⟨hk, hx1, hx2, hx3⟩
        all_goals
          go_wp2_with fail
          refine HC.out.mono ?_
          rintro e w1 ⟨rfl, hrt, hm1⟩
          have H2 := Lib.hid hm1
          clear hrt hm1
          go_wp2
          go_ret
          obtain ⟨hE, hb, hm⟩ := H.out
          have hm1 := H2.out
          have hsz1 := hm1.size
          refine writes_bad hE ⟨_, rfl, ⟨w1.heap.size + 1 + 1, rfl, by omega, Blk.newAt _ _ _ (by simp)⟩, some_from ((((hm1.blk hb (by simp; omega)).alloc _).alloc _).alloc _) rfl (fun h => all_set (i := 5) h HOW.out), ?_⟩
          exact ((((hm.trans (hm1.mono (by simp))).alloc _).alloc _).alloc _)
      · have hgd : t.kind = 0 ∧ (t.text = wSync ∨ t.text = wDel ∨ t.text = wPut) := Classical.not_not.1 hbad
        clear hbad
        have hk : ((t.kind : Int) == 0) = true := by rw [hgd.1]; rfl
        have HC := Lib.hid (next_tok wr r n t ts' D hD (by omega) hrt hn)
        rcases hgd with ⟨hk0, ht | ht | ht⟩
        · -- sync
          have hE : writesP n ts = .ok (acc, true, ts') := by unfold WrAt at hat; rw [hat, writesP_sync hk0 ht]; simp
          have hx1 : (D.toList == [115, 121, 110, 99]) = true := by rw [Lib.toList_data, hDl, ht]; rfl
          have H := Lib.hid (And.intro hE (And.intro hb (And.intro hown hm)))
          clear hE hrt hb hown hm hat hD hDl ht hk0
          go_wp2_with fail
          refine HC.out.mono ?_
          rintro e w1 ⟨rfl, hrt, hm1⟩
          have hb1 := hm1.blk H.out.2.1 (by simp; omega)
          have hc6 := hb1.cell 6
          have hf6 := hb1.frozen 6
          have hb1l := hb1.lt
          simp at hc6
          have H2 := Lib.hid (And.intro hrt (And.intro hm1 hb1))
          clear hrt hm1 hb1
          go_wp2
          go_ret
          obtain ⟨hE, hb, hown, hm⟩ := H.out
          obtain ⟨hrt, hm1, hb1⟩ := H2.out
          have hmm : Mod [b] w1 (((w1.setCell ⟨b, 6, none⟩ (.bool true)).alloc (.cells #[.int .i64 t.kind, .int .i64 t.pos, .string D] 145)).alloc (.cells #[.string ⟨#[]⟩, .bool false, .string ⟨#[]⟩] 71)) := (((Mod.refl _ _).setCell (by simp) _).alloc _).alloc _
          refine writes_good hE ⟨rfl, hrt.frame hmm (by simp; omega), ⟨wv, ((hb1.set_ 6 _).alloc _).alloc _, ?_⟩, (hm.trans (hm1.mono (by simp))).trans (hmm.mono (by simp))⟩
          exact owns_mod (owns_mod hown hm1 (fun g hg => by simp; exact (HNR.out g hg).1)) hmm (fun g hg => by simp; exact (HNR.out g hg).2)
        · -- del
          have hx1 : (D.toList == [115, 121, 110, 99]) = false := by rw [Lib.toList_data, hDl, ht]; rfl
          have hx2 : (D.toList == [100, 101, 108]) = true := by rw [Lib.toList_data, hDl, ht]; rfl
          have hE := writesP_del (n := n) (ts := ts') hk0 ht
          rcases htx : txt n ts' with f | ⟨x, ts2⟩
          · rw [htx] at hE
            have hE2 : writesP n ts = .error f := by unfold WrAt at hat; rw [hat, hE]
            have H := Lib.hid (And.intro hE2 (And.intro hb (And.intro hm htx)))
            clear hE hE2 hrt hb hown hm hat hD hDl ht hk0 htx
            go_wp2_with fail
            refine HC.out.mono ?_
            rintro e w1 ⟨rfl, hrt, hm1⟩
            have H2 := Lib.hid (And.intro hrt hm1)
            clear hrt hm1
            go_wp2_with fail
            refine (rtext_bad _ r n ts' f H.out.2.2.2 (H2.out.1.frame (((Mod.refl [] w1).alloc _).alloc _) (by simp)) hn).mono ?_
            rintro e w2 ⟨s2, v, rfl, ⟨fb, rfl, hfb, hfk⟩, hm2⟩
            have hw2 := hm2.blk (Blk.newAt (w1.alloc (.cells #[.int .i64 t.kind, .int .i64 t.pos, .string D] 145)) 71 #[.string ⟨#[]⟩, .bool true, .string ⟨#[]⟩] (n := w1.heap.size + 1) (by simp)) (by simp; have := H2.out.2.size; omega)
            have hc0 := hw2.cell 0
            have hf0 := hw2.frozen 0
            have hw2l := hw2.lt
            simp at hc0
            have H3 := Lib.hid (And.intro hw2 (And.intro hfb (And.intro hfk hm2)))
            clear hw2 hfb hfk hm2
            go_wp2
            go_ret
            obtain ⟨hE, hb, hm, _⟩ := H.out
            obtain ⟨hrt, hm1⟩ := H2.out
            obtain ⟨hw2, hfb, hfk, hm2⟩ := H3.out
            have hs1 := hm1.size
            simp at hfb
            refine writes_bad hE ⟨_, rfl, ⟨fb, rfl, by omega, hfk.far (p := ⟨w1.heap.size + 1, 0, none⟩) (by simp; omega) _⟩, some_from ((hm2.blk (((hm1.blk hb (by simp; omega)).alloc _).alloc _) (by simp; omega)).far (p := ⟨w1.heap.size + 1, 0, none⟩) (by simp; omega) _) rfl (fun h => all_set (i := 5) h HOW.out), ?_⟩
            exact ((((hm.trans (hm1.mono (by simp))).alloc _).alloc _).trans (hm2.mono (by simp))).setCell (by simp; omega) _
          · rw [htx] at hE
            have hlt2 := txt_len htx
            have hat2 : WrAt n ts ts2 (acc ++ [⟨x, true, []⟩]) := by
              unfold WrAt at hat ⊢
              rw [hat, hE]
              simp only []
              cases writesP n ts2 <;> simp
            obtain ⟨X, hX⟩ : ∃ X : ByteArray, X = ⟨x.toArray⟩ := ⟨_, rfl⟩
            have H := Lib.hid (And.intro hat2 (And.intro hb (And.intro hm (And.intro htx (And.intro hX hown)))))
            clear hE hat2 hrt hb hown hm hat hD hDl ht hk0 htx hX
            go_wp2_with fail
            refine HC.out.mono ?_
            rintro e w1 ⟨rfl, hrt, hm1⟩
            have H2 := Lib.hid (And.intro hrt hm1)
            clear hrt hm1
            go_wp2_with fail
            refine (rtext_good _ r n ts' ts2 x X H.out.2.2.2.2.1 H.out.2.2.2.1 (H2.out.1.frame (((Mod.refl [] w1).alloc _).alloc _) (by simp)) hn).mono ?_
            rintro e w2 ⟨rfl, hrt2, hm2⟩
            have hw2 := hm2.blk (Blk.newAt (w1.alloc (.cells #[.int .i64 t.kind, .int .i64 t.pos, .string D] 145)) 71 #[.string ⟨#[]⟩, .bool true, .string ⟨#[]⟩] (n := w1.heap.size + 1) (by simp)) (by simp; have := H2.out.2.size; omega)
            have hb2 := hm2.blk (((H2.out.2.blk H.out.2.1 (by simp; omega)).alloc (.cells #[.int .i64 t.kind, .int .i64 t.pos, .string D] 145)).alloc (.cells #[.string ⟨#[]⟩, .bool true, .string ⟨#[]⟩] 71)) (by simp; omega)
            have hs1 := H2.out.2.size
            have hown2 : WritesAt w2 w.heap.size wv acc := owns_mod (owns_mod H.out.2.2.2.2.2 H2.out.2 (fun g hg => by simp; exact (HNR.out g hg).1)) ((((Mod.refl [] w1).alloc (.cells #[.int .i64 t.kind, .int .i64 t.pos, .string D] 145)).alloc (.cells #[.string ⟨#[]⟩, .bool true, .string ⟨#[]⟩] 71)).mono (S' := [r]) (by simp) |>.trans hm2) (fun g hg => by simp; exact (HNR.out g hg).1)
            have hc0 := hw2.cell 0
            have hc1 := hw2.cell 1
            have hc2 := hw2.cell 2
            have hcf0 := hw2.frozen 0
            have hcf1 := hw2.frozen 1
            have hcf2 := hw2.frozen 2
            simp at hc0 hc1 hc2
            have hb5 := hb2.cell 5
            have hbf5 := hb2.frozen 5
            simp at hb5
            have hw2l := hw2.lt
            have hb2l := hb2.lt
            have H3 := Lib.hid (And.intro hw2 (And.intro hb2 (And.intro hrt2 (And.intro hm2 hown2))))
            clear hw2 hb2 hrt2 hm2 hown2
            go_wp2
            clear hc0 hc1 hc2 hcf0 hcf1 hcf2 hb5 hbf5
            generalize hW : w2.setCell ⟨w1.heap.size + 1, 0, none⟩ (.string X) = W
            obtain ⟨hw2, hb2, hrt2, hm2, hown2⟩ := H3.out
            have hWs : w2.heap.size = W.heap.size := by rw [← hW]; simp
            have hmW : Mod [w1.heap.size + 1] w2 W := by rw [← hW]; exact (Mod.refl _ _).setCell (by simp) _
            have hwW : Blk W (w1.heap.size + 1) 71 #[.string X, .bool true, .string ⟨#[]⟩] := by rw [← hW]; exact hw2.set_ 0 _
            have hbW := hmW.blk hb2 (by simp; omega)
            have hms2 := hm2.size
            simp at hms2
            have hoW : WritesAt W w.heap.size wv acc := owns_mod hown2 hmW (fun g hg => by
              have h1 : g < wr.heap.size := own_lt H.out.2.2.2.2.2 hg
              simp; omega)
            have hmWW : Mod [r, b] w W := ((((H.out.2.2.1.trans (H2.out.2.mono (by simp))).alloc _).alloc _).trans (hm2.mono (by simp))).then hmW (fun i hi => by simp at hi; right; omega)
            clear hW
            have hc0 := hwW.cell 0
            have hc1 := hwW.cell 1
            have hc2 := hwW.cell 2
            have hcf0 := hwW.frozen 0
            have hcf1 := hwW.frozen 1
            have hcf2 := hwW.frozen 2
            simp at hc0 hc1 hc2
            have hb5 := hbW.cell 5
            have hbf5 := hbW.frozen 5
            simp at hb5
            have hbl2 := hbW.lt
            have hwl2 := hwW.lt
            have H4 := Lib.hid (And.intro hwW (And.intro hbW (And.intro hoW (And.intro hmWW (And.intro hmW hrt2)))))
            clear hw2 hb2 hrt2 hm2 hown2 hwW hbW hoW hmWW hmW
            have hac : acc.length + 1 ≤ 1099511627776 := by simp at hal; omega
            go_region_law (refine step_append_own rfl _ _ 65 rfl w.heap.size 71 i0 (.agg #[.string ⟨#[]⟩, .bool false, .string ⟨#[]⟩]) 3 40 Tryz.underlying65 HI.out.1 HI.out.2.1 HI.out.2.2.1 HI.out.2.2.2 rfl (by decide) _ acc.length (acc.flatMap encWr) rfl ((H4.out.2.2.1.alloc _).drew) ⟨W.heap.size, 0, none⟩ 1 1 [.string X, .bool true, .string ⟨#[]⟩] rfl rfl (fun j u hu => cell_three_new _ _ _ _ _ j u hu) (by intro u hu; simp at hu; rcases hu with rfl | rfl | rfl <;> rfl) (by unfold maxLen; omega) (by omega) (by simp; omega) ?_; intro A2 k2 c2 w4 hown4 hg4; have hb4 := (show Blk w4 b 69 _ from (hg4.block b (by simp; omega) (fun e => (HNR.out b e.symm).2 rfl)).trans (H4.out.2.1.alloc _).drew); have h45 := hb4.cell 5; have h45f := hb4.frozen 5; simp at h45; have H5 := Lib.hid (And.intro hown4 (And.intro hg4 hb4)); clear hown4 hg4 hb4)
            all_goals
              go_wp2
              go_roundg ts2.length
              case measure => simp at hg; omega
              case rel =>
                obtain ⟨hown4, hg4, hb4⟩ := H5.out
                obtain ⟨hwW, hbW, hoW, hmWW, hmW, hrt2⟩ := H4.out
                exact ⟨ts2, _, rfl, writing_step (x := ⟨x, true, []⟩) hrt2 hmW (by omega) hrb hmWW HNR.out hoW hg4 (by rw [H.out.2.2.2.2.1] at hown4; exact hown4) hb4 H.out.1 (by simp at hal; omega)⟩
        · -- put
          have hx1 : (D.toList == [115, 121, 110, 99]) = false := by rw [Lib.toList_data, hDl, ht]; rfl
          have hx2 : (D.toList == [100, 101, 108]) = false := by rw [Lib.toList_data, hDl, ht]; rfl
          have hx3 : (D.toList == [112, 117, 116]) = true := by rw [Lib.toList_data, hDl, ht]; rfl
          have hE := writesP_put (n := n) (ts := ts') hk0 ht
          rcases htx : txt n ts' with f | ⟨x, ts2⟩
          · rw [htx] at hE
            have hE2 : writesP n ts = .error f := by unfold WrAt at hat; rw [hat, hE]
            have H := Lib.hid (And.intro hE2 (And.intro hb (And.intro hm htx)))
            clear hE hE2 hrt hb hown hm hat hD hDl ht hk0 htx
            go_wp2_with fail
            refine HC.out.mono ?_
            rintro e w1 ⟨rfl, hrt, hm1⟩
            have H2 := Lib.hid (And.intro hrt hm1)
            clear hrt hm1
            go_wp2_with fail
            refine (rtext_bad _ r n ts' f H.out.2.2.2 (H2.out.1.frame (((Mod.refl [] w1).alloc _).alloc _) (by simp)) hn).mono ?_
            rintro e w2 ⟨s2, v, rfl, ⟨fb, rfl, hfb, hfk⟩, hm2⟩
            have hw2 := hm2.blk (Blk.newAt (w1.alloc (.cells #[.int .i64 t.kind, .int .i64 t.pos, .string D] 145)) 71 #[.string ⟨#[]⟩, .bool false, .string ⟨#[]⟩] (n := w1.heap.size + 1) (by simp)) (by simp; have := H2.out.2.size; omega)
            have hc0 := hw2.cell 0
            have hf0 := hw2.frozen 0
            have hw2l := hw2.lt
            simp at hc0
            have H3 := Lib.hid (And.intro hw2 (And.intro hfb (And.intro hfk hm2)))
            clear hw2 hfb hfk hm2
            go_wp2
            go_ret
            obtain ⟨hE, hb, hm, _⟩ := H.out
            obtain ⟨hrt, hm1⟩ := H2.out
            obtain ⟨hw2, hfb, hfk, hm2⟩ := H3.out
            have hs1 := hm1.size
            simp at hfb
            refine writes_bad hE ⟨_, rfl, ⟨fb, rfl, by omega, hfk.far (p := ⟨w1.heap.size + 1, 0, none⟩) (by simp; omega) _⟩, some_from ((hm2.blk (((hm1.blk hb (by simp; omega)).alloc _).alloc _) (by simp; omega)).far (p := ⟨w1.heap.size + 1, 0, none⟩) (by simp; omega) _) rfl (fun h => all_set (i := 5) h HOW.out), ?_⟩
            exact ((((hm.trans (hm1.mono (by simp))).alloc _).alloc _).trans (hm2.mono (by simp))).setCell (by simp; omega) _
          · rw [htx] at hE
            simp only [] at hE
            have hlt2 := txt_len htx
            obtain ⟨X, hX⟩ : ∃ X : ByteArray, X = ⟨x.toArray⟩ := ⟨_, rfl⟩
            rcases hty : txt n ts2 with f | ⟨y, ts3⟩
            · rw [hty] at hE
              have hE2 : writesP n ts = .error f := by unfold WrAt at hat; rw [hat, hE]
              have H := Lib.hid (And.intro hE2 (And.intro hb (And.intro hm (And.intro htx (And.intro hX hty)))))
              clear hE hE2 hrt hb hown hm hat hD hDl ht hk0 htx hX hty
              go_wp2_with fail
              refine HC.out.mono ?_
              rintro e w1 ⟨rfl, hrt, hm1⟩
              have H2 := Lib.hid (And.intro hrt hm1)
              clear hrt hm1
              go_wp2_with fail
              refine (rtext_good _ r n ts' ts2 x X H.out.2.2.2.2.1 H.out.2.2.2.1 (H2.out.1.frame (((Mod.refl [] w1).alloc _).alloc _) (by simp)) hn).mono ?_
              rintro e w2 ⟨rfl, hrt2, hm2⟩
              have hw2 := hm2.blk (Blk.newAt (w1.alloc (.cells #[.int .i64 t.kind, .int .i64 t.pos, .string D] 145)) 71 #[.string ⟨#[]⟩, .bool false, .string ⟨#[]⟩] (n := w1.heap.size + 1) (by simp)) (by simp; have := H2.out.2.size; omega)
              have hc0 := hw2.cell 0
              have hf0 := hw2.frozen 0
              have hw2l := hw2.lt
              simp at hc0
              have H3 := Lib.hid (And.intro hw2 (And.intro hrt2 hm2))
              clear hw2 hrt2 hm2
              go_wp2_with fail
              refine (rtext_bad _ r n ts2 f H.out.2.2.2.2.2 (H3.out.2.1.frame (S := [w1.heap.size + 1]) ((Mod.refl _ w2).setCell (by simp) _) (by simp; have := H2.out.2.size; omega)) hn).mono ?_
              rintro e w3 ⟨s3, v, rfl, ⟨fb, rfl, hfb, hfk⟩, hm3⟩
              have hw3 := hm3.blk (H3.out.1.set_ 0 (.string X)) (by simp; have := H2.out.2.size; omega)
              have hc2 := hw3.cell 2
              have hf2 := hw3.frozen 2
              have hw3l := hw3.lt
              simp at hc2
              have H4 := Lib.hid (And.intro hw3 (And.intro hfb (And.intro hfk hm3)))
              clear hw3 hfb hfk hm3
              go_wp2
              go_ret
              obtain ⟨hE, hb, hm, _⟩ := H.out
              obtain ⟨hrt, hm1⟩ := H2.out
              obtain ⟨hw2, hrt2, hm2⟩ := H3.out
              obtain ⟨hw3, hfb, hfk, hm3⟩ := H4.out
              have hs1 := hm1.size
              have hs2 := hm2.size
              simp at hfb hs2
              have hmx : Mod [r, b] w (w2.setCell ⟨w1.heap.size + 1, 0, none⟩ (.string X)) := ((((hm.trans (hm1.mono (by simp))).alloc _).alloc _).trans (hm2.mono (by simp))).setCell (by simp; omega) _
              have hbx := (hm2.blk (((hm1.blk hb (by simp; omega)).alloc (.cells #[.int .i64 t.kind, .int .i64 t.pos, .string D] 145)).alloc (.cells #[.string ⟨#[]⟩, .bool false, .string ⟨#[]⟩] 71)) (by simp; omega)).far (p := ⟨w1.heap.size + 1, 0, none⟩) (by simp; omega) (.string X)
              refine writes_bad hE ⟨_, rfl, ⟨fb, rfl, by omega, hfk.far (p := ⟨w1.heap.size + 1, 2, none⟩) (by simp; omega) _⟩, some_from ((hm3.blk hbx (by simp; omega)).far (p := ⟨w1.heap.size + 1, 2, none⟩) (by simp; omega) _) rfl (fun h => all_set (i := 5) h HOW.out), ?_⟩
              exact (hmx.trans (hm3.mono (by simp))).setCell (by simp; omega) _
            · rw [hty] at hE
              have hlt3 := txt_len hty
              have hat2 : WrAt n ts ts3 (acc ++ [⟨x, false, y⟩]) := by
                unfold WrAt at hat ⊢
                rw [hat, hE]
                simp only []
                cases writesP n ts3 <;> simp
              obtain ⟨Y, hY⟩ : ∃ Y : ByteArray, Y = ⟨y.toArray⟩ := ⟨_, rfl⟩
              have H := Lib.hid (And.intro hat2 (And.intro hb (And.intro hm (And.intro htx (And.intro hX (And.intro hown (And.intro hty hY)))))))
              clear hE hat2 hrt hb hown hm hat hD hDl ht hk0 htx hX hty hY
              go_wp2_with fail
              refine HC.out.mono ?_
              rintro e w1 ⟨rfl, hrt, hm1⟩
              have H2 := Lib.hid (And.intro hrt hm1)
              clear hrt hm1
              go_wp2_with fail
              refine (rtext_good _ r n ts' ts2 x X H.out.2.2.2.2.1 H.out.2.2.2.1 (H2.out.1.frame (((Mod.refl [] w1).alloc _).alloc _) (by simp)) hn).mono ?_
              rintro e w2 ⟨rfl, hrt2, hm2⟩
              have hs1 := H2.out.2.size
              have hw2 := hm2.blk (Blk.newAt (w1.alloc (.cells #[.int .i64 t.kind, .int .i64 t.pos, .string D] 145)) 71 #[.string ⟨#[]⟩, .bool false, .string ⟨#[]⟩] (n := w1.heap.size + 1) (by simp)) (by simp; omega)
              have hb2 := hm2.blk (((H2.out.2.blk H.out.2.1 (by simp; omega)).alloc (.cells #[.int .i64 t.kind, .int .i64 t.pos, .string D] 145)).alloc (.cells #[.string ⟨#[]⟩, .bool false, .string ⟨#[]⟩] 71)) (by simp; omega)
              have hown2 : WritesAt w2 w.heap.size wv acc := owns_mod (owns_mod H.out.2.2.2.2.2.1 H2.out.2 (fun g hg => by simp; exact (HNR.out g hg).1)) ((((Mod.refl [] w1).alloc (.cells #[.int .i64 t.kind, .int .i64 t.pos, .string D] 145)).alloc (.cells #[.string ⟨#[]⟩, .bool false, .string ⟨#[]⟩] 71)).mono (S' := [r]) (by simp) |>.trans hm2) (fun g hg => by simp; exact (HNR.out g hg).1)
              have hc0 := hw2.cell 0
              have hf0 := hw2.frozen 0
              have hw2l := hw2.lt
              simp at hc0
              have H3 := Lib.hid (And.intro hw2 (And.intro hb2 (And.intro hrt2 (And.intro hm2 hown2))))
              clear hw2 hb2 hrt2 hm2 hown2
              go_wp2_with fail
              refine (rtext_good _ r n ts2 ts3 y Y H.out.2.2.2.2.2.2.2 H.out.2.2.2.2.2.2.1 (H3.out.2.2.1.frame (S := [w1.heap.size + 1]) ((Mod.refl _ w2).setCell (by simp) _) (by simp; omega)) hn).mono ?_
              rintro e w3 ⟨rfl, hrt3, hm3⟩
              have hw3 := hm3.blk (H3.out.1.set_ 0 (.string X)) (by simp; omega)
              have hb3 := hm3.blk (H3.out.2.1.far (p := ⟨w1.heap.size + 1, 0, none⟩) (by simp; omega) (.string X)) (by simp; omega)
              have hms3 := hm3.size
              have hms2 := H3.out.2.2.2.1.size
              simp at hms3 hms2
              have hown3 : WritesAt w3 w.heap.size wv acc := owns_mod (owns_mod H3.out.2.2.2.2 ((Mod.refl [w1.heap.size + 1] w2).setCell (p := ⟨w1.heap.size + 1, 0, none⟩) (by simp) (.string X)) (fun g hg => by
                have h1 : g < wr.heap.size := own_lt H.out.2.2.2.2.2.1 hg
                simp; omega)) hm3 (fun g hg => by simp; exact (HNR.out g hg).1)
              have hmW3 : Mod [r, b] w w3 := (((((H.out.2.2.1.trans (H2.out.2.mono (by simp))).alloc (.cells #[.int .i64 t.kind, .int .i64 t.pos, .string D] 145)).alloc (.cells #[.string ⟨#[]⟩, .bool false, .string ⟨#[]⟩] 71)).trans (H3.out.2.2.2.1.mono (by simp))).setCell (p := ⟨w1.heap.size + 1, 0, none⟩) (by simp; omega) (.string X)).trans (hm3.mono (by simp))
              have hc2 := hw3.cell 2
              have hf2 := hw3.frozen 2
              have hw3l := hw3.lt
              simp at hc2
              have H3b := Lib.hid (And.intro hw3 (And.intro hb3 (And.intro hown3 (And.intro hmW3 hrt3))))
              clear hw3 hb3 hown3 hmW3 hrt3 hm3
              go_wp2
              clear hc2 hf2 hc0 hf0
              generalize hW : w3.setCell ⟨w1.heap.size + 1, 2, none⟩ (.string Y) = W
              obtain ⟨hw3, hb3, hown3, hmW3, hrt3⟩ := H3b.out
              have hWs : w3.heap.size = W.heap.size := by rw [← hW]; simp
              have hmW : Mod [w1.heap.size + 1] w3 W := by rw [← hW]; exact (Mod.refl _ _).setCell (by simp) _
              have hwW : Blk W (w1.heap.size + 1) 71 #[.string X, .bool false, .string Y] := by rw [← hW]; exact hw3.set_ 2 _
              have hbW := hmW.blk hb3 (by simp; omega)
              have hoW : WritesAt W w.heap.size wv acc := owns_mod hown3 hmW (fun g hg => by
                have h1 : g < wr.heap.size := own_lt H.out.2.2.2.2.2.1 hg
                simp; omega)
              have hmWW : Mod [r, b] w W := hmW3.then hmW (fun i hi => by simp at hi; right; omega)
              clear hW
              have hc0 := hwW.cell 0
              have hc1 := hwW.cell 1
              have hc2 := hwW.cell 2
              have hcf0 := hwW.frozen 0
              have hcf1 := hwW.frozen 1
              have hcf2 := hwW.frozen 2
              simp at hc0 hc1 hc2
              have hb5 := hbW.cell 5
              have hbf5 := hbW.frozen 5
              simp at hb5
              have hbl2 := hbW.lt
              have hwl2 := hwW.lt
              have H4 := Lib.hid (And.intro hwW (And.intro hbW (And.intro hoW (And.intro hmWW (And.intro hmW hrt3)))))
              clear hw3 hb3 hown3 hmW3 hrt3 hwW hbW hoW hmWW hmW
              have hac : acc.length + 1 ≤ 1099511627776 := by simp at hal; omega
              go_region_law (refine step_append_own rfl _ _ 65 rfl w.heap.size 71 i0 (.agg #[.string ⟨#[]⟩, .bool false, .string ⟨#[]⟩]) 3 40 Tryz.underlying65 HI.out.1 HI.out.2.1 HI.out.2.2.1 HI.out.2.2.2 rfl (by decide) _ acc.length (acc.flatMap encWr) rfl ((H4.out.2.2.1.alloc _).drew) ⟨W.heap.size, 0, none⟩ 1 1 [.string X, .bool false, .string Y] rfl rfl (fun j u hu => cell_three_new _ _ _ _ _ j u hu) (by intro u hu; simp at hu; rcases hu with rfl | rfl | rfl <;> rfl) (by unfold maxLen; omega) (by omega) (by simp; omega) ?_; intro A2 k2 c2 w4 hown4 hg4; have hb4 := (show Blk w4 b 69 _ from (hg4.block b (by simp; omega) (fun e => (HNR.out b e.symm).2 rfl)).trans (H4.out.2.1.alloc _).drew); have h45 := hb4.cell 5; have h45f := hb4.frozen 5; simp at h45; have H5 := Lib.hid (And.intro hown4 (And.intro hg4 hb4)); clear hown4 hg4 hb4)
              all_goals
                go_wp2
                go_roundg ts3.length
                case measure => simp at hg; omega
                case rel =>
                  obtain ⟨hown4, hg4, hb4⟩ := H5.out
                  obtain ⟨hwW, hbW, hoW, hmWW, hmW, hrt3⟩ := H4.out
                  exact ⟨ts3, _, rfl, writing_step (x := ⟨x, false, y⟩) hrt3 hmW (by omega) hrb hmWW HNR.out hoW hg4 (by rw [H.out.2.2.2.2.1, H.out.2.2.2.2.2.2.2] at hown4; exact hown4) hb4 H.out.1 (by simp at hal; omega)⟩
end Go.Proofs.YtjieelmbgfnllaaGreatDoor

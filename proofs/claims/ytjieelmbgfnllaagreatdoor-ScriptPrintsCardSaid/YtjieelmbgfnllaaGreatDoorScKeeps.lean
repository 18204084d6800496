/- What keeps hands back: the numbers of a fall. Conditions: a line of at most 2^40 bytes. -/
import Derived.Test.YtjieelmbgfnllaaGreatDoorScWrites
namespace Go.Proofs.YtjieelmbgfnllaaGreatDoor
open Go.RowKit Scr

def KpAt (n : Nat) (ts ts' : List Tok) (acc : List Int) : Prop :=
  keepsP n ts = match keepsP n ts' with | .error f => .error f | .ok l => .ok (acc ++ l)
theorem num_rest {n : Nat} {lo hi x : Int} {t : Tok} {ts ts2 : List Tok} (h : num n lo hi (t :: ts) = .ok (x, ts2)) : ts2 = ts := by
  simp only [num] at h
  split at h
  · cases h
  · split at h
    · cases h
    · split at h
      · cases h; rfl
      · cases h
theorem keepsP_cons {n : Nat} {t : Tok} {ts : List Tok} : keepsP n (t :: ts) = match numAny n (t :: ts) with
    | .error e => .error e
    | .ok r => match keepsP n r.2 with | .error e => .error e | .ok l => .ok (r.1 :: l) := by
  rw [keepsP]
  rcases h : numAny n (t :: ts) with e | ⟨x, ts2⟩
  · rfl
  · have := num_rest h
    subst this
    rfl

def Keeping (w : World) (r b n : Nat) (cs : Value → Array Value) (ts ts' : List Tok) (acc : List Int) (wx : World) : Prop :=
  RdT wx r n ts' ∧ (∃ kv, Blk wx b 69 (cs kv) ∧ IntsAt wx w.heap.size kv acc) ∧ Mod [r, b] w wx ∧ KpAt n ts ts' acc ∧ acc.length + ts'.length ≤ ts.length

def KeepsPost (w : World) (r b n : Nat) (cs : Value → Array Value) (ts : List Tok) (e : Ending) (w' : World) : Prop :=
  match keepsP n ts with
  | .error f => ∃ v, e = .returned v ∧ FaultIs w w' f v ∧ SomeStep w' b (cs (.slice none 0 0)) ∧ Mod [r, b] w w'
  | .ok l => e = .returned .nilIface ∧ (∃ kv, Blk w' b 69 (cs kv) ∧ IntsAt w' w.heap.size kv l) ∧ Mod [r, b] w w'
theorem keeps_bad {w w' : World} {r b n : Nat} {cs : Value → Array Value} {ts : List Tok} {f : Flt} {e : Ending} (h : keepsP n ts = .error f)
    (h2 : ∃ v, e = .returned v ∧ FaultIs w w' f v ∧ SomeStep w' b (cs (.slice none 0 0)) ∧ Mod [r, b] w w') : KeepsPost w r b n cs ts e w' := by
  unfold KeepsPost; rw [h]; exact h2
theorem keeps_good {w w' : World} {r b n : Nat} {cs : Value → Array Value} {ts : List Tok} {l : List Int} {e : Ending} (h : keepsP n ts = .ok l)
    (h2 : e = .returned .nilIface ∧ (∃ kv, Blk w' b 69 (cs kv) ∧ IntsAt w' w.heap.size kv l) ∧ Mod [r, b] w w') : KeepsPost w r b n cs ts e w' := by
  unfold KeepsPost; rw [h]; exact h2

set_option maxRecDepth 100000 in
set_option maxHeartbeats 4000000 in
theorem keeps_walk (w : World) (r b n : Nat) (v0 v1 v2 v3 v4 v5 v6 v7 v8 v9 v10 : Value) (ts : List Tok) (h : RdT w r n ts) (hn : n ≤ 1099511627776)
    (hb : Blk w b 69 #[v0, v1, v2, v3, v4, v5, v6, v7, v8, v9, v10, .slice none 0 0]) :
    Calls Tryz.prog 164 #[.pointer (some ⟨r, 0, none⟩), .pointer (some ⟨b, 0, none⟩)] w (KeepsPost w r b n (fun kv => #[v0, v1, v2, v3, v4, v5, v6, v7, v8, v9, v10, kv]) ts) := by
  have hrb := h.ne_step hb
  have hlen := h.len
  have hbl := hb.lt
  have hrl := h.lt
  obtain ⟨i0, hi, hz0, hz1, hz2⟩ := info_parts info_int
  have HI := Lib.hid (And.intro hi (And.intro hz0 (And.intro hz1 hz2)))
  clear hi hz0 hz1 hz2
  have H0 : Keeping w r b n (fun kv => #[v0, v1, v2, v3, v4, v5, v6, v7, v8, v9, v10, kv]) ts ts [] w := ⟨h, ⟨_, hb, ⟨by simp, .inl ⟨rfl, rfl⟩⟩⟩, Mod.refl _ _, by unfold KpAt; cases keepsP n ts <;> rfl, by simp⟩
  have HS := Lib.hid H0
  clear H0 h hb
  go_enter Tryz.func164, Tryz.ntmps164
  go_wp2
  go_loopg [] ts.length (fun g wx => ∃ ts' acc, ts'.length = g ∧ Keeping w r b n (fun kv => #[v0, v1, v2, v3, v4, v5, v6, v7, v8, v9, v10, kv]) ts ts' acc wx)
  case atStart => exact ⟨ts, [], rfl, HS.out⟩
  case round =>
    obtain ⟨ts', acc, hg, hrt, ⟨wv, hb, hown⟩, hm, hat, hal⟩ := hrel
    have hsz := hm.size
    have hnr : ∀ g, wv.ownBlock = some g → g ≠ r ∧ g ≠ b := fun g hg2 => ⟨hrt.far hown (by decide) hg2, owns_far hown hb (by decide) hg2⟩
    have HNR := Lib.hid hnr
    have HOW := Lib.hid (own_one hown)
    obtain ⟨line, a, hbr, hra⟩ := hrt
    have hl0 := hbr.cell 0
    have hl1 := hbr.cell 1
    have hlf0 := hbr.frozen 0
    have hlf1 := hbr.frozen 1
    simp at hl0 hl1
    have hrw := hbr.lt
    have hR : RdT wr r n ts' := ⟨line, a, hbr, hra⟩
    have hRA := Lib.hid (And.intro hR (And.intro hbr hra))
    have H := Lib.hid (And.intro hb (And.intro hown (And.intro hm hat)))
    clear hR hbr hra hnr hb hown hm hat
    rcases ts' with _ | ⟨t, ts'⟩
    · have HC := Lib.hid (next_nil (wr.alloc (.cells #[.string line, .int .i64 a] 103)) r n (hRA.out.1.frame ((Mod.refl [] wr).alloc _) (by simp)) hn)
      go_wp2_with fail
      refine HC.out.mono ?_
      rintro e w1 ⟨rfl, hrt, hm1⟩
      have H2 := Lib.hid (And.intro hrt hm1)
      clear hrt hm1
      go_wp2
      go_ret
      obtain ⟨hb, hown, hm, hat⟩ := H.out
      obtain ⟨hrt, hm1⟩ := H2.out
      have hm1' : Mod [r] wr w1 := ((Mod.refl [r] wr).alloc _).trans hm1
      refine keeps_good (l := acc) (by unfold KpAt at hat; rw [hat]; simp [keepsP]) ⟨rfl, ⟨wv, (hm1'.blk hb (by simp; omega)).alloc _, ?_⟩, ?_⟩
      · exact owns_mod (owns_mod hown hm1' (fun g hg => by simp; exact (HNR.out g hg).1)) ((Mod.refl [] w1).alloc _) (by simp)
      · exact (hm.trans (hm1'.mono (by simp))).alloc _
    · obtain ⟨D, hD⟩ : ∃ D : ByteArray, D = ⟨t.text.toArray⟩ := ⟨_, rfl⟩
      have HC := Lib.hid (next_cons (wr.alloc (.cells #[.string line, .int .i64 a] 103)) r n t ts' D hD (hRA.out.1.frame ((Mod.refl [] wr).alloc _) (by simp)) hn)
      clear hD
      rcases hnum : numAny n (t :: ts') with f | ⟨x, ts2⟩
      · have hE : keepsP n ts = .error f := by
          have := H.out.2.2.2
          unfold KpAt at this; rw [this, keepsP_cons, hnum]
        have HE := Lib.hid (And.intro hE hnum)
        clear hE hnum
        go_wp2_with fail
        refine HC.out.mono ?_
        rintro e w1 ⟨rfl, ⟨line1, a1, hb1, _, _, _⟩, hm1⟩
        have hsv := hm1.blk (Blk.new wr 103 #[.string line, .int .i64 a]) (by simp; omega)
        have hs0 := hsv.cell 0
        have hs1 := hsv.cell 1
        have hsf0 := hsv.frozen 0
        have hsf1 := hsv.frozen 1
        simp at hs0 hs1
        have hq0 := hb1.cell 0
        have hq1 := hb1.cell 1
        have hqf0 := hb1.frozen 0
        have hqf1 := hb1.frozen 1
        simp at hq0 hq1
        have hb1l := hb1.lt
        have hsvl := hsv.lt
        have H2 := Lib.hid (And.intro hb1 (And.intro hsv hm1))
        clear hb1 hsv hm1
        go_wp2_with fail
        have hR3 : RdT (((w1.setCell ⟨r, 0, none⟩ (.string line)).setCell ⟨r, 1, none⟩ (.int .i64 a)).alloc (.cells #[.int .i64 t.kind, .int .i64 t.pos, .string D] 145)) r n (t :: ts') := ⟨line, a, ((H2.out.1.set_ 0 _).set_ 1 _).alloc _, hRA.out.2.2⟩
        refine (rnumber_bad _ r n _ _ (t :: ts') f HE.out.2 hR3 hn).mono ?_
        rintro e w2 ⟨v, rfl, ⟨fb, rfl, hfb, hfk⟩, hm2⟩
        have H3 := Lib.hid (And.intro hfb (And.intro hfk hm2))
        clear hfb hfk hm2 hR3
        go_wp2
        go_ret
        obtain ⟨hb, hown, hm, hat⟩ := H.out
        obtain ⟨hb1, hsv, hm1⟩ := H2.out
        obtain ⟨hfb, hfk, hm2⟩ := H3.out
        have hm1' : Mod [r] wr w1 := ((Mod.refl [r] wr).alloc _).trans hm1
        have hs1 := hm1'.size
        simp at hfb
        refine keeps_bad HE.out.1 ⟨_, rfl, ⟨fb, rfl, by omega, hfk⟩, some_from (hm2.blk ((((hm1'.blk hb (by simp; omega)).far (p := ⟨r, 0, none⟩) (by simp; omega) _).far (p := ⟨r, 1, none⟩) (by simp; omega) _).alloc _) (by simp; omega)) rfl (fun h => all_set (i := 11) h HOW.out), ?_⟩
        exact ((((hm.trans (hm1'.mono (by simp))).setCell (by simp) _).setCell (by simp) _).alloc _).trans (hm2.mono (by simp))
      · have hr := num_rest hnum
        subst hr
        have hat2 : KpAt n ts ts2 (acc ++ [x]) := by
          have := H.out.2.2.2
          unfold KpAt at this ⊢
          rw [this, keepsP_cons, hnum]
          simp only []
          cases keepsP n ts2 <;> simp
        have HE := Lib.hid (And.intro hat2 hnum)
        clear hat2 hnum
        go_wp2_with fail
        refine HC.out.mono ?_
        rintro e w1 ⟨rfl, ⟨line1, a1, hb1, _, _, _⟩, hm1⟩
        have hsv := hm1.blk (Blk.new wr 103 #[.string line, .int .i64 a]) (by simp; omega)
        have hs0 := hsv.cell 0
        have hs1 := hsv.cell 1
        have hsf0 := hsv.frozen 0
        have hsf1 := hsv.frozen 1
        simp at hs0 hs1
        have hq0 := hb1.cell 0
        have hq1 := hb1.cell 1
        have hqf0 := hb1.frozen 0
        have hqf1 := hb1.frozen 1
        simp at hq0 hq1
        have hb1l := hb1.lt
        have hsvl := hsv.lt
        have H2 := Lib.hid (And.intro hb1 (And.intro hsv hm1))
        clear hb1 hsv hm1
        go_wp2_with fail
        have hR3 : RdT (((w1.setCell ⟨r, 0, none⟩ (.string line)).setCell ⟨r, 1, none⟩ (.int .i64 a)).alloc (.cells #[.int .i64 t.kind, .int .i64 t.pos, .string D] 145)) r n (t :: ts2) := ⟨line, a, ((H2.out.1.set_ 0 _).set_ 1 _).alloc _, hRA.out.2.2⟩
        refine (rnumber_good _ r n _ _ x (t :: ts2) ts2 HE.out.2 hR3 hn).mono ?_
        rintro e w2 ⟨rfl, hrt2, hm2⟩
        have hs1 := H2.out.2.2.size
        simp at hs1
        have hm1' : Mod [r] wr (((w1.setCell ⟨r, 0, none⟩ (.string line)).setCell ⟨r, 1, none⟩ (.int .i64 a)).alloc (.cells #[.int .i64 t.kind, .int .i64 t.pos, .string D] 145)) := (((((Mod.refl [r] wr).alloc _).trans H2.out.2.2).setCell (by simp) _).setCell (by simp) _).alloc _
        have hmw2 := hm1'.trans hm2
        have hs2 := hmw2.size
        have hb2 := hmw2.blk H.out.1 (by simp; omega)
        have hown2 : IntsAt w2 w.heap.size wv acc := owns_mod H.out.2.1 hmw2 (fun g hg => by simp; exact (HNR.out g hg).1)
        have hc11 := hb2.cell 11
        have hcf11 := hb2.frozen 11
        have hb2l := hb2.lt
        simp at hc11
        have hac : acc.length + 1 ≤ 1099511627776 := by simp at hal; omega
        have H3 := Lib.hid (And.intro hrt2 (And.intro hmw2 (And.intro hb2 hown2)))
        clear hrt2 hm2 hR3 hm1' hmw2 hb2 hown2
        clear hl0 hl1 hlf0 hlf1 hs0 hs1 hsf0 hsf1 hq0 hq1 hqf0 hqf1
        go_wp2_with (at_builtin; refine wpList_append_own _ rfl _ _ 36 rfl w.heap.size 3 i0 (.int .i64 0) 1 8 Tryz.underlying36 HI.out.1 HI.out.2.1 HI.out.2.2.1 HI.out.2.2.2 rfl (by decide) _ _ _ rfl (H3.out.2.2.2.alloc _) ⟨w2.heap.size, 0, none⟩ 1 1 [.int .i64 x] rfl rfl ?c1 ?c2 ?c3 ?c4 ?c5 ?_)
        case c1 => exact cell_one_new _ _ _
        case c2 => intro u hu; simp at hu; subst hu; rfl
        case c3 => unfold maxLen; omega
        case c4 => omega
        case c5 => simp; omega
        intro v2 w4 hown4 hg4 _
        obtain ⟨A2, k2, c2, rfl⟩ : ∃ A k c, v2 = .slice A k c := by
          rcases hown4.2 with ⟨rfl, _⟩ | ⟨g, cap, cur, rfl, _⟩
          · exact ⟨_, _, _, rfl⟩
          · exact ⟨_, _, _, rfl⟩
        have hb4 : Blk w4 b 69 _ := (hg4.block b (by simp; omega) (fun e => (HNR.out b e.symm).2 rfl)).trans (H3.out.2.2.1.alloc _)
        have h45 := hb4.cell 11
        have h45f := hb4.frozen 11
        simp at h45
        have H5 := Lib.hid (And.intro hown4 (And.intro hg4 hb4))
        clear hown4 hg4 hb4 hc11 hcf11
        go_wp2
        go_roundg ts2.length
        case measure => simp at hg; omega
        case rel =>
          obtain ⟨hown4, hg4, hb4⟩ := H5.out
          obtain ⟨hrt2, hmw2, hb2, hown2⟩ := H3.out
          have hr4 : RdT w4 r n ts2 := by
            have hrl2 := hrt2.lt
            obtain ⟨line, a, hb, h2⟩ := hrt2
            exact ⟨line, a, (hg4.block r (by simp; omega) (fun e => (HNR.out r e.symm).1 rfl)).trans (hb.alloc _), h2⟩
          have h1 : w4.ownsRow w.heap.size 3 1 (.slice A2 k2 c2) (acc ++ [x]).length ((acc ++ [x]).map (Value.int .i64)) := by simpa using hown4
          refine ⟨ts2, acc ++ [x], rfl, hr4.frame (S := [b]) ((Mod.refl _ _).setCell (by simp) _) (by simpa using hrb), ⟨_, hb4.set_ 11 _, ?_⟩, ?_, HE.out.1, by simp at hal ⊢; omega⟩
          · exact owns_mod h1 ((Mod.refl [b] _).setCell (by simp) _) (fun g hg => by have := owns_far hown4 hb4 (by decide) hg; simpa using this)
          · exact Mod.setCell (Mod.grown ((H.out.2.2.1.trans (hmw2.mono (by simp))).alloc _) hg4 (fun g hg => .inr (own_ge hown2 hg))) (by simp) _
end Go.Proofs.YtjieelmbgfnllaaGreatDoor

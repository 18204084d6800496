/- What operation hands back at a scan, and of any name. Conditions: a line of at most 2^40 bytes. -/
import Derived.Test.YtjieelmbgfnllaaGreatDoorScOper
namespace Go.Proofs.YtjieelmbgfnllaaGreatDoor
open Go.RowKit Scr

structure ScanE1 (n : Nat) (ts : List Tok) (f : Flt) : Prop where
  hE : opP n wScan ts = .error f
  htx : txt n ts = .error f
structure ScanE2 (n : Nat) (ts ts2 : List Tok) (x : Bs) (X : ByteArray) (f : Flt) : Prop where
  hE : opP n wScan ts = .error f
  htx : txt n ts = .ok (x, ts2)
  hX : X = ⟨x.toArray⟩
  hty : txt n ts2 = .error f
structure ScanE3 (n : Nat) (ts ts2 ts3 : List Tok) (x y : Bs) (X Y : ByteArray) (f : Flt) : Prop where
  hE : opP n wScan ts = .error f
  htx : txt n ts = .ok (x, ts2)
  hX : X = ⟨x.toArray⟩
  hty : txt n ts2 = .ok (y, ts3)
  hY : Y = ⟨y.toArray⟩
  hz : numAny n ts3 = .error f
structure ScanE4 (n : Nat) (ts ts2 ts3 ts4 : List Tok) (x y : Bs) (X Y : ByteArray) (z : Int) (f : Flt) : Prop where
  hE : opP n wScan ts = .error f
  htx : txt n ts = .ok (x, ts2)
  hX : X = ⟨x.toArray⟩
  hty : txt n ts2 = .ok (y, ts3)
  hY : Y = ⟨y.toArray⟩
  hz : numAny n ts3 = .ok (z, ts4)
  hs : snapP n ts4 = .error f
structure ScanE5 (n : Nat) (ts ts2 ts3 ts4 ts5 : List Tok) (x y : Bs) (X Y : ByteArray) (z u : Int) : Prop where
  hE : opP n wScan ts = .ok ({ OpS.zero with kind := 4, key := x, til := y, n := z, snap := u }, ts5)
  htx : txt n ts = .ok (x, ts2)
  hX : X = ⟨x.toArray⟩
  hty : txt n ts2 = .ok (y, ts3)
  hY : Y = ⟨y.toArray⟩
  hz : numAny n ts3 = .ok (z, ts4)
  hs : snapP n ts4 = .ok (u, ts5)
section
variable (w : World) (r b n : Nat) (v0 v1 v2 v3 v11 : Value) (ts : List Tok) (D : ByteArray)

set_option maxRecDepth 100000 in
set_option maxHeartbeats 4000000 in
theorem op_scan (h : RdT w r n ts) (hn : n ≤ 1099511627776) (hD : D.data.toList = wScan) (hb : Blk w b 69 (opCells v0 v1 v2 v3 OpS.zero (.slice none 0 0) v11)) :
    Calls Tryz.prog 165 #[.pointer (some ⟨r, 0, none⟩), .string D, .pointer (some ⟨b, 4, none⟩)] w (OpPost w r b n v0 v1 v2 v3 v11 wScan ts) := by
  have hrb := h.ne_step hb
  have hx : ∀ l, (D.toList == l) = ([115, 99, 97, 110] == l) := beq_name hD
  have hc4 := hb.cell 4
  have hf4 := hb.frozen 4
  have hbl := hb.lt
  simp [opCells] at hc4
  have H := Lib.hid (And.intro h hb)
  have hE : opP n wScan ts = match txt n ts with
    | .error e => .error e
    | .ok k =>
      match txt n k.2 with
      | .error e => .error e
      | .ok o =>
        match numAny n o.2 with
        | .error e => .error e
        | .ok m => (snapP n m.2).map fun r => ({ OpS.zero with kind := 4, key := k.1, til := o.1, n := m.1, snap := r.1 }, r.2) := rfl
  rcases htx : txt n ts with f | ⟨x, ts2⟩
  · rw [htx] at hE
    have HE := Lib.hid (ScanE1.mk hE htx)
    clear htx
    clear h hb hD hE
    go_enter Tryz.func165, Tryz.ntmps165
    go_wp2_with fail
    refine (rtext_bad _ r n ts f HE.out.htx (H.out.1.frame (S := [b]) ((Mod.refl _ w).setCell (by simp) _) (by simpa using hrb)) hn).mono ?_
    rintro e w2 ⟨s2, v, rfl, ⟨fb, rfl, hfb, hfk⟩, hm2⟩
    have hb2 := hm2.blk (H.out.2.set_ 4 (.int .i64 4)) (by simp; omega)
    have hc := hb2.cell 7
    have hf := hb2.frozen 7
    have hbl2 := hb2.lt
    simp [opCells] at hc
    have HF := Lib.hid (And.intro hb2 (And.intro hfb (And.intro hfk hm2)))
    clear hb2 hfb hfk hm2
    go_wp2
    go_ret
    obtain ⟨hbf, hfb, hfk, hmf⟩ := HF.out
    simp at hfb

    exact op_bad HE.out.hE ⟨_, rfl, ⟨fb, rfl, by omega, hfk.far (p := ⟨b, 7, none⟩) (by simp; omega) _⟩, some_from (hbf.set_ 7 _) rfl (fun h => all_set (all_set h rfl) rfl), (((Mod.refl _ w).setCell (by simp) _).trans (hmf.mono (by simp))).setCell (by simp) _⟩
  · rw [htx] at hE
    simp only [] at hE
    obtain ⟨X, hX⟩ : ∃ X : ByteArray, X = ⟨x.toArray⟩ := ⟨_, rfl⟩
    rcases hty : txt n ts2 with f | ⟨y, ts3⟩
    · rw [hty] at hE
      have HE := Lib.hid (ScanE2.mk hE htx hX hty)
      clear htx hX hty
      clear h hb hD hE
      go_enter Tryz.func165, Tryz.ntmps165
      go_wp2_with fail
      refine (rtext_good _ r n ts ts2 x X HE.out.hX HE.out.htx (H.out.1.frame (S := [b]) ((Mod.refl _ w).setCell (by simp) _) (by simpa using hrb)) hn).mono ?_
      rintro e w2 ⟨rfl, hrt2, hm2⟩
      have hb2 := hm2.blk (H.out.2.set_ 4 (.int .i64 4)) (by simp; omega)
      have hc := hb2.cell 7
      have hf := hb2.frozen 7
      have hbl2 := hb2.lt
      simp [opCells] at hc
      have H2 := Lib.hid (And.intro hb2 (And.intro hrt2 hm2))
      clear hb2 hrt2 hm2
      go_wp2_with fail
      clear hc hf
      refine (rtext_bad _ r n ts2 f HE.out.hty (H2.out.2.1.frame (S := [b]) ((Mod.refl _ w2).setCell (by simp) _) (by simpa using hrb)) hn).mono ?_
      rintro e w3 ⟨s2, v, rfl, ⟨fb, rfl, hfb, hfk⟩, hm3⟩
      have hb3 := hm3.blk (H2.out.1.set_ 7 (.string X)) (by simp; omega)
      have hc := hb3.cell 8
      have hf := hb3.frozen 8
      have hbl3 := hb3.lt
      simp [opCells] at hc
      have HF := Lib.hid (And.intro hb3 (And.intro hfb (And.intro hfk hm3)))
      clear hb3 hfb hfk hm3
      go_wp2
      go_ret
      obtain ⟨hbf, hfb, hfk, hmf⟩ := HF.out
      simp at hfb
      have hsz2 := H2.out.2.2.size
      simp at hsz2
      exact op_bad HE.out.hE ⟨_, rfl, ⟨fb, rfl, by omega, hfk.far (p := ⟨b, 8, none⟩) (by simp; omega) _⟩, some_from (hbf.set_ 8 _) rfl (fun h => all_set (all_set (all_set h rfl) rfl) rfl), (((((Mod.refl _ w).setCell (by simp) _).trans (H2.out.2.2.mono (by simp))).setCell (by simp) _).trans (hmf.mono (by simp))).setCell (by simp) _⟩
    · rw [hty] at hE
      simp only [] at hE
      obtain ⟨Y, hY⟩ : ∃ Y : ByteArray, Y = ⟨y.toArray⟩ := ⟨_, rfl⟩
      rcases hz : numAny n ts3 with f | ⟨z, ts4⟩
      · rw [hz] at hE
        have HE := Lib.hid (ScanE3.mk hE htx hX hty hY hz)
        clear htx hX hty hY hz
        clear h hb hD hE
        go_enter Tryz.func165, Tryz.ntmps165
        go_wp2_with fail
        refine (rtext_good _ r n ts ts2 x X HE.out.hX HE.out.htx (H.out.1.frame (S := [b]) ((Mod.refl _ w).setCell (by simp) _) (by simpa using hrb)) hn).mono ?_
        rintro e w2 ⟨rfl, hrt2, hm2⟩
        have hb2 := hm2.blk (H.out.2.set_ 4 (.int .i64 4)) (by simp; omega)
        have hc := hb2.cell 7
        have hf := hb2.frozen 7
        have hbl2 := hb2.lt
        simp [opCells] at hc
        have H2 := Lib.hid (And.intro hb2 (And.intro hrt2 hm2))
        clear hb2 hrt2 hm2
        go_wp2_with fail
        clear hc hf
        refine (rtext_good _ r n ts2 ts3 y Y HE.out.hY HE.out.hty (H2.out.2.1.frame (S := [b]) ((Mod.refl _ w2).setCell (by simp) _) (by simpa using hrb)) hn).mono ?_
        rintro e w3 ⟨rfl, hrt3, hm3⟩
        have hb3 := hm3.blk (H2.out.1.set_ 7 (.string X)) (by simp; omega)
        have hc := hb3.cell 8
        have hf := hb3.frozen 8
        have hbl3 := hb3.lt
        simp [opCells] at hc
        have H3 := Lib.hid (And.intro hb3 (And.intro hrt3 hm3))
        clear hb3 hrt3 hm3
        go_wp2_with fail
        clear hc hf
        refine (rnumber_bad _ r n _ _ ts3 f HE.out.hz (H3.out.2.1.frame (S := [b]) ((Mod.refl _ w3).setCell (by simp) _) (by simpa using hrb)) hn).mono ?_
        rintro e w4 ⟨v, rfl, ⟨fb, rfl, hfb, hfk⟩, hm4⟩
        have hb4 := hm4.blk (H3.out.1.set_ 8 (.string Y)) (by simp; omega)
        have hc := hb4.cell 9
        have hf := hb4.frozen 9
        have hbl4 := hb4.lt
        simp [opCells] at hc
        have HF := Lib.hid (And.intro hb4 (And.intro hfb (And.intro hfk hm4)))
        clear hb4 hfb hfk hm4
        go_wp2
        go_ret
        obtain ⟨hbf, hfb, hfk, hmf⟩ := HF.out
        simp at hfb
        have hsz2 := H2.out.2.2.size
        simp at hsz2
        have hsz3 := H3.out.2.2.size
        simp at hsz3
        exact op_bad HE.out.hE ⟨_, rfl, ⟨fb, rfl, by omega, hfk.far (p := ⟨b, 9, none⟩) (by simp; omega) _⟩, some_from (hbf.set_ 9 _) rfl (fun h => all_set (all_set (all_set (all_set h rfl) rfl) rfl) rfl), (((((((Mod.refl _ w).setCell (by simp) _).trans (H2.out.2.2.mono (by simp))).setCell (by simp) _).trans (H3.out.2.2.mono (by simp))).setCell (by simp) _).trans (hmf.mono (by simp))).setCell (by simp) _⟩
      · rw [hz] at hE
        simp only [] at hE
        rcases hs : snapP n ts4 with f | ⟨u, ts5⟩
        · rw [hs] at hE
          have HE := Lib.hid (ScanE4.mk hE htx hX hty hY hz hs)
          clear htx hX hty hY hz hs
          clear h hb hD hE
          go_enter Tryz.func165, Tryz.ntmps165
          go_wp2_with fail
          refine (rtext_good _ r n ts ts2 x X HE.out.hX HE.out.htx (H.out.1.frame (S := [b]) ((Mod.refl _ w).setCell (by simp) _) (by simpa using hrb)) hn).mono ?_
          rintro e w2 ⟨rfl, hrt2, hm2⟩
          have hb2 := hm2.blk (H.out.2.set_ 4 (.int .i64 4)) (by simp; omega)
          have hc := hb2.cell 7
          have hf := hb2.frozen 7
          have hbl2 := hb2.lt
          simp [opCells] at hc
          have H2 := Lib.hid (And.intro hb2 (And.intro hrt2 hm2))
          clear hb2 hrt2 hm2
          go_wp2_with fail
          clear hc hf
          refine (rtext_good _ r n ts2 ts3 y Y HE.out.hY HE.out.hty (H2.out.2.1.frame (S := [b]) ((Mod.refl _ w2).setCell (by simp) _) (by simpa using hrb)) hn).mono ?_
          rintro e w3 ⟨rfl, hrt3, hm3⟩
          have hb3 := hm3.blk (H2.out.1.set_ 7 (.string X)) (by simp; omega)
          have hc := hb3.cell 8
          have hf := hb3.frozen 8
          have hbl3 := hb3.lt
          simp [opCells] at hc
          have H3 := Lib.hid (And.intro hb3 (And.intro hrt3 hm3))
          clear hb3 hrt3 hm3
          go_wp2_with fail
          clear hc hf
          refine (rnumber_good _ r n _ _ z ts3 ts4 HE.out.hz (H3.out.2.1.frame (S := [b]) ((Mod.refl _ w3).setCell (by simp) _) (by simpa using hrb)) hn).mono ?_
          rintro e w4 ⟨rfl, hrt4, hm4⟩
          have hb4 := hm4.blk (H3.out.1.set_ 8 (.string Y)) (by simp; omega)
          have hc := hb4.cell 9
          have hf := hb4.frozen 9
          have hbl4 := hb4.lt
          simp [opCells] at hc
          have H4 := Lib.hid (And.intro hb4 (And.intro hrt4 hm4))
          clear hb4 hrt4 hm4
          go_wp2_with fail
          clear hc hf
          refine (snapped_bad _ r b n v0 v1 v2 v3 (.int .i64 4) (.slice none 0 0) (.bool false) (.string X) (.string Y) (.int .i64 z) v11 ts4 f HE.out.hs (H4.out.2.1.frame (S := [b]) ((Mod.refl _ w4).setCell (by simp) _) (by simpa using hrb)) hn (H4.out.1.set_ 9 _)).mono ?_
          rintro e w5 ⟨v, rfl, hf5, hs5, hm5⟩
          have HF := Lib.hid (And.intro hf5 (And.intro hs5 hm5))
          clear hf5 hs5 hm5
          go_wp2
          go_ret
          obtain ⟨⟨fb, hv, hfb, hfk⟩, hs5, hm5⟩ := HF.out
          simp at hfb
          have hsz2 := H2.out.2.2.size
          simp at hsz2
          have hsz3 := H3.out.2.2.size
          simp at hsz3
          have hsz4 := H4.out.2.2.size
          simp at hsz4
          exact op_bad HE.out.hE ⟨_, rfl, ⟨fb, hv, by omega, hfk⟩, hs5.from_ (fun h => all_set (i := 9) (all_set (i := 8) (all_set (i := 7) (all_set (i := 4) h rfl) rfl) rfl) rfl), ((((((((Mod.refl _ w).setCell (by simp) _).trans (H2.out.2.2.mono (by simp))).setCell (by simp) _).trans (H3.out.2.2.mono (by simp))).setCell (by simp) _).trans (H4.out.2.2.mono (by simp))).setCell (by simp) _).trans hm5⟩
        · rw [hs] at hE
          have HE := Lib.hid (ScanE5.mk hE htx hX hty hY hz hs)
          clear htx hX hty hY hz hs
          clear h hb hD hE
          go_enter Tryz.func165, Tryz.ntmps165
          go_wp2_with fail
          refine (rtext_good _ r n ts ts2 x X HE.out.hX HE.out.htx (H.out.1.frame (S := [b]) ((Mod.refl _ w).setCell (by simp) _) (by simpa using hrb)) hn).mono ?_
          rintro e w2 ⟨rfl, hrt2, hm2⟩
          have hb2 := hm2.blk (H.out.2.set_ 4 (.int .i64 4)) (by simp; omega)
          have hc := hb2.cell 7
          have hf := hb2.frozen 7
          have hbl2 := hb2.lt
          simp [opCells] at hc
          have H2 := Lib.hid (And.intro hb2 (And.intro hrt2 hm2))
          clear hb2 hrt2 hm2
          go_wp2_with fail
          clear hc hf
          refine (rtext_good _ r n ts2 ts3 y Y HE.out.hY HE.out.hty (H2.out.2.1.frame (S := [b]) ((Mod.refl _ w2).setCell (by simp) _) (by simpa using hrb)) hn).mono ?_
          rintro e w3 ⟨rfl, hrt3, hm3⟩
          have hb3 := hm3.blk (H2.out.1.set_ 7 (.string X)) (by simp; omega)
          have hc := hb3.cell 8
          have hf := hb3.frozen 8
          have hbl3 := hb3.lt
          simp [opCells] at hc
          have H3 := Lib.hid (And.intro hb3 (And.intro hrt3 hm3))
          clear hb3 hrt3 hm3
          go_wp2_with fail
          clear hc hf
          refine (rnumber_good _ r n _ _ z ts3 ts4 HE.out.hz (H3.out.2.1.frame (S := [b]) ((Mod.refl _ w3).setCell (by simp) _) (by simpa using hrb)) hn).mono ?_
          rintro e w4 ⟨rfl, hrt4, hm4⟩
          have hb4 := hm4.blk (H3.out.1.set_ 8 (.string Y)) (by simp; omega)
          have hc := hb4.cell 9
          have hf := hb4.frozen 9
          have hbl4 := hb4.lt
          simp [opCells] at hc
          have H4 := Lib.hid (And.intro hb4 (And.intro hrt4 hm4))
          clear hb4 hrt4 hm4
          go_wp2_with fail
          clear hc hf
          refine (snapped_good _ r b n v0 v1 v2 v3 (.int .i64 4) (.slice none 0 0) (.bool false) (.string X) (.string Y) (.int .i64 z) v11 ts4 ts5 u HE.out.hs (H4.out.2.1.frame (S := [b]) ((Mod.refl _ w4).setCell (by simp) _) (by simpa using hrb)) hn (H4.out.1.set_ 9 _)).mono ?_
          rintro e w5 ⟨rfl, hrt5, hb5, hm5⟩
          have HF := Lib.hid (And.intro hrt5 (And.intro hb5 hm5))
          clear hrt5 hb5 hm5
          go_wp2
          go_ret
          obtain ⟨hrt5, hb5, hm5⟩ := HF.out
          rw [HE.out.hX, HE.out.hY] at hb5
          exact op_good HE.out.hE ⟨rfl, hrt5, ⟨_, hb5, no_writes _ _⟩, ((((((((Mod.refl _ w).setCell (by simp) _).trans (H2.out.2.2.mono (by simp))).setCell (by simp) _).trans (H3.out.2.2.mono (by simp))).setCell (by simp) _).trans (H4.out.2.2.mono (by simp))).setCell (by simp) _).trans hm5⟩

set_option maxRecDepth 100000 in
set_option maxHeartbeats 4000000 in
theorem op_other (nm : Bs) (h : RdT w r n ts) (hD : D.data.toList = nm) (h1 : nm ≠ wWrite) (h2 : nm ≠ wSync) (h3 : nm ≠ wSnap) (h4 : nm ≠ wRelease) (h5 : nm ≠ wGet) (h6 : nm ≠ wScan)
    (hb : Blk w b 69 (opCells v0 v1 v2 v3 OpS.zero (.slice none 0 0) v11)) :
    Calls Tryz.prog 165 #[.pointer (some ⟨r, 0, none⟩), .string D, .pointer (some ⟨b, 4, none⟩)] w (OpPost w r b n v0 v1 v2 v3 v11 nm ts) := by
  have hx : ∀ l : List UInt8, nm ≠ l → (D.toList == l) = false := fun l hl => by rw [Lib.toList_data, hD, beq_eq_false_iff_ne]; exact hl
  have x1 := hx _ h1
  have x2 := hx _ h2
  have x3 := hx _ h3
  have x4 := hx _ h4
  have x5 := hx _ h5
  have x6 := hx _ h6
  unfold wWrite at x1
  unfold wSync at x2
  unfold wSnap at x3
  unfold wRelease at x4
  unfold wGet at x5
  unfold wScan at x6
  have H := Lib.hid (And.intro h hb)
  have HE := Lib.hid (show opP n nm ts = .ok (OpS.zero, ts) from by unfold opP; rw [if_neg h1, if_neg h2, if_neg h3, if_neg h4, if_neg h5, if_neg h6])
  clear h hb hD hx h1 h2 h3 h4 h5 h6
  go_enter Tryz.func165, Tryz.ntmps165
  go_wp2
  go_ret
  exact op_good HE.out ⟨rfl, H.out.1, ⟨_, H.out.2, no_writes _ _⟩, Mod.refl _ _⟩

theorem operation_walk (nm : Bs) (h : RdT w r n ts) (hn : n ≤ 1099511627776) (hD : D.data.toList = nm) (hb : Blk w b 69 (opCells v0 v1 v2 v3 OpS.zero (.slice none 0 0) v11)) :
    Calls Tryz.prog 165 #[.pointer (some ⟨r, 0, none⟩), .string D, .pointer (some ⟨b, 4, none⟩)] w (OpPost w r b n v0 v1 v2 v3 v11 nm ts) := by
  by_cases h1 : nm = wWrite
  · subst h1; exact op_write w r b n v0 v1 v2 v3 v11 ts D h hn hD hb
  by_cases h2 : nm = wSync
  · subst h2; exact op_sync w r b n v0 v1 v2 v3 v11 ts D h hD hb
  by_cases h3 : nm = wSnap
  · subst h3; exact op_snap w r b n v0 v1 v2 v3 v11 ts D h hD hb
  by_cases h4 : nm = wRelease
  · subst h4; exact op_release w r b n v0 v1 v2 v3 v11 ts D h hn hD hb
  by_cases h5 : nm = wGet
  · subst h5; exact op_get w r b n v0 v1 v2 v3 v11 ts D h hn hD hb
  by_cases h6 : nm = wScan
  · subst h6; exact op_scan w r b n v0 v1 v2 v3 v11 ts D h hn hD hb
  exact op_other w r b n v0 v1 v2 v3 v11 ts D nm h hD h1 h2 h3 h4 h5 h6 hb
end
end Go.Proofs.YtjieelmbgfnllaaGreatDoor

/- What the reader's number, text and end hand back. Conditions: a line of at most 2^40 bytes. -/
import Derived.Test.YtjieelmbgfnllaaGreatDoorScRead
namespace Go.Proofs.YtjieelmbgfnllaaGreatDoor
open Go.RowKit Scr

def NumberPost (w : World) (r n : Nat) (lo hi : Int) (ts : List Tok) (e : Ending) (w' : World) : Prop :=
  match num n lo hi ts with
  | .error f => ∃ v, e = .returned (.tuple #[.int .i64 0, v]) ∧ FaultIs w w' f v ∧ Mod [r] w w'
  | .ok x => e = .returned (.tuple #[.int .i64 x.1, .nilIface]) ∧ RdT w' r n x.2 ∧ Mod [r] w w'
theorem number_bad {w w' : World} {r n : Nat} {lo hi : Int} {ts : List Tok} {f : Flt} {e : Ending} (h : num n lo hi ts = .error f) (h2 : ∃ v, e = .returned (.tuple #[.int .i64 0, v]) ∧ FaultIs w w' f v ∧ Mod [r] w w') : NumberPost w r n lo hi ts e w' := by
  unfold NumberPost; rw [h]; exact h2
theorem number_good {w w' : World} {r n : Nat} {lo hi x : Int} {ts ts' : List Tok} {e : Ending} (h : num n lo hi ts = .ok (x, ts')) (h2 : e = .returned (.tuple #[.int .i64 x, .nilIface]) ∧ RdT w' r n ts' ∧ Mod [r] w w') : NumberPost w r n lo hi ts e w' := by
  unfold NumberPost; rw [h]; exact h2

theorem FaultIs.later {w w1 w2 : World} {f : Flt} {v : Value} (h : FaultIs w w1 f v) (hm : Mod [] w1 w2) : FaultIs w w2 f v := by
  obtain ⟨b, hv, hb, hk⟩ := h
  exact ⟨b, hv, hb, hm.blk hk (by simp)⟩

set_option maxRecDepth 100000 in
set_option maxHeartbeats 4000000 in
theorem rnumber_walk (w : World) (r n : Nat) (lo hi : Int) (ts : List Tok) (h : RdT w r n ts) (hn : n ≤ 1099511627776) :
    Calls Tryz.prog 104 #[.pointer (some ⟨r, 0, none⟩), .int .i64 lo, .int .i64 hi] w (NumberPost w r n lo hi ts) := by
  have hlt := h.lt
  have HC := Lib.hid (wanted_walk w r n ts h hn)
  clear h
  rcases ts with _ | ⟨t, ts⟩
  · have HE := Lib.hid (show num n lo hi [] = .error (n, 204) from rfl)
    go_enter Tryz.func104, Tryz.ntmps104
    go_wp2_with fail
    refine HC.out.mono ?_
    rintro e w1 ⟨v, rfl, ⟨b, rfl, hb, hbk⟩, hm⟩
    have H := Lib.hid (And.intro hb (And.intro hbk hm))
    clear hb hbk hm
    simp only [encTok]
    go_wp2
    go_ret2
    obtain ⟨hb, hbk, hm⟩ := H.out
    exact number_bad HE.out ⟨_, rfl, ⟨b, rfl, hb, hbk.alloc _⟩, hm.alloc _⟩
  · have hW : WantPost w r n (t :: ts) = fun e w' => if t.kind = 2 then ∃ v, e = .returned (.tuple #[encTok (some t), v]) ∧ FaultIs w w' (t.pos, 200) v ∧ Mod [r] w w'
      else e = .returned (.tuple #[encTok (some t), .nilIface]) ∧ RdT w' r n ts ∧ Mod [r] w w' := rfl
    rw [hW] at HC
    clear hW
    by_cases hk : t.kind = 2
    · have HE := Lib.hid (show num n lo hi (t :: ts) = .error (t.pos, 200) from by simp [num, hk])
      simp only [if_pos hk] at HC
      clear hk
      go_enter Tryz.func104, Tryz.ntmps104
      go_wp2_with fail
      refine HC.out.mono ?_
      rintro e w1 ⟨v, rfl, ⟨b, rfl, hb, hbk⟩, hm⟩
      have H := Lib.hid (And.intro hb (And.intro hbk hm))
      clear hb hbk hm
      simp only [encTok]
      go_wp2
      go_ret2
      obtain ⟨hb, hbk, hm⟩ := H.out
      exact number_bad HE.out ⟨_, rfl, ⟨b, rfl, hb, hbk.alloc _⟩, hm.alloc _⟩
    · simp only [if_neg hk] at HC
      obtain ⟨D, hD⟩ : ∃ D : ByteArray, D = ⟨t.text.toArray⟩ := ⟨_, rfl⟩
      have hDl : D.data.toList = t.text := by rw [hD]
      have HN := Lib.hid (fun W => number_walk W D)
      rw [hDl] at HN
      have HD := Lib.hid hD
      have htr : encTok (some t) = .agg #[.int .i64 t.kind, .int .i64 t.pos, .string D] := by rw [hD]; rfl
      rw [htr] at HC
      have hk2 : ((t.kind : Int) == 2) = false := by rw [beq_eq_false_iff_ne]; omega
      have hdec : ((t.kind : Int) != 0) = true ∨ (((t.kind : Int) != 0) = false ∧ t.kind = 0) := by
        by_cases h : t.kind = 0
        · right; exact ⟨by rw [h]; rfl, h⟩
        · left; rw [bne_iff_ne]; omega
      rcases hnl : numL t.text with _ | x
      · have HE := Lib.hid (show num n lo hi (t :: ts) = .error (t.pos, 201) from by simp [num, hk, hnl])
        unfold NumPost at HN
        rw [hnl] at HN
        clear hk hnl hD hDl htr hdec
        rcases (show ((t.kind : Int) != 0) = true ∨ ((t.kind : Int) != 0) = false from by cases ((t.kind : Int) != 0) <;> simp) with hd | hd
        all_goals
          go_enter Tryz.func104, Tryz.ntmps104
          go_wp2_with fail
          refine HC.out.mono ?_
          rintro e w1 ⟨rfl, hrt, hm⟩
          have H := Lib.hid (And.intro hrt hm)
          clear hrt hm
          go_wp2_with fail
          refine (HN.out _).mono ?_
          rintro e w2 ⟨rfl, hm2⟩
          have hres := hm2.blk (Blk.new w1 145 #[.int .i64 t.kind, .int .i64 t.pos, .string D]) (by simp)
          have hr0 := hres.cell 0
          have hr1 := hres.cell 1
          have hr2 := hres.cell 2
          have hrf0 := hres.frozen 0
          have hrf1 := hres.frozen 1
          have hrf2 := hres.frozen 2
          simp at hr0 hr1 hr2
          have hs := hres.lt
          have H2 := Lib.hid hm2
          clear hres hm2
          simp only [NumRes]
          go_wp2
          go_region
          go_wp2
          go_ret2
          obtain ⟨hrt, hm⟩ := H.out
          have hms := hm.size
          refine number_bad HE.out ⟨_, rfl, ⟨w2.heap.size, rfl, by omega, (Blk.newAt _ _ _ (by simp)).drew⟩, ?_⟩
          exact (((hm.alloc _).trans (H2.out.mono (by simp))).alloc _).drew
      · unfold NumPost at HN
        rw [hnl] at HN
        have hnum : num n lo hi (t :: ts) = if t.kind = 0 ∧ lo ≤ x ∧ x ≤ hi then .ok (x, ts) else .error (t.pos, 201) := by simp [num, hk, hnl]
        clear hk hnl hD hDl htr
        rcases hdec with hd | ⟨hd, hk0⟩
        · have hk1 : ¬ (t.kind = 0 ∧ lo ≤ x ∧ x ≤ hi) := fun h => by rw [h.1] at hd; revert hd; decide
          rw [if_neg hk1] at hnum
          have HE := Lib.hid hnum
          clear hnum hk1
          go_enter Tryz.func104, Tryz.ntmps104
          go_wp2_with fail
          refine HC.out.mono ?_
          rintro e w1 ⟨rfl, hrt, hm⟩
          have H := Lib.hid (And.intro hrt hm)
          clear hrt hm
          go_wp2_with fail
          refine (HN.out _).mono ?_
          rintro e w2 ⟨rfl, hm2⟩
          have hres := hm2.blk (Blk.new w1 145 #[.int .i64 t.kind, .int .i64 t.pos, .string D]) (by simp)
          have hr0 := hres.cell 0
          have hr1 := hres.cell 1
          have hr2 := hres.cell 2
          have hrf0 := hres.frozen 0
          have hrf1 := hres.frozen 1
          have hrf2 := hres.frozen 2
          simp at hr0 hr1 hr2
          have hs := hres.lt
          have H2 := Lib.hid hm2
          clear hres hm2
          simp only [NumRes]
          go_wp2
          go_region
          go_wp2
          go_ret2
          obtain ⟨hrt, hm⟩ := H.out
          have hms := hm.size
          refine number_bad HE.out ⟨_, rfl, ⟨w2.heap.size, rfl, by omega, (Blk.newAt _ _ _ (by simp)).drew⟩, ?_⟩
          exact (((hm.alloc _).trans (H2.out.mono (by simp))).alloc _).drew
        · by_cases h1 : lo ≤ x
          · by_cases h2 : x ≤ hi
            · rw [if_pos ⟨hk0, h1, h2⟩] at hnum
              have HE := Lib.hid hnum
              clear hnum hk0
              go_enter Tryz.func104, Tryz.ntmps104
              go_wp2_with fail
              refine HC.out.mono ?_
              rintro e w1 ⟨rfl, hrt, hm⟩
              have H := Lib.hid (And.intro hrt hm)
              clear hrt hm
              go_wp2_with fail
              refine (HN.out _).mono ?_
              rintro e w2 ⟨rfl, hm2⟩
              have hres := hm2.blk (Blk.new w1 145 #[.int .i64 t.kind, .int .i64 t.pos, .string D]) (by simp)
              have hr0 := hres.cell 0
              have hr1 := hres.cell 1
              have hr2 := hres.cell 2
              have hrf0 := hres.frozen 0
              have hrf1 := hres.frozen 1
              have hrf2 := hres.frozen 2
              simp at hr0 hr1 hr2
              have hs := hres.lt
              have H2 := Lib.hid hm2
              clear hres hm2
              simp only [NumRes]
              go_wp2
              go_ret2
              obtain ⟨hrt, hm⟩ := H.out
              exact number_good HE.out ⟨rfl, (hrt.frame ((Mod.refl [] w1).alloc _) (by simp)).frame H2.out (by simp), (hm.alloc _).trans (H2.out.mono (by simp))⟩
            · rw [if_neg (fun h => h2 h.2.2)] at hnum
              have HE := Lib.hid hnum
              clear hnum hk0
              go_enter Tryz.func104, Tryz.ntmps104
              go_wp2_with fail
              refine HC.out.mono ?_
              rintro e w1 ⟨rfl, hrt, hm⟩
              have H := Lib.hid (And.intro hrt hm)
              clear hrt hm
              go_wp2_with fail
              refine (HN.out _).mono ?_
              rintro e w2 ⟨rfl, hm2⟩
              have hres := hm2.blk (Blk.new w1 145 #[.int .i64 t.kind, .int .i64 t.pos, .string D]) (by simp)
              have hr0 := hres.cell 0
              have hr1 := hres.cell 1
              have hr2 := hres.cell 2
              have hrf0 := hres.frozen 0
              have hrf1 := hres.frozen 1
              have hrf2 := hres.frozen 2
              simp at hr0 hr1 hr2
              have hs := hres.lt
              have H2 := Lib.hid hm2
              clear hres hm2
              simp only [NumRes]
              go_wp2
              go_region
              go_wp2
              go_ret2
              obtain ⟨hrt, hm⟩ := H.out
              have hms := hm.size
              refine number_bad HE.out ⟨_, rfl, ⟨w2.heap.size, rfl, by omega, (Blk.newAt _ _ _ (by simp)).drew⟩, ?_⟩
              exact (((hm.alloc _).trans (H2.out.mono (by simp))).alloc _).drew
          · rw [if_neg (fun h => h1 h.2.1)] at hnum
            have HE := Lib.hid hnum
            clear hnum hk0
            go_enter Tryz.func104, Tryz.ntmps104
            go_wp2_with fail
            refine HC.out.mono ?_
            rintro e w1 ⟨rfl, hrt, hm⟩
            have H := Lib.hid (And.intro hrt hm)
            clear hrt hm
            go_wp2_with fail
            refine (HN.out _).mono ?_
            rintro e w2 ⟨rfl, hm2⟩
            have hres := hm2.blk (Blk.new w1 145 #[.int .i64 t.kind, .int .i64 t.pos, .string D]) (by simp)
            have hr0 := hres.cell 0
            have hr1 := hres.cell 1
            have hr2 := hres.cell 2
            have hrf0 := hres.frozen 0
            have hrf1 := hres.frozen 1
            have hrf2 := hres.frozen 2
            simp at hr0 hr1 hr2
            have hs := hres.lt
            have H2 := Lib.hid hm2
            clear hres hm2
            simp only [NumRes]
            go_wp2
            go_region
            go_wp2
            go_ret2
            obtain ⟨hrt, hm⟩ := H.out
            have hms := hm.size
            refine number_bad HE.out ⟨_, rfl, ⟨w2.heap.size, rfl, by omega, (Blk.newAt _ _ _ (by simp)).drew⟩, ?_⟩
            exact (((hm.alloc _).trans (H2.out.mono (by simp))).alloc _).drew

def TextPost (w : World) (r n : Nat) (ts : List Tok) (e : Ending) (w' : World) : Prop :=
  match txt n ts with
  | .error f => ∃ s v, e = .returned (.tuple #[.string s, v]) ∧ FaultIs w w' f v ∧ Mod [r] w w'
  | .ok x => e = .returned (.tuple #[.string ⟨x.1.toArray⟩, .nilIface]) ∧ RdT w' r n x.2 ∧ Mod [r] w w'
theorem text_bad {w w' : World} {r n : Nat} {ts : List Tok} {f : Flt} {e : Ending} (h : txt n ts = .error f) (h2 : ∃ s v, e = .returned (.tuple #[.string s, v]) ∧ FaultIs w w' f v ∧ Mod [r] w w') : TextPost w r n ts e w' := by
  unfold TextPost; rw [h]; exact h2
theorem text_good {w w' : World} {r n : Nat} {x : Bs} {ts ts' : List Tok} {e : Ending} (h : txt n ts = .ok (x, ts')) (h2 : e = .returned (.tuple #[.string ⟨x.toArray⟩, .nilIface]) ∧ RdT w' r n ts' ∧ Mod [r] w w') : TextPost w r n ts e w' := by
  unfold TextPost; rw [h]; exact h2

set_option maxRecDepth 100000 in
set_option maxHeartbeats 4000000 in
theorem rtext_walk (w : World) (r n : Nat) (ts : List Tok) (h : RdT w r n ts) (hn : n ≤ 1099511627776) :
    Calls Tryz.prog 230 #[.pointer (some ⟨r, 0, none⟩)] w (TextPost w r n ts) := by
  have HC := Lib.hid (wanted_walk w r n ts h hn)
  clear h
  rcases ts with _ | ⟨t, ts⟩
  · have HE := Lib.hid (show txt n [] = .error (n, 204) from rfl)
    go_enter Tryz.func230, Tryz.ntmps230
    go_wp2_with fail
    refine HC.out.mono ?_
    rintro e w1 ⟨v, rfl, ⟨b, rfl, hb, hbk⟩, hm⟩
    have H := Lib.hid (And.intro hb (And.intro hbk hm))
    clear hb hbk hm
    simp only [encTok]
    go_wp2
    go_ret2
    obtain ⟨hb, hbk, hm⟩ := H.out
    exact text_bad HE.out ⟨_, _, rfl, ⟨b, rfl, hb, hbk.alloc _⟩, hm.alloc _⟩
  · have hW : WantPost w r n (t :: ts) = fun e w' => if t.kind = 2 then ∃ v, e = .returned (.tuple #[encTok (some t), v]) ∧ FaultIs w w' (t.pos, 200) v ∧ Mod [r] w w'
      else e = .returned (.tuple #[encTok (some t), .nilIface]) ∧ RdT w' r n ts ∧ Mod [r] w w' := rfl
    rw [hW] at HC
    clear hW
    by_cases hk : t.kind = 2
    · have HE := Lib.hid (show txt n (t :: ts) = .error (t.pos, 200) from by simp [txt, hk])
      simp only [if_pos hk] at HC
      clear hk
      go_enter Tryz.func230, Tryz.ntmps230
      go_wp2_with fail
      refine HC.out.mono ?_
      rintro e w1 ⟨v, rfl, ⟨b, rfl, hb, hbk⟩, hm⟩
      have H := Lib.hid (And.intro hb (And.intro hbk hm))
      clear hb hbk hm
      simp only [encTok]
      go_wp2
      go_ret2
      obtain ⟨hb, hbk, hm⟩ := H.out
      exact text_bad HE.out ⟨_, _, rfl, ⟨b, rfl, hb, hbk.alloc _⟩, hm.alloc _⟩
    · simp only [if_neg hk] at HC
      by_cases hk1 : t.kind = 1
      · have HE := Lib.hid (show txt n (t :: ts) = .ok (t.text, ts) from by simp [txt, hk1])
        have hd : ((t.kind : Int) != 1) = false := by rw [hk1]; rfl
        clear hk hk1
        go_enter Tryz.func230, Tryz.ntmps230
        go_wp2_with fail
        refine HC.out.mono ?_
        rintro e w1 ⟨rfl, hrt, hm⟩
        have H := Lib.hid (And.intro hrt hm)
        clear hrt hm
        simp only [encTok]
        go_wp2
        go_ret2
        obtain ⟨hrt, hm⟩ := H.out
        exact text_good HE.out ⟨rfl, hrt.frame ((Mod.refl [] w1).alloc _) (by simp), hm.alloc _⟩
      · have HE := Lib.hid (show txt n (t :: ts) = .error (t.pos, 200) from by simp [txt, hk1])
        have hd : ((t.kind : Int) != 1) = true := by rw [bne_iff_ne]; omega
        clear hk hk1
        go_enter Tryz.func230, Tryz.ntmps230
        go_wp2_with fail
        refine HC.out.mono ?_
        rintro e w1 ⟨rfl, hrt, hm⟩
        have H := Lib.hid (And.intro hrt hm)
        clear hrt hm
        simp only [encTok]
        go_wp2
        go_ret2
        obtain ⟨hrt, hm⟩ := H.out
        have hms := hm.size
        exact text_bad HE.out ⟨_, _, rfl, ⟨w1.heap.size + 1, rfl, by omega, Blk.newAt _ _ _ (by simp)⟩, (hm.alloc _).alloc _⟩

def FinPost (w : World) (r : Nat) (ts : List Tok) (e : Ending) (w' : World) : Prop :=
  match fin ts with
  | .error f => ∃ v, e = .returned v ∧ FaultIs w w' f v ∧ Mod [r] w w'
  | .ok _ => e = .returned .nilIface ∧ Mod [r] w w'

set_option maxRecDepth 100000 in
set_option maxHeartbeats 4000000 in
theorem rend_walk (w : World) (r n : Nat) (ts : List Tok) (h : RdT w r n ts) (hn : n ≤ 1099511627776) :
    Calls Tryz.prog 105 #[.pointer (some ⟨r, 0, none⟩)] w (FinPost w r ts) := by
  have HC := Lib.hid (next_any w r n ts h hn)
  clear h
  rcases ts with _ | ⟨t, ts⟩
  · go_enter Tryz.func105, Tryz.ntmps105
    go_wp2_with fail
    refine HC.out.mono ?_
    rintro e w1 ⟨rfl, hrt, hm⟩
    have H := Lib.hid hm
    clear hrt hm
    simp only [encTok]
    go_wp2
    go_ret
    exact ⟨rfl, H.out.alloc _⟩
  · go_enter Tryz.func105, Tryz.ntmps105
    go_wp2_with fail
    refine HC.out.mono ?_
    rintro e w1 ⟨rfl, hrt, hm⟩
    have H := Lib.hid hm
    clear hrt hm
    simp only [encTok]
    go_wp2
    go_ret
    have hms := H.out.size
    exact ⟨_, rfl, ⟨w1.heap.size + 1, rfl, by omega, Blk.newAt _ _ _ (by simp)⟩, (H.out.alloc _).alloc _⟩

/-- number's two ends apart. -/
theorem rnumber_bad (w : World) (r n : Nat) (lo hi : Int) (ts : List Tok) (f : Flt) (hf : num n lo hi ts = .error f) (h : RdT w r n ts) (hn : n ≤ 1099511627776) :
    Calls Tryz.prog 104 #[.pointer (some ⟨r, 0, none⟩), .int .i64 lo, .int .i64 hi] w fun e w' => ∃ v, e = .returned (.tuple #[.int .i64 0, v]) ∧ FaultIs w w' f v ∧ Mod [r] w w' := by
  have := rnumber_walk w r n lo hi ts h hn
  unfold NumberPost at this; rw [hf] at this; exact this
theorem rnumber_good (w : World) (r n : Nat) (lo hi x : Int) (ts ts' : List Tok) (hf : num n lo hi ts = .ok (x, ts')) (h : RdT w r n ts) (hn : n ≤ 1099511627776) :
    Calls Tryz.prog 104 #[.pointer (some ⟨r, 0, none⟩), .int .i64 lo, .int .i64 hi] w fun e w' => e = .returned (.tuple #[.int .i64 x, .nilIface]) ∧ RdT w' r n ts' ∧ Mod [r] w w' := by
  have := rnumber_walk w r n lo hi ts h hn
  unfold NumberPost at this; rw [hf] at this; exact this
theorem rtext_bad (w : World) (r n : Nat) (ts : List Tok) (f : Flt) (hf : txt n ts = .error f) (h : RdT w r n ts) (hn : n ≤ 1099511627776) :
    Calls Tryz.prog 230 #[.pointer (some ⟨r, 0, none⟩)] w fun e w' => ∃ s v, e = .returned (.tuple #[.string s, v]) ∧ FaultIs w w' f v ∧ Mod [r] w w' := by
  have := rtext_walk w r n ts h hn
  unfold TextPost at this; rw [hf] at this; exact this
theorem rtext_good (w : World) (r n : Nat) (ts ts' : List Tok) (x : Bs) (D : ByteArray) (hD : D = ⟨x.toArray⟩) (hf : txt n ts = .ok (x, ts')) (h : RdT w r n ts) (hn : n ≤ 1099511627776) :
    Calls Tryz.prog 230 #[.pointer (some ⟨r, 0, none⟩)] w fun e w' => e = .returned (.tuple #[.string D, .nilIface]) ∧ RdT w' r n ts' ∧ Mod [r] w w' := by
  have := rtext_walk w r n ts h hn
  unfold TextPost at this; rw [hf] at this; subst hD; exact this
end Go.Proofs.YtjieelmbgfnllaaGreatDoor

/- What line does at repeat and at end. Conditions: a line of at most 2^40 bytes. -/
import Derived.Test.YtjieelmbgfnllaaGreatDoorScLine
namespace Go.Proofs.YtjieelmbgfnllaaGreatDoor
open Go.RowKit Scr

section
variable (w : World) (lo p r n : Nat) (t : Tok) (ts : List Tok) (rs : List RStep) (rep : Option (Nat × Nat)) (D : ByteArray)

set_option maxRecDepth 100000 in
set_option maxHeartbeats 4000000 in
theorem ends_none (tk tp : Int) (hp : Par w lo p rs none) (f : Flt) (hf : f = (tp.toNat, 200)) (htp : 0 ≤ tp) :
    Calls Tryz.prog 106 #[.pointer (some ⟨p, 0, none⟩), .pointer (some ⟨r, 0, none⟩), .agg #[.int .i64 tk, .int .i64 tp, .string D]] w fun e w' => ∃ v, e = .returned v ∧ FaultIs w w' f v ∧ Mod [] w w' := by
  obtain ⟨v, bg, ot, hb, rfl, _⟩ := hp
  have hpl := hb.lt
  have hc0 := hb.cell 0
  have hc1 := hb.cell 1
  have hc2 := hb.cell 2
  have hcf0 := hb.frozen 0
  have hcf1 := hb.frozen 1
  have hcf2 := hb.frozen 2
  simp at hc0 hc1 hc2
  clear hb
  have HF := Lib.hid (And.intro hf htp)
  clear hf htp
  go_enter Tryz.func106, Tryz.ntmps106
  go_wp2
  go_ret
  obtain ⟨rfl, htp⟩ := HF.out
  refine ⟨_, rfl, ⟨w.heap.size + 1, rfl, by omega, ?_⟩, ((Mod.refl _ _).alloc _).alloc _⟩
  have : (((tp.toNat, 200) : Flt).1 : Int) = tp := by show ((tp.toNat : Nat) : Int) = tp; omega
  rw [this]
  exact Blk.newAt _ _ _ (by simp)

set_option maxRecDepth 100000 in
set_option maxHeartbeats 4000000 in
theorem ends_many (tk tp : Int) (b k : Nat) (hp : Par w lo p rs (some (b, k))) (hr : RdT w r n ts) (hmany : 20000 < b + (rs.length - b) * k) (f : Flt) (hf : f = (tp.toNat, 203)) (htp : 0 ≤ tp) :
    Calls Tryz.prog 106 #[.pointer (some ⟨p, 0, none⟩), .pointer (some ⟨r, 0, none⟩), .agg #[.int .i64 tk, .int .i64 tp, .string D]] w fun e w' => ∃ v, e = .returned v ∧ FaultIs w w' f v ∧ Mod [] w w' := by
  have hrp := hp.ne hr
  obtain ⟨v, bg, ot, hb, ⟨rfl, rfl, hbl, hk1, hk2⟩, hrich, hlens, hlen, hls⟩ := hp
  obtain ⟨A, cap, g, rfl, hcap, hg, hgp, hrange, hA⟩ := rich_shape hrich hb hr hrp
  clear hrich hlens hrange hA hr
  have hpl := hb.lt
  have hc0 := hb.cell 0
  have hc1 := hb.cell 1
  have hc2 := hb.cell 2
  have hcf0 := hb.frozen 0
  have hcf1 := hb.frozen 1
  have hcf2 := hb.frozen 2
  simp at hc0 hc1 hc2
  have HB := Lib.hid hb
  have HF := Lib.hid (And.intro hf htp)
  clear hf htp hb
  obtain ⟨m, hm⟩ : ∃ m, m = rs.length - b := ⟨_, rfl⟩
  have HM := Lib.hid (And.intro hm hmany)
  clear hm hmany
  go_enter Tryz.func106, Tryz.ntmps106
  go_wp2
  clear hc0 hc1 hc2 hcf0 hcf1 hcf2
  generalize hW : w.alloc (Obj.cells #[Value.int IntKind.i64 tk, Value.int IntKind.i64 tp, Value.string D] 145) = W0
  have hm0 : Mod [] w W0 := by rw [← hW]; exact (Mod.refl _ _).alloc _
  have hb1 : Blk W0 w.heap.size 145 #[Value.int IntKind.i64 tk, Value.int IntKind.i64 tp, Value.string D] := by rw [← hW]; exact Blk.new _ _ _
  have hb0 := hm0.blk HB.out (by simp)
  have hs0 : W0.heap.size = w.heap.size + 1 := by rw [← hW]; simp
  clear hW
  have hpl0 := hb0.lt
  have hc0 := hb0.cell 0
  have hc1 := hb0.cell 1
  have hc2 := hb0.cell 2
  have hcf0 := hb0.frozen 0
  have hcf1 := hb0.frozen 1
  have hcf2 := hb0.frozen 2
  simp at hc0 hc1 hc2
  have hd0 := hb1.cell 0
  have hd1 := hb1.cell 1
  have hd2 := hb1.cell 2
  have hdf0 := hb1.frozen 0
  have hdf1 := hb1.frozen 1
  have hdf2 := hb1.frozen 2
  simp at hd0 hd1 hd2
  have hwl := hb1.lt
  have HW := Lib.hid (And.intro hm0 hs0)
  clear hm0 hb1 hb0 hs0
  have hbi : (b : Int) ≤ (rs.length : Int) := by omega
  go_region
  obtain ⟨B, hBd⟩ : ∃ B, B = (if cap = b then A else Option.map (fun x => x.add (b * 12)) A) := ⟨_, rfl⟩
  obtain ⟨c2, hc2d⟩ : ∃ c2, c2 = cap - b := ⟨_, rfl⟩
  obtain ⟨hm, hmany⟩ := HM.out
  rw [← hBd, ← hm, ← hc2d]
  clear hBd hc2d
  obtain ⟨M, hM⟩ : ∃ M : Int, M = (m : Int) * (k : Int) := ⟨_, rfl⟩
  have hM2 : 20000 < (b : Int) + M ∧ M ≤ 20000 * 1000 := by
    rw [← hm] at hmany
    have h2 : m * k ≤ 20000 * 1000 := Nat.mul_le_mul (by omega) hk2
    have h3 : M = ((m * k : Nat) : Int) := by rw [hM]; push_cast; rfl
    rw [h3]; omega
  have hM3 : 0 ≤ M := by rw [hM]; exact Int.mul_nonneg (by omega) (by omega)
  have hM' := hM.symm
  clear hM HM hm hmany
  go_wp2
  go_region
  go_wp2
  go_ret
  obtain ⟨rfl, htp⟩ := HF.out
  obtain ⟨hm0, hs0⟩ := HW.out
  refine ⟨_, rfl, ⟨W0.heap.size, rfl, by omega, ?_⟩, ((hm0.drew).drew).alloc _⟩
  have : (((tp.toNat, 203) : Flt).1 : Int) = tp := by show ((tp.toNat : Nat) : Int) = tp; omega
  rw [this]
  exact Blk.newAt _ _ _ (by simp)

theorem par_lo {w : World} {lo p : Nat} {rs : List RStep} {rep : Option (Nat × Nat)} (h : Par w lo p rs rep) : lo ≤ w.heap.size := by obtain ⟨_, _, _, _, _, _, _, _, h5⟩ := h; exact h5

theorem tokcmp (hD : D = ⟨t.text.toArray⟩) (L : Bs) : (D.toList == L) = (t.text == L) := by
  rw [hD, Lib.toList_data]

theorem lineP_repeat_some (l : List StepS) (q : Nat × Nat) (hk : t.kind = 0) (ht : t.text = wRepeat) : lineP n (t :: ts) ⟨l, some q⟩ = .error (t.pos, 200) := by
  unfold lineP
  simp only []
  rw [if_neg (by rw [hk]; simp), if_pos ht]
theorem lineP_repeat_none (l : List StepS) (hk : t.kind = 0) (ht : t.text = wRepeat) : lineP n (t :: ts) ⟨l, none⟩ = match num n 1 1000 ts with
        | .error e => .error e
        | .ok q => (fin q.2).map fun _ => ⟨l, some (l.length, q.1.toNat)⟩ := by
  unfold lineP
  simp only []
  rw [if_neg (by rw [hk]; simp), if_pos ht]
  cases num n 1 1000 ts <;> rfl
theorem num_in {n : Nat} {lo hi x : Int} {ts ts2 : List Tok} (h : num n lo hi ts = .ok (x, ts2)) : lo ≤ x ∧ x ≤ hi := by
  rcases ts with _ | ⟨t, ts⟩
  · cases h
  · simp only [num] at h
    split at h
    · cases h
    · split at h
      · cases h
      · split at h
        · cases h; rename_i h2; exact h2.2
        · cases h

set_option maxRecDepth 100000 in
set_option maxHeartbeats 4000000 in
theorem line_repeat (hp : Par w lo p rs rep) (h : RdT w r n (t :: ts)) (hn : n ≤ 1099511627776) (hk : t.kind = 0) (ht : t.text = wRepeat) (hD : D = ⟨t.text.toArray⟩) :
    Calls Tryz.prog 33 #[.pointer (some ⟨p, 0, none⟩), .pointer (some ⟨r, 0, none⟩)] w (LinePost w lo p r n (t :: ts) (rs.map (·.1)) rep) := by
  have hkk : ((t.kind : Int) == 0) = true := by rw [hk]; rfl
  have hx1 : (D.toList == [114, 101, 112, 101, 97, 116]) = true := by rw [tokcmp t D hD, ht]; rfl
  have H := Lib.hid (And.intro hp (And.intro h (And.intro hD (And.intro hk ht))))
  clear h hD hk ht
  have hrp := hp.ne H.out.2.1
  obtain ⟨v, bg, ot, hb, hrep, hrich, hlens, hlen, hls⟩ := hp
  have hpl := hb.lt
  have HB := Lib.hid hb
  obtain ⟨A, cap, g, rfl, hcap, hg, hgp, _⟩ := rich_shape hrich hb H.out.2.1 hrp
  clear hb hrich hlens
  go_enter Tryz.func33, Tryz.ntmps33
  go_wp2_with fail
  refine (next_tok w r n t ts D H.out.2.2.1 (by rw [H.out.2.2.2.1]; decide) H.out.2.1 hn).mono ?_
  rintro e w1 ⟨rfl, hrt, hm1⟩
  have hb1 := hm1.blk HB.out (by simpa using Ne.symm hrp)
  have hp1 := hb1.lt
  have hc0 := hb1.cell 0
  have hc1 := hb1.cell 1
  have hc2 := hb1.cell 2
  have hcf0 := hb1.frozen 0
  have hcf1 := hb1.frozen 1
  have hcf2 := hb1.frozen 2
  simp at hc0 hc1 hc2
  have H2 := Lib.hid (And.intro hrt (And.intro hm1 hb1))
  clear hrt hm1 hb1
  rcases rep with _ | ⟨b, k⟩
  · have hbg : bg = -1 := hrep
    subst hbg
    have HE := Lib.hid (lineP_repeat_none n t ts (rs.map (·.1)) H.out.2.2.2.1 H.out.2.2.2.2)
    rcases hnum : num n 1 1000 ts with f | ⟨x, ts2⟩
    all_goals
      have HN := Lib.hid hnum
      clear hnum hrep
    · go_wp2_with fail
      have hrt2 := H2.out.1.frame (((Mod.refl [] w1).alloc (Obj.cells #[Value.int IntKind.i64 t.kind, Value.int IntKind.i64 t.pos, Value.string D] 145)).alloc (Obj.cells #[Value.int IntKind.i64 t.pos, Value.int IntKind.i64 200] 169)) (by simp)
      refine (rnumber_bad _ r n _ _ ts f HN.out hrt2 hn).mono ?_
      rintro e w2 ⟨v2, rfl, ⟨fb, rfl, hfb, hfk⟩, hm2⟩
      have H3 := Lib.hid (And.intro hfb (And.intro hfk hm2))
      clear hfb hfk hm2 hrt2
      go_wp2
      go_ret
      obtain ⟨hfb, hfk, hm2⟩ := H3.out
      have hs1 := H2.out.2.1.size
      simp at hfb
      refine line_bad (f := f) (by rw [HE.out, HN.out]) ⟨_, rfl, ⟨fb, rfl, by omega, hfk⟩, ?_⟩
      exact (((H2.out.2.1.alloc _).alloc _).trans hm2).low hls (by simp)
    · have hx : 1 ≤ x ∧ x ≤ 1000 := num_in HN.out
      go_wp2_with fail
      have hrt2 := H2.out.1.frame (((Mod.refl [] w1).alloc (Obj.cells #[Value.int IntKind.i64 t.kind, Value.int IntKind.i64 t.pos, Value.string D] 145)).alloc (Obj.cells #[Value.int IntKind.i64 t.pos, Value.int IntKind.i64 200] 169)) (by simp)
      refine (rnumber_good _ r n _ _ x ts ts2 HN.out hrt2 hn).mono ?_
      rintro e w2 ⟨rfl, hrt3, hm2⟩
      have hmm := ((H2.out.2.1.alloc (Obj.cells #[Value.int IntKind.i64 t.kind, Value.int IntKind.i64 t.pos, Value.string D] 145)).alloc (Obj.cells #[Value.int IntKind.i64 t.pos, Value.int IntKind.i64 200] 169)).trans hm2
      have hb2 := hmm.blk HB.out (by simpa using Ne.symm hrp)
      have hp2 := hb2.lt
      clear hc0 hc1 hc2 hcf0 hcf1 hcf2
      have hd0 := hb2.cell 0
      have hd1 := hb2.cell 1
      have hd2 := hb2.cell 2
      have hdf0 := hb2.frozen 0
      have hdf1 := hb2.frozen 1
      have hdf2 := hb2.frozen 2
      simp at hd0 hd1 hd2
      have H3 := Lib.hid (And.intro hrt3 (And.intro hmm hb2))
      clear hrt3 hmm hb2 hm2 hrt2
      go_wp2_with fail
      clear hd0 hd1 hd2 hdf0 hdf1 hdf2
      generalize hW : (w2.setCell ⟨p, 1, none⟩ (.int .i64 rs.length)).setCell ⟨p, 2, none⟩ (.int .i64 x) = W
      have hmW : Mod [p] w2 W := by rw [← hW]; exact ((Mod.refl _ _).setCell (by simp) _).setCell (by simp) _
      have hbW : Blk W p 99 #[.slice A rs.length cap, .int .i64 rs.length, .int .i64 x] := by rw [← hW]; exact (H3.out.2.2.set_ 1 _).set_ 2 _
      have hrW := H3.out.1.frame hmW (by simpa using hrp)
      clear hW
      rcases hq : fin ts2 with f | u
      all_goals
        have H4 := Lib.hid (And.intro hq (And.intro hmW (And.intro hbW hrW)))
        clear hq hmW hbW hrW
      · refine (rend_bad W r n ts2 f H4.out.1 H4.out.2.2.2 hn).mono ?_
        rintro e w4 ⟨v4, rfl, ⟨fb, rfl, hfb, hfk⟩, hm4⟩
        have H5 := Lib.hid (And.intro hfb (And.intro hfk hm4))
        clear hfb hfk hm4
        go_wp2
        go_ret
        obtain ⟨hq, hmW, hbW, hrW⟩ := H4.out
        obtain ⟨hfb, hfk, hm4⟩ := H5.out
        have hs1 := H3.out.2.1.size
        have hs2 := hmW.size
        refine line_bad (f := f) (by rw [HE.out, HN.out]; simp only []; rw [hq]; rfl) ⟨_, rfl, ⟨fb, rfl, by omega, hfk⟩, ?_⟩
        exact (((H3.out.2.1.mono (S' := [p, r]) (by simp)).trans (hmW.mono (by simp))).trans (hm4.mono (by simp))).low hls (by simp)
      · refine (rend_good W r n ts2 H4.out.1 H4.out.2.2.2 hn).mono ?_
        rintro e w4 ⟨rfl, hm4⟩
        have H5 := Lib.hid hm4
        clear hm4
        go_wp2
        go_ret
        obtain ⟨hq, hmW, hbW, hrW⟩ := H4.out
        have hm4 := H5.out
        have hall : Mod [p, r] w w4 := ((H3.out.2.1.mono (S' := [p, r]) (by simp)).trans (hmW.mono (by simp))).trans (hm4.mono (by simp))
        obtain ⟨v', bg', ot', hb', hrep', hrich', hlens', hlen', _⟩ := H.out.1
        have hv : v' = .slice A rs.length cap := by
          have h1 := hb'.cell 0
          rw [HB.out.cell 0] at h1
          simpa using h1.symm
        obtain ⟨line, al, hbr, _⟩ := H.out.2.1
        refine line_good (st := ⟨rs.map (·.1), some (rs.length, x.toNat)⟩) (by rw [HE.out, HN.out]; simp only []; rw [hq]; simp [Except.map]) ⟨rfl, ⟨rs, rfl, .slice A rs.length cap, _, _, hm4.blk hbW (by simpa using Ne.symm hrp), ?_, ?_, hlens', hlen', Nat.le_trans hls hall.size⟩, hall.low hls (by simp)⟩
        · exact ⟨rfl, by omega, Nat.le_refl _, by omega, by omega⟩
        · rw [← hv]
          refine hrich'.typed hall (fun q hq => ?_)
          simp at hq
          rcases hq with rfl | rfl
          · exact ⟨_, _, hb', by decide, by decide, by decide⟩
          · exact ⟨_, _, hbr, by decide, by decide, by decide⟩
  · have hbg : (0 : Int) ≤ bg := by have := hrep.1; omega
    have HE := Lib.hid (lineP_repeat_some n t ts (rs.map (·.1)) (b, k) H.out.2.2.2.1 H.out.2.2.2.2)
    clear hrep
    go_wp2
    go_ret
    have hs1 := H2.out.2.1.size
    exact line_bad HE.out ⟨_, rfl, ⟨w1.heap.size + 1, rfl, by omega, Blk.newAt _ _ _ (by simp)⟩, (((H2.out.2.1.alloc _).alloc _).low hls (by simp))⟩

set_option maxRecDepth 100000 in
set_option maxHeartbeats 4000000 in
theorem line_end (hp : Par w lo p rs rep) (h : RdT w r n (t :: ts)) (hn : n ≤ 1099511627776) (hk : t.kind = 0) (ht : t.text = wEnd) (hD : D = ⟨t.text.toArray⟩) :
    Calls Tryz.prog 33 #[.pointer (some ⟨p, 0, none⟩), .pointer (some ⟨r, 0, none⟩)] w (LinePost w lo p r n (t :: ts) (rs.map (·.1)) rep) := by
  have hkk : ((t.kind : Int) == 0) = true := by rw [hk]; rfl
  have hx1 : (D.toList == [114, 101, 112, 101, 97, 116]) = false := by rw [tokcmp t D hD, ht]; rfl
  have hx2 : (D.toList == [101, 110, 100]) = true := by rw [tokcmp t D hD, ht]; rfl
  have H := Lib.hid (And.intro hp (And.intro h (And.intro hD (And.intro hk ht))))
  clear hp h hD hk ht
  go_enter Tryz.func33, Tryz.ntmps33
  go_wp2_with fail
  refine (next_tok w r n t ts D H.out.2.2.1 (by rw [H.out.2.2.2.1]; decide) H.out.2.1 hn).mono ?_
  rintro e w1 ⟨rfl, hrt, hm1⟩
  have H2 := Lib.hid (And.intro hrt hm1)
  clear hrt hm1
  go_wp2_with fail
  generalize hW : (w1.alloc (Obj.cells #[Value.int IntKind.i64 t.kind, Value.int IntKind.i64 t.pos, Value.string D] 145)).alloc (Obj.cells #[Value.int IntKind.i64 t.pos, Value.int IntKind.i64 200] 169) = W
  have hmW : Mod [] w1 W := by rw [← hW]; exact ((Mod.refl _ _).alloc _).alloc _
  have H3 := Lib.hid (show Par W lo p rs rep ∧ RdT W r n ts ∧ Mod [r] w W from ⟨(H.out.1.reader H.out.2.1 (H.out.1.ne H.out.2.1) H2.out.2).typed hmW (by simp) (by simp), H2.out.1.frame hmW (by simp), H2.out.2.trans (hmW.mono (by simp))⟩)
  clear hW hmW
  have hE : lineP n (t :: ts) ⟨rs.map (·.1), rep⟩ = match rep with
      | none => .error (t.pos, 200)
      | some (b, k) => if maxSteps < b + (rs.length - b) * k then .error (t.pos, 203) else (fin ts).map fun _ => ⟨(rs.map (·.1)).take b ++ times k ((rs.map (·.1)).drop b), none⟩ := by
    unfold lineP
    simp only []
    rw [if_neg (by rw [H.out.2.2.2.1]; simp), if_neg (by rw [H.out.2.2.2.2]; decide), if_pos H.out.2.2.2.2]
    cases rep <;> simp
  have HE := Lib.hid hE
  clear hE
  rcases rep with _ | ⟨b, k⟩
  · refine (ends_none W lo p r rs D _ _ H3.out.1 (t.pos, 200) (by simp) (by omega)).mono ?_
    rintro e w2 ⟨v, rfl, hfk, hm2⟩
    have H4 := Lib.hid (And.intro hfk hm2)
    clear hfk hm2
    go_wp2
    go_ret
    obtain ⟨⟨fb, hv, hfb, hfk⟩, hm2⟩ := H4.out
    exact line_bad HE.out ⟨_, rfl, ⟨fb, hv, by have := H3.out.2.2.size; omega, hfk⟩, (H3.out.2.2.trans (hm2.mono (by simp))).low (par_lo H.out.1) (by simp)⟩
  · by_cases hmany : 20000 < b + (rs.length - b) * k
    · refine (ends_many W lo p r n ts rs D _ _ b k H3.out.1 H3.out.2.1 hmany (t.pos, 203) (by simp) (by omega)).mono ?_
      rintro e w2 ⟨v, rfl, hfk, hm2⟩
      have H4 := Lib.hid (And.intro hfk hm2)
      clear hfk hm2
      go_wp2
      go_ret
      obtain ⟨⟨fb, hv, hfb, hfk⟩, hm2⟩ := H4.out
      refine line_bad (f := (t.pos, 203)) (by rw [HE.out]; rw [if_pos (show maxSteps < _ from hmany)]) ⟨_, rfl, ⟨fb, hv, by have := H3.out.2.2.size; omega, hfk⟩, (H3.out.2.2.trans (hm2.mono (by simp))).low (par_lo H.out.1) (by simp)⟩
    · refine (ends_fine W lo p r n b k _ _ D ts rs H3.out.1 (by omega) H3.out.2.1 hn (H.out.1.ne H.out.2.1)).mono ?_
      rintro e w2 ⟨hbad, hgood, hlow⟩
      have hlw : Low lo [p, r] w w2 := (H3.out.2.2.low (par_lo H.out.1) (by simp)).trans hlow
      rcases hq : fin ts with f | u
      · obtain ⟨v, rfl, fb, hv, hfb, hfk⟩ := hbad f hq
        have H4 := Lib.hid (And.intro hfk (And.intro hfb (And.intro hv (And.intro hq hlw))))
        clear hbad hgood hlow hfk hfb hv hq hlw
        go_wp2
        go_ret
        obtain ⟨hfk, hfb, hv, hq, hlw⟩ := H4.out
        exact line_bad (by rw [HE.out]; rw [if_neg (show ¬ maxSteps < _ from hmany), hq]; rfl) ⟨_, rfl, ⟨fb, hv, by have := H3.out.2.2.size; omega, hfk⟩, hlw⟩
      · obtain ⟨rfl, rs', hrs, hpar⟩ := hgood hq
        have H4 := Lib.hid (And.intro hrs (And.intro hpar (And.intro hq hlw)))
        clear hbad hgood hlow hrs hpar hq hlw
        go_wp2
        go_ret
        obtain ⟨hrs, hpar, hq, hlw⟩ := H4.out
        exact line_good (st := ⟨(rs.map (·.1)).take b ++ times k ((rs.map (·.1)).drop b), none⟩) (by rw [HE.out]; rw [if_neg (show ¬ maxSteps < _ from hmany), hq]; rfl) ⟨rfl, ⟨rs', hrs, hpar⟩, hlw⟩
end
end Go.Proofs.YtjieelmbgfnllaaGreatDoor

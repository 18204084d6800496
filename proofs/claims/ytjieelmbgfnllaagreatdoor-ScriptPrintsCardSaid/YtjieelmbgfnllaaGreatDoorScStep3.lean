/- What step hands back at a fall, a fail, a submission, a tick; and of any name. Conditions: a line of at most 2^40 bytes. -/
import Derived.Test.YtjieelmbgfnllaaGreatDoorScStep2
namespace Go.Proofs.YtjieelmbgfnllaaGreatDoor
open Go.RowKit Scr

structure FallE (n : Nat) (ts ts2 : List Tok) (x : Int) (R : Res StepS) (Q : Res (List Int)) : Prop where
  hE : stepP n wFall ts = R
  hnum : numAny n ts = .ok (x, ts2)
  hk : keepsP n ts2 = Q
structure OpBadE (n : Nat) (nm : Bs) (ts ts2 : List Tok) (x : Int) (f : Flt) : Prop where
  hE : stepP n nm ts = .error f
  hnum : numAny n ts = .ok (x, ts2)
  ho : opP n nm ts2 = .error f
structure Fail2E (n : Nat) (ts ts2 : List Tok) (x : Int) (f : Flt) : Prop where
  hE : stepP n wFail ts = .error f
  hnum : numAny n ts = .ok (x, ts2)
  hy : numAny n ts2 = .error f
structure Fail3E (n : Nat) (ts ts2 ts3 : List Tok) (x y : Int) (f : Flt) : Prop where
  hE : stepP n wFail ts = .error f
  hnum : numAny n ts = .ok (x, ts2)
  hy : numAny n ts2 = .ok (y, ts3)
  hz : numAny n ts3 = .error f
theorem own_slice {w : World} {lo : Nat} {e : TypeId} {size : Nat} {v : Value} {n : Nat} {xs : List Value} (h : w.ownsRow lo e size v n xs) : ∃ A k c, v = .slice A k c := by
  rcases h.2 with ⟨rfl, _⟩ | ⟨g, cap, cur, rfl, _⟩
  · exact ⟨_, _, _, rfl⟩
  · exact ⟨_, _, _, rfl⟩
theorem keeps_error (w : World) (r b n : Nat) (v0 v1 v2 v3 v4 v5 v6 v7 v8 v9 v10 : Value) (ts : List Tok) (f : Flt) (hf : keepsP n ts = .error f) (h : RdT w r n ts) (hn : n ≤ 1099511627776)
    (hb : Blk w b 69 #[v0, v1, v2, v3, v4, v5, v6, v7, v8, v9, v10, .slice none 0 0]) :
    Calls Tryz.prog 164 #[.pointer (some ⟨r, 0, none⟩), .pointer (some ⟨b, 0, none⟩)] w fun e w' => ∃ v, e = .returned v ∧ FaultIs w w' f v ∧ SomeStep w' b #[v0, v1, v2, v3, v4, v5, v6, v7, v8, v9, v10, .slice none 0 0] ∧ Mod [r, b] w w' := by
  have := keeps_walk w r b n v0 v1 v2 v3 v4 v5 v6 v7 v8 v9 v10 ts h hn hb
  unfold KeepsPost at this; rw [hf] at this; exact this
theorem keeps_fine (w : World) (r b n : Nat) (v0 v1 v2 v3 v4 v5 v6 v7 v8 v9 v10 : Value) (ts : List Tok) (l : List Int) (hf : keepsP n ts = .ok l) (h : RdT w r n ts) (hn : n ≤ 1099511627776)
    (hb : Blk w b 69 #[v0, v1, v2, v3, v4, v5, v6, v7, v8, v9, v10, .slice none 0 0]) :
    Calls Tryz.prog 164 #[.pointer (some ⟨r, 0, none⟩), .pointer (some ⟨b, 0, none⟩)] w fun e w' => e = .returned .nilIface ∧ (∃ A k c, Blk w' b 69 #[v0, v1, v2, v3, v4, v5, v6, v7, v8, v9, v10, .slice A k c] ∧ IntsAt w' w.heap.size (.slice A k c) l) ∧ Mod [r, b] w w' := by
  have := keeps_walk w r b n v0 v1 v2 v3 v4 v5 v6 v7 v8 v9 v10 ts h hn hb
  unfold KeepsPost at this; rw [hf] at this
  refine this.mono fun e w' h => ?_
  obtain ⟨he, ⟨kv, hb, ho⟩, hm⟩ := h
  obtain ⟨A, k, c, rfl⟩ := own_slice ho
  exact ⟨he, ⟨A, k, c, hb, ho⟩, hm⟩
theorem operation_error (w : World) (r b n : Nat) (v0 v1 v2 v3 v11 : Value) (nm : Bs) (ts : List Tok) (D : ByteArray) (f : Flt) (hf : opP n nm ts = .error f) (h : RdT w r n ts) (hn : n ≤ 1099511627776) (hD : D.data.toList = nm)
    (hb : Blk w b 69 #[v0, v1, v2, v3, .int .i64 0, .slice none 0 0, .bool false, .string ⟨#[]⟩, .string ⟨#[]⟩, .int .i64 0, .int .i64 0, v11]) :
    Calls Tryz.prog 165 #[.pointer (some ⟨r, 0, none⟩), .string D, .pointer (some ⟨b, 4, none⟩)] w fun e w' => ∃ v, e = .returned v ∧ FaultIs w w' f v ∧ SomeStep w' b #[v0, v1, v2, v3, .int .i64 0, .slice none 0 0, .bool false, .string ⟨#[]⟩, .string ⟨#[]⟩, .int .i64 0, .int .i64 0, v11] ∧ Mod [r, b] w w' := by
  have := operation_walk w r b n v0 v1 v2 v3 v11 ts D nm h hn hD hb
  unfold OpPost at this; rw [hf] at this; exact this
theorem operation_fine (w : World) (r b n : Nat) (v0 v1 v2 v3 v11 : Value) (nm : Bs) (ts ts' : List Tok) (D : ByteArray) (o : OpS) (hf : opP n nm ts = .ok (o, ts')) (h : RdT w r n ts) (hn : n ≤ 1099511627776) (hD : D.data.toList = nm)
    (hb : Blk w b 69 #[v0, v1, v2, v3, .int .i64 0, .slice none 0 0, .bool false, .string ⟨#[]⟩, .string ⟨#[]⟩, .int .i64 0, .int .i64 0, v11]) :
    Calls Tryz.prog 165 #[.pointer (some ⟨r, 0, none⟩), .string D, .pointer (some ⟨b, 4, none⟩)] w fun e w' => e = .returned .nilIface ∧ RdT w' r n ts' ∧
      (∃ A k c, Blk w' b 69 #[v0, v1, v2, v3, .int .i64 o.kind, .slice A k c, .bool o.sync, .string ⟨o.key.toArray⟩, .string ⟨o.til.toArray⟩, .int .i64 o.n, .int .i64 o.snap, v11] ∧ WritesAt w' w.heap.size (.slice A k c) o.writes) ∧ Mod [r, b] w w' := by
  have := operation_walk w r b n v0 v1 v2 v3 v11 ts D nm h hn hD hb
  unfold OpPost at this; rw [hf] at this
  refine this.mono fun e w' h => ?_
  obtain ⟨he, hr, ⟨wv, hb, ho⟩, hm⟩ := h
  obtain ⟨A, k, c, rfl⟩ := own_slice ho
  exact ⟨he, hr, ⟨A, k, c, hb, ho⟩, hm⟩
theorem owns_set12 {w : World} {lo : Nat} {e : TypeId} {size : Nat} {v : Value} {n : Nat} {xs : List Value} {g : Nat} (h : w.ownsRow lo e size v n xs) (hne : ∀ k, v.ownBlock = some k → k ≠ g) (c0 c1 c2 c3 c4 c5 c6 c7 c8 c9 c10 c11 : Value) :
    World.ownsRow ((((((((((((w.setCell ⟨g, 0, none⟩ c0).setCell ⟨g, 1, none⟩ c1).setCell ⟨g, 2, none⟩ c2).setCell ⟨g, 3, none⟩ c3).setCell ⟨g, 4, none⟩ c4).setCell ⟨g, 5, none⟩ c5).setCell ⟨g, 6, none⟩ c6).setCell ⟨g, 7, none⟩ c7).setCell ⟨g, 8, none⟩ c8).setCell ⟨g, 9, none⟩ c9).setCell ⟨g, 10, none⟩ c10).setCell ⟨g, 11, none⟩ c11) lo e size v n xs :=
  owns_mod h ((Mod.refl [g] w).set12 (.inl (by simp)) c0 c1 c2 c3 c4 c5 c6 c7 c8 c9 c10 c11) (fun k hk => by simpa using hne k hk)

section
variable (w : World) (r n : Nat) (ts : List Tok) (D : ByteArray)
set_option maxRecDepth 100000 in
set_option maxHeartbeats 4000000 in
theorem step_fall (h : RdT w r n ts) (hn : n ≤ 1099511627776) (hD : D.data.toList = wFall) :
    Calls Tryz.prog 108 #[.pointer (some ⟨r, 0, none⟩), .string D] w (StepPost w r n wFall ts) := by
  have hx : ∀ l, (D.toList == l) = ([102, 97, 108, 108] == l) := beq_name hD
  have hrl := h.lt
  have H := Lib.hid h
  have hE : stepP n wFall ts = match numAny n ts with
    | .error e => .error e
    | .ok a => (keepsP n a.2).map fun l => { StepS.zero with kind := 4, a := a.1, keep := l } := rfl
  rcases hnum : numAny n ts with f | ⟨x, ts2⟩
  · rw [hnum] at hE
    exact step_first_bad w r n ts D _ f h hn (by rw [Lib.toList_data, hD]; rfl) hE hnum
  · rw [hnum] at hE
    simp only [] at hE
    rcases hk : keepsP n ts2 with f | l
    · rw [hk] at hE
      have HE := Lib.hid (FallE.mk hE hnum hk)
      clear h hD hE hnum hk
      go_enter Tryz.func108, Tryz.ntmps108
      go_wp2_with fail
      refine (rnumber_good _ r n _ _ x ts ts2 HE.out.hnum (H.out.frame (((Mod.refl [] w).alloc _).alloc _) (by simp)) hn).mono ?_
      rintro e w2 ⟨rfl, hrt2, hm2⟩
      have hR := hm2.blk ((Blk.new w 69 zeroStep).alloc (.cells zeroStep 69)) (by simp; omega)
      have hB := hm2.blk (Blk.newAt (w.alloc (.cells zeroStep 69)) 69 zeroStep (n := w.heap.size + 1) (by simp)) (by simp; omega)
      have hBc := hB.cell
      have hBf := hB.frozen
      unfold zeroStep at hBc
      have hBl := hB.lt
      have H2 := Lib.hid (And.intro hR (And.intro hB (And.intro hrt2 hm2)))
      clear hR hB hrt2 hm2
      go_wp2_with fail
      clear hBc hBf
      generalize hW : (w2.setCell ⟨w.heap.size + 1, 1, none⟩ (.int .i64 x)).setCell ⟨w.heap.size + 1, 0, none⟩ (.int .i64 4) = W
      have H3 := Lib.hid (show Blk W w.heap.size 69 zeroStep ∧ Blk W (w.heap.size + 1) 69 #[.int .i64 4, .int .i64 x, .int .i64 0, .int .i64 0, .int .i64 0, .slice none 0 0, .bool false, .string ⟨#[]⟩, .string ⟨#[]⟩, .int .i64 0, .int .i64 0, .slice none 0 0] ∧ RdT W r n ts2 ∧ Mod [r] w W ∧ W.heap.size = w2.heap.size from by
        obtain ⟨hR, hB, hrt2, hm2⟩ := H2.out
        have hmW : Mod [w.heap.size + 1] w2 W := by rw [← hW]; exact ((Mod.refl _ _).setCell (by simp) _).setCell (by simp) _
        exact ⟨hmW.blk hR (by simp), by rw [← hW]; exact (hB.set_ 1 _).set_ 0 _, hrt2.frame hmW (by simp; omega), (((((Mod.refl [r] w).alloc _).alloc _).trans hm2).then hmW (by simp)), by rw [← hW]; simp⟩)
      clear hW H2
      refine (keeps_error W r (w.heap.size + 1) n _ _ _ _ _ _ _ _ _ _ _ ts2 f HE.out.hk H3.out.2.2.1 hn H3.out.2.1).mono ?_
      rintro e w4 ⟨v, rfl, ⟨fb, rfl, hfb, hfk⟩, ⟨cs, hcs, hBk, hone⟩, hm4⟩
      have hone2 := hone (by simp [Value.oneCell'])
      have hR4 := hm4.blk H3.out.1 (by simp; omega)
      have HS := Lib.hid (And.intro hR4 (And.intro hBk hone2))
      have H5 := Lib.hid (And.intro hfb (And.intro hfk hm4))
      clear hR4 hBk hone hone2 hfb hfk hm4
      go_wp2_with (first | (refine wpList_load_row rfl 69 _ rfl (w.heap.size + 1) rfl 69 cs (0, 0) _ HS.out.2.1 Tryz.underlying69 rfl (size_step _ hcs) ?_) | (refine wpList_store_row rfl 69 _ _ rfl w.heap.size cs rfl rfl 69 zeroStep HS.out.1 (size_step _ hcs) (by rw [hcs]; rfl) HS.out.2.2 ?_))
      obtain ⟨hfb, hfk, hm4⟩ := H5.out
      have hsz3 := H3.out.2.2.2.1.size
      refine ret_cell_tmp Tryz.results108 rfl (HS.out.1.setRow (cs' := cs)) Tryz.underlying69 rfl (size_step _ hcs) rfl ?_
      refine step_bad HE.out.hE ⟨cs, _, hcs, HS.out.2.2, rfl, ⟨fb, rfl, by omega, ?_⟩, ?_⟩
      · exact ((Mod.refl [w.heap.size] w4).setRow (.inl (by simp)) cs).blk hfk (by have := H3.out.1.lt; simp; omega)
      · exact (H3.out.2.2.2.1.then hm4 (fun i hi => by simp at hi; rcases hi with rfl | rfl <;> simp)).setRow (.inr (Nat.le_refl _)) cs
    · rw [hk] at hE
      have HE := Lib.hid (FallE.mk hE hnum hk)
      clear h hD hE hnum hk
      go_enter Tryz.func108, Tryz.ntmps108
      go_wp2_with fail
      refine (rnumber_good _ r n _ _ x ts ts2 HE.out.hnum (H.out.frame (((Mod.refl [] w).alloc _).alloc _) (by simp)) hn).mono ?_
      rintro e w2 ⟨rfl, hrt2, hm2⟩
      have hR := hm2.blk ((Blk.new w 69 zeroStep).alloc (.cells zeroStep 69)) (by simp; omega)
      have hB := hm2.blk (Blk.newAt (w.alloc (.cells zeroStep 69)) 69 zeroStep (n := w.heap.size + 1) (by simp)) (by simp; omega)
      have hBc := hB.cell
      have hBf := hB.frozen
      unfold zeroStep at hBc
      have hBl := hB.lt
      have H2 := Lib.hid (And.intro hR (And.intro hB (And.intro hrt2 hm2)))
      clear hR hB hrt2 hm2
      go_wp2_with fail
      clear hBc hBf
      generalize hW : (w2.setCell ⟨w.heap.size + 1, 1, none⟩ (.int .i64 x)).setCell ⟨w.heap.size + 1, 0, none⟩ (.int .i64 4) = W
      have H3 := Lib.hid (show Blk W w.heap.size 69 zeroStep ∧ Blk W (w.heap.size + 1) 69 #[.int .i64 4, .int .i64 x, .int .i64 0, .int .i64 0, .int .i64 0, .slice none 0 0, .bool false, .string ⟨#[]⟩, .string ⟨#[]⟩, .int .i64 0, .int .i64 0, .slice none 0 0] ∧ RdT W r n ts2 ∧ Mod [r] w W ∧ W.heap.size = w2.heap.size from by
        obtain ⟨hR, hB, hrt2, hm2⟩ := H2.out
        have hmW : Mod [w.heap.size + 1] w2 W := by rw [← hW]; exact ((Mod.refl _ _).setCell (by simp) _).setCell (by simp) _
        exact ⟨hmW.blk hR (by simp), by rw [← hW]; exact (hB.set_ 1 _).set_ 0 _, hrt2.frame hmW (by simp; omega), (((((Mod.refl [r] w).alloc _).alloc _).trans hm2).then hmW (by simp)), by rw [← hW]; simp⟩)
      clear hW H2
      refine (keeps_fine W r (w.heap.size + 1) n _ _ _ _ _ _ _ _ _ _ _ ts2 l HE.out.hk H3.out.2.2.1 hn H3.out.2.1).mono ?_
      rintro e w4 ⟨rfl, ⟨A, k, c, hBk, hown⟩, hm4⟩
      have hR4 := hm4.blk H3.out.1 (by simp; omega)
      have hBc := hBk.cell
      have hRc := hR4.cell
      have hRf := hR4.frozen
      unfold zeroStep at hRc
      have hBl4 := hBk.lt
      have H5 := Lib.hid (And.intro hR4 (And.intro hBk (And.intro hown hm4)))
      clear hR4 hBk hown hm4
      go_wp2
      obtain ⟨hR4, hBk, hown, hm4⟩ := H5.out
      have hsz3 := H3.out.2.2.2.1.size
      refine ret_cell_tmp Tryz.results108 rfl (hR4.set12 _ _ _ _ _ _ _ _ _ _ _ _) Tryz.underlying69 rfl (by kernel_rfl) rfl ?_
      refine step_good HE.out.hE ⟨_, _, rfl, no_writes _ _, ?_, ?_⟩
      · exact owns_set12 (owns_mono hown hsz3) (fun k hk => owns_far hown hR4 (by decide) hk) _ _ _ _ _ _ _ _ _ _ _ _
      · exact (H3.out.2.2.2.1.then hm4 (fun i hi => by simp at hi; rcases hi with rfl | rfl <;> simp)).set12 (.inr (Nat.le_refl _)) _ _ _ _ _ _ _ _ _ _ _ _

set_option maxRecDepth 100000 in
set_option maxHeartbeats 4000000 in
theorem step_op (nm : Bs) (h : RdT w r n ts) (hn : n ≤ 1099511627776) (hD : D.data.toList = nm) (h1 : nm ≠ wTick) (h2 : nm ≠ wDo) (h3 : nm ≠ wArm) (h4 : nm ≠ wFall) (h5 : nm ≠ wFail) :
    Calls Tryz.prog 108 #[.pointer (some ⟨r, 0, none⟩), .string D] w (StepPost w r n nm ts) := by
  have hx : ∀ l : List UInt8, nm ≠ l → (D.toList == l) = false := fun l hl => by rw [Lib.toList_data, hD, beq_eq_false_iff_ne]; exact hl
  have x1 := hx _ h1
  have x2 := hx _ h2
  have x3 := hx _ h3
  have x4 := hx _ h4
  have x5 := hx _ h5
  unfold wTick at x1
  unfold wDo at x2
  unfold wArm at x3
  unfold wFall at x4
  unfold wFail at x5
  have hrl := h.lt
  have H := Lib.hid h
  have HDn := Lib.hid hD
  have hE : stepP n nm ts = match numAny n ts with
    | .error e => .error e
    | .ok a => match opP n nm a.2 with
      | .error e => .error e
      | .ok o => withFin { StepS.zero with kind := 1, a := a.1, op := o.1 } o.2 := by
    unfold stepP; rw [if_neg h1]
    cases numAny n ts with
    | error e => rfl
    | ok a => simp only [if_neg h2, if_neg h3, if_neg h4, if_neg h5]; rfl
  rcases hnum : numAny n ts with f | ⟨x, ts2⟩
  · rw [hnum] at hE
    exact step_first_bad w r n ts D _ f h hn x1 hE hnum
  · rw [hnum] at hE
    simp only [] at hE
    rcases ho : opP n nm ts2 with f | ⟨o, ts3⟩
    · rw [ho] at hE
      have HE := Lib.hid (OpBadE.mk hE hnum ho)
      clear h hD hE hnum ho hx h1 h2 h3 h4 h5
      go_enter Tryz.func108, Tryz.ntmps108
      go_wp2_with fail
      refine (rnumber_good _ r n _ _ x ts ts2 HE.out.hnum (H.out.frame (((Mod.refl [] w).alloc _).alloc _) (by simp)) hn).mono ?_
      rintro e w2 ⟨rfl, hrt2, hm2⟩
      have hR := hm2.blk ((Blk.new w 69 zeroStep).alloc (.cells zeroStep 69)) (by simp; omega)
      have hB := hm2.blk (Blk.newAt (w.alloc (.cells zeroStep 69)) 69 zeroStep (n := w.heap.size + 1) (by simp)) (by simp; omega)
      have hBc := hB.cell
      have hBf := hB.frozen
      unfold zeroStep at hBc
      have hBl := hB.lt
      have H2 := Lib.hid (And.intro hR (And.intro hB (And.intro hrt2 hm2)))
      clear hR hB hrt2 hm2
      go_wp2_with fail
      clear hBc hBf
      generalize hW : (w2.setCell ⟨w.heap.size + 1, 1, none⟩ (.int .i64 x)).setCell ⟨w.heap.size + 1, 0, none⟩ (.int .i64 1) = W
      have H3 := Lib.hid (show Blk W w.heap.size 69 zeroStep ∧ Blk W (w.heap.size + 1) 69 #[.int .i64 1, .int .i64 x, .int .i64 0, .int .i64 0, .int .i64 0, .slice none 0 0, .bool false, .string ⟨#[]⟩, .string ⟨#[]⟩, .int .i64 0, .int .i64 0, .slice none 0 0] ∧ RdT W r n ts2 ∧ Mod [r] w W ∧ W.heap.size = w2.heap.size from by
        obtain ⟨hR, hB, hrt2, hm2⟩ := H2.out
        have hmW : Mod [w.heap.size + 1] w2 W := by rw [← hW]; exact ((Mod.refl _ _).setCell (by simp) _).setCell (by simp) _
        exact ⟨hmW.blk hR (by simp), by rw [← hW]; exact (hB.set_ 1 _).set_ 0 _, hrt2.frame hmW (by simp; omega), (((((Mod.refl [r] w).alloc _).alloc _).trans hm2).then hmW (by simp)), by rw [← hW]; simp⟩)
      clear hW H2
      refine (operation_error W r (w.heap.size + 1) n _ _ _ _ _ nm ts2 D f HE.out.ho H3.out.2.2.1 hn HDn.out H3.out.2.1).mono ?_
      rintro e w4 ⟨v, rfl, ⟨fb, rfl, hfb, hfk⟩, ⟨cs, hcs, hBk, hone⟩, hm4⟩
      have hone2 := hone (by simp [Value.oneCell'])
      have hR4 := hm4.blk H3.out.1 (by simp; omega)
      have HS := Lib.hid (And.intro hR4 (And.intro hBk hone2))
      have H5 := Lib.hid (And.intro hfb (And.intro hfk hm4))
      clear hR4 hBk hone hone2 hfb hfk hm4
      go_wp2_with (first | (refine wpList_load_row rfl 69 _ rfl (w.heap.size + 1) rfl 69 cs (0, 0) _ HS.out.2.1 Tryz.underlying69 rfl (size_step _ hcs) ?_) | (refine wpList_store_row rfl 69 _ _ rfl w.heap.size cs rfl rfl 69 zeroStep HS.out.1 (size_step _ hcs) (by rw [hcs]; rfl) HS.out.2.2 ?_))
      obtain ⟨hfb, hfk, hm4⟩ := H5.out
      have hsz3 := H3.out.2.2.2.1.size
      refine ret_cell_tmp Tryz.results108 rfl (HS.out.1.setRow (cs' := cs)) Tryz.underlying69 rfl (size_step _ hcs) rfl ?_
      refine step_bad HE.out.hE ⟨cs, _, hcs, HS.out.2.2, rfl, ⟨fb, rfl, by omega, ?_⟩, ?_⟩
      · exact ((Mod.refl [w.heap.size] w4).setRow (.inl (by simp)) cs).blk hfk (by have := H3.out.1.lt; simp; omega)
      · exact (H3.out.2.2.2.1.then hm4 (fun i hi => by simp at hi; rcases hi with rfl | rfl <;> simp)).setRow (.inr (Nat.le_refl _)) cs
    · rw [ho] at hE
      simp only [] at hE
      rcases hfin : fin ts3 with f | u
      · unfold withFin at hE
        rw [hfin] at hE
        have HE := Lib.hid (OpE.mk hE hnum ho hfin)
        clear h hD hE hnum ho hfin hx h1 h2 h3 h4 h5
        go_enter Tryz.func108, Tryz.ntmps108
        go_wp2_with fail
        refine (rnumber_good _ r n _ _ x ts ts2 HE.out.hnum (H.out.frame (((Mod.refl [] w).alloc _).alloc _) (by simp)) hn).mono ?_
        rintro e w2 ⟨rfl, hrt2, hm2⟩
        have hR := hm2.blk ((Blk.new w 69 zeroStep).alloc (.cells zeroStep 69)) (by simp; omega)
        have hB := hm2.blk (Blk.newAt (w.alloc (.cells zeroStep 69)) 69 zeroStep (n := w.heap.size + 1) (by simp)) (by simp; omega)
        have hBc := hB.cell
        have hBf := hB.frozen
        unfold zeroStep at hBc
        have hBl := hB.lt
        have H2 := Lib.hid (And.intro hR (And.intro hB (And.intro hrt2 hm2)))
        clear hR hB hrt2 hm2
        go_wp2_with fail
        clear hBc hBf
        generalize hW0 : (w2.setCell ⟨w.heap.size + 1, 1, none⟩ (.int .i64 x)).setCell ⟨w.heap.size + 1, 0, none⟩ (.int .i64 1) = W0
        have H30 := Lib.hid (show Blk W0 w.heap.size 69 zeroStep ∧ Blk W0 (w.heap.size + 1) 69 #[.int .i64 1, .int .i64 x, .int .i64 0, .int .i64 0, .int .i64 0, .slice none 0 0, .bool false, .string ⟨#[]⟩, .string ⟨#[]⟩, .int .i64 0, .int .i64 0, .slice none 0 0] ∧ RdT W0 r n ts2 ∧ Mod [r] w W0 ∧ W0.heap.size = w2.heap.size from by
          obtain ⟨hR, hB, hrt2, hm2⟩ := H2.out
          have hmW : Mod [w.heap.size + 1] w2 W0 := by rw [← hW0]; exact ((Mod.refl _ _).setCell (by simp) _).setCell (by simp) _
          exact ⟨hmW.blk hR (by simp), by rw [← hW0]; exact (hB.set_ 1 _).set_ 0 _, hrt2.frame hmW (by simp; omega), (((((Mod.refl [r] w).alloc _).alloc _).trans hm2).then hmW (by simp)), by rw [← hW0]; simp⟩)
        clear hW0 H2
        refine (operation_fine W0 r (w.heap.size + 1) n _ _ _ _ _ nm ts2 ts3 D o HE.out.ho H30.out.2.2.1 hn HDn.out H30.out.2.1).mono ?_
        rintro e W ⟨rfl, hrt5, ⟨A, k, c, hBk, hown⟩, hm5⟩
        have HO := Lib.hid (show WritesAt W w.heap.size (.slice A k c) o.writes from owns_mono hown (by have := H30.out.2.2.2.1.size; omega))
        have HOB := Lib.hid (show ∀ g, (Value.slice A k c).ownBlock = some g → g ≠ r ∧ g ≠ w.heap.size ∧ g ≠ w.heap.size + 1 ∧ g < W.heap.size from fun g hg => ⟨hrt5.far hown (by decide) hg, owns_far hown (hm5.blk H30.out.1 (by simp; omega)) (by decide) hg, owns_far hown hBk (by decide) hg, own_lt hown hg⟩)
        have H3 := Lib.hid (And.intro (hm5.blk H30.out.1 (by simp; omega)) (And.intro hBk (And.intro hrt5 (And.intro (H30.out.2.2.2.1.then hm5 (fun i hi => by simp at hi; rcases hi with rfl | rfl <;> simp)) trivial))))
        clear hrt5 hBk hown hm5 H30
        go_wp2
        have hBc := H3.out.2.1.cell
        have hBl3 := H3.out.2.1.lt
        have HC := Lib.hid (rend_bad W.drew r n ts3 f HE.out.hfin H3.out.2.2.1 hn)
        go_region_with (go_at_call 105; refine HC.out.mono ?_; rintro e w4 ⟨v, rfl, ⟨fb, rfl, hfb, hfk⟩, hm4⟩; have hR4 := (hm4.blk (H3.out.1.drew) (by simp; omega)); have hB4 := (hm4.blk (H3.out.2.1.drew) (by simp; omega)); have hRc := hR4.cell; have hRf := hR4.frozen; have hBc4 := hB4.cell; unfold zeroStep at hRc; have H5 := Lib.hid (And.intro hR4 (And.intro hB4 (And.intro hfb (And.intro hfk hm4)))); clear hR4 hB4 hfb hfk hm4)
        all_goals
          go_wp2
          obtain ⟨hR4, hB4, hfb, hfk, hm4⟩ := H5.out
          simp at hfb
          have hsz3 := H3.out.2.2.2.1.size
          refine ret_cell_tmp Tryz.results108 rfl (hR4.set12 _ _ _ _ _ _ _ _ _ _ _ _) Tryz.underlying69 rfl (by kernel_rfl) rfl ?_
          refine step_bad HE.out.hE ⟨_, _, rfl, by simp [Value.oneCell'], rfl, ⟨fb, rfl, by omega, ?_⟩, ?_⟩
          · exact ((Mod.refl [w.heap.size] w4).set12 (.inl (by simp)) _ _ _ _ _ _ _ _ _ _ _ _).blk hfk (by simp; omega)
          · exact ((H3.out.2.2.2.1.drew).trans hm4).set12 (.inr (Nat.le_refl _)) _ _ _ _ _ _ _ _ _ _ _ _
      · unfold withFin at hE
        rw [hfin] at hE
        have HE := Lib.hid (OpE.mk hE hnum ho hfin)
        clear h hD hE hnum ho hfin hx h1 h2 h3 h4 h5
        go_enter Tryz.func108, Tryz.ntmps108
        go_wp2_with fail
        refine (rnumber_good _ r n _ _ x ts ts2 HE.out.hnum (H.out.frame (((Mod.refl [] w).alloc _).alloc _) (by simp)) hn).mono ?_
        rintro e w2 ⟨rfl, hrt2, hm2⟩
        have hR := hm2.blk ((Blk.new w 69 zeroStep).alloc (.cells zeroStep 69)) (by simp; omega)
        have hB := hm2.blk (Blk.newAt (w.alloc (.cells zeroStep 69)) 69 zeroStep (n := w.heap.size + 1) (by simp)) (by simp; omega)
        have hBc := hB.cell
        have hBf := hB.frozen
        unfold zeroStep at hBc
        have hBl := hB.lt
        have H2 := Lib.hid (And.intro hR (And.intro hB (And.intro hrt2 hm2)))
        clear hR hB hrt2 hm2
        go_wp2_with fail
        clear hBc hBf
        generalize hW0 : (w2.setCell ⟨w.heap.size + 1, 1, none⟩ (.int .i64 x)).setCell ⟨w.heap.size + 1, 0, none⟩ (.int .i64 1) = W0
        have H30 := Lib.hid (show Blk W0 w.heap.size 69 zeroStep ∧ Blk W0 (w.heap.size + 1) 69 #[.int .i64 1, .int .i64 x, .int .i64 0, .int .i64 0, .int .i64 0, .slice none 0 0, .bool false, .string ⟨#[]⟩, .string ⟨#[]⟩, .int .i64 0, .int .i64 0, .slice none 0 0] ∧ RdT W0 r n ts2 ∧ Mod [r] w W0 ∧ W0.heap.size = w2.heap.size from by
          obtain ⟨hR, hB, hrt2, hm2⟩ := H2.out
          have hmW : Mod [w.heap.size + 1] w2 W0 := by rw [← hW0]; exact ((Mod.refl _ _).setCell (by simp) _).setCell (by simp) _
          exact ⟨hmW.blk hR (by simp), by rw [← hW0]; exact (hB.set_ 1 _).set_ 0 _, hrt2.frame hmW (by simp; omega), (((((Mod.refl [r] w).alloc _).alloc _).trans hm2).then hmW (by simp)), by rw [← hW0]; simp⟩)
        clear hW0 H2
        refine (operation_fine W0 r (w.heap.size + 1) n _ _ _ _ _ nm ts2 ts3 D o HE.out.ho H30.out.2.2.1 hn HDn.out H30.out.2.1).mono ?_
        rintro e W ⟨rfl, hrt5, ⟨A, k, c, hBk, hown⟩, hm5⟩
        have HO := Lib.hid (show WritesAt W w.heap.size (.slice A k c) o.writes from owns_mono hown (by have := H30.out.2.2.2.1.size; omega))
        have HOB := Lib.hid (show ∀ g, (Value.slice A k c).ownBlock = some g → g ≠ r ∧ g ≠ w.heap.size ∧ g ≠ w.heap.size + 1 ∧ g < W.heap.size from fun g hg => ⟨hrt5.far hown (by decide) hg, owns_far hown (hm5.blk H30.out.1 (by simp; omega)) (by decide) hg, owns_far hown hBk (by decide) hg, own_lt hown hg⟩)
        have H3 := Lib.hid (And.intro (hm5.blk H30.out.1 (by simp; omega)) (And.intro hBk (And.intro hrt5 (And.intro (H30.out.2.2.2.1.then hm5 (fun i hi => by simp at hi; rcases hi with rfl | rfl <;> simp)) trivial))))
        clear hrt5 hBk hown hm5 H30
        go_wp2
        have hBc := H3.out.2.1.cell
        have hBl3 := H3.out.2.1.lt
        have HC := Lib.hid (rend_good W.drew r n ts3 HE.out.hfin H3.out.2.2.1 hn)
        go_region_with (go_at_call 105; refine HC.out.mono ?_; rintro e w4 ⟨rfl, hm4⟩; have hR4 := (hm4.blk (H3.out.1.drew) (by simp; omega)); have hB4 := (hm4.blk (H3.out.2.1.drew) (by simp; omega)); have hRc := hR4.cell; have hRf := hR4.frozen; have hBc4 := hB4.cell; unfold zeroStep at hRc; have H5 := Lib.hid (And.intro hR4 (And.intro hB4 hm4)); clear hR4 hB4 hm4)
        all_goals
          go_wp2
          obtain ⟨hR4, hB4, hm4⟩ := H5.out
          refine ret_cell_tmp Tryz.results108 rfl (hR4.set12 _ _ _ _ _ _ _ _ _ _ _ _) Tryz.underlying69 rfl (by kernel_rfl) rfl ?_
          refine step_good HE.out.hE ⟨_, _, rfl, ?_, ?_, ?_⟩
          · exact owns_set12 (owns_mod (HO.out.drew) hm4 (fun g hg => by
              have := HOB.out g hg
              simp; omega)) (fun k hk => by have := HOB.out k hk; omega) _ _ _ _ _ _ _ _ _ _ _ _
          · exact no_ints _ _
          · exact ((H3.out.2.2.2.1.drew).trans hm4).set12 (.inr (Nat.le_refl _)) _ _ _ _ _ _ _ _ _ _ _ _

set_option maxRecDepth 100000 in
set_option maxHeartbeats 4000000 in
theorem step_fail (h : RdT w r n ts) (hn : n ≤ 1099511627776) (hD : D.data.toList = wFail) :
    Calls Tryz.prog 108 #[.pointer (some ⟨r, 0, none⟩), .string D] w (StepPost w r n wFail ts) := by
  have hx : ∀ l, (D.toList == l) = ([102, 97, 105, 108] == l) := beq_name hD
  have hrl := h.lt
  have H := Lib.hid h
  have hE : stepP n wFail ts = match numAny n ts with
    | .error e => .error e
    | .ok a => match numAny n a.2 with
      | .error e => .error e
      | .ok b => match numAny n b.2 with
        | .error e => .error e
        | .ok c => withFin { StepS.zero with kind := 6, a := a.1, b := b.1, c := c.1 } c.2 := rfl
  rcases hnum : numAny n ts with f | ⟨x, ts2⟩
  · rw [hnum] at hE
    exact step_first_bad w r n ts D _ f h hn (by rw [Lib.toList_data, hD]; rfl) hE hnum
  · rw [hnum] at hE
    simp only [] at hE
    rcases hy : numAny n ts2 with f | ⟨y, ts3⟩
    · rw [hy] at hE
      have HE := Lib.hid (Fail2E.mk hE hnum hy)
      clear h hD hE hnum hy
      go_enter Tryz.func108, Tryz.ntmps108
      go_wp2_with fail
      refine (rnumber_good _ r n _ _ x ts ts2 HE.out.hnum (H.out.frame (((Mod.refl [] w).alloc _).alloc _) (by simp)) hn).mono ?_
      rintro e w2 ⟨rfl, hrt2, hm2⟩
      have hR := hm2.blk ((Blk.new w 69 zeroStep).alloc (.cells zeroStep 69)) (by simp; omega)
      have hB := hm2.blk (Blk.newAt (w.alloc (.cells zeroStep 69)) 69 zeroStep (n := w.heap.size + 1) (by simp)) (by simp; omega)
      have hBc := hB.cell
      have hBf := hB.frozen
      unfold zeroStep at hBc
      have hBl := hB.lt
      have H2 := Lib.hid (And.intro hR (And.intro hB (And.intro hrt2 hm2)))
      clear hR hB hrt2 hm2
      go_wp2
      clear hBc hBf
      generalize hW0 : (w2.setCell ⟨w.heap.size + 1, 1, none⟩ (.int .i64 x)).setCell ⟨w.heap.size + 1, 0, none⟩ (.int .i64 6) = W0
      have H30 := Lib.hid (show Blk W0 w.heap.size 69 zeroStep ∧ Blk W0 (w.heap.size + 1) 69 #[.int .i64 6, .int .i64 x, .int .i64 0, .int .i64 0, .int .i64 0, .slice none 0 0, .bool false, .string ⟨#[]⟩, .string ⟨#[]⟩, .int .i64 0, .int .i64 0, .slice none 0 0] ∧ RdT W0 r n ts2 ∧ Mod [r] w W0 ∧ W0.heap.size = w2.heap.size from by
        obtain ⟨hR, hB, hrt2, hm2⟩ := H2.out
        have hmW : Mod [w.heap.size + 1] w2 W0 := by rw [← hW0]; exact ((Mod.refl _ _).setCell (by simp) _).setCell (by simp) _
        exact ⟨hmW.blk hR (by simp), by rw [← hW0]; exact (hB.set_ 1 _).set_ 0 _, hrt2.frame hmW (by simp; omega), (((((Mod.refl [r] w).alloc _).alloc _).trans hm2).then hmW (by simp)), by rw [← hW0]; simp⟩)
      clear hW0 H2
      have i0 : ∀ w2, (Instr.index 262 (.agg #[.pointer (some ⟨w.heap.size + 1, 2, none⟩), .pointer (some ⟨w.heap.size + 1, 3, none⟩)]) (.int .i64 0)).run Tryz.prog w2 = .ok (.pointer (some ⟨w.heap.size + 1, 2, none⟩)) w2 := fun _ => by kernel_rfl
      have i1 : ∀ w2, (Instr.index 262 (.agg #[.pointer (some ⟨w.heap.size + 1, 2, none⟩), .pointer (some ⟨w.heap.size + 1, 3, none⟩)]) (.int .i64 1)).run Tryz.prog w2 = .ok (.pointer (some ⟨w.heap.size + 1, 3, none⟩)) w2 := fun _ => by kernel_rfl
      refine wp_loop_rounds 3 ?_
      rw [rounds_succ]
      go_wp2_with fail
      refine (rnumber_bad W0 r n _ _ ts2 f HE.out.hy H30.out.2.2.1 hn).mono ?_
      rintro e w4 ⟨v, rfl, ⟨fb, rfl, hfb, hfk⟩, hm4⟩
      have hR4 := hm4.blk H30.out.1 (by simp; omega)
      have hB4 := hm4.blk H30.out.2.1 (by simp; omega)
      have hBc := hB4.cell
      have hBf := hB4.frozen
      have hBl4 := hB4.lt
      have hRc := hR4.cell
      have hRf := hR4.frozen
      unfold zeroStep at hRc
      have H5 := Lib.hid (And.intro hR4 (And.intro hfb (And.intro hfk hm4)))
      clear hR4 hB4 hfb hfk hm4
      go_wp2
      obtain ⟨hR4, hfb, hfk, hm4⟩ := H5.out
      have hsz3 := H30.out.2.2.2.1.size
      refine ret_cell_tmp Tryz.results108 rfl ((hR4.far (p := ⟨w.heap.size + 1, 2, none⟩) (by simp) _).set12 _ _ _ _ _ _ _ _ _ _ _ _) Tryz.underlying69 rfl (by kernel_rfl) rfl ?_
      refine step_bad HE.out.hE ⟨_, _, rfl, by simp [Value.oneCell'], rfl, ⟨fb, rfl, by omega, ?_⟩, ?_⟩
      · exact (((Mod.refl [w.heap.size, w.heap.size + 1] w4).setCell (by simp) _).set12 (.inl (by simp)) _ _ _ _ _ _ _ _ _ _ _ _).blk hfk (by have := H30.out.2.1.lt; simp; omega)
      · exact ((H30.out.2.2.2.1.trans hm4).setCell (.inr (by simp)) _).set12 (.inr (Nat.le_refl _)) _ _ _ _ _ _ _ _ _ _ _ _
    · rw [hy] at hE
      simp only [] at hE
      rcases hz : numAny n ts3 with f | ⟨z, ts4⟩
      · rw [hz] at hE
        have HE := Lib.hid (Fail3E.mk hE hnum hy hz)
        clear h hD hE hnum hy hz
        go_enter Tryz.func108, Tryz.ntmps108
        go_wp2_with fail
        refine (rnumber_good _ r n _ _ x ts ts2 HE.out.hnum (H.out.frame (((Mod.refl [] w).alloc _).alloc _) (by simp)) hn).mono ?_
        rintro e w2 ⟨rfl, hrt2, hm2⟩
        have hR := hm2.blk ((Blk.new w 69 zeroStep).alloc (.cells zeroStep 69)) (by simp; omega)
        have hB := hm2.blk (Blk.newAt (w.alloc (.cells zeroStep 69)) 69 zeroStep (n := w.heap.size + 1) (by simp)) (by simp; omega)
        have hBc := hB.cell
        have hBf := hB.frozen
        unfold zeroStep at hBc
        have hBl := hB.lt
        have H2 := Lib.hid (And.intro hR (And.intro hB (And.intro hrt2 hm2)))
        clear hR hB hrt2 hm2
        go_wp2
        clear hBc hBf
        generalize hW0 : (w2.setCell ⟨w.heap.size + 1, 1, none⟩ (.int .i64 x)).setCell ⟨w.heap.size + 1, 0, none⟩ (.int .i64 6) = W0
        have H30 := Lib.hid (show Blk W0 w.heap.size 69 zeroStep ∧ Blk W0 (w.heap.size + 1) 69 #[.int .i64 6, .int .i64 x, .int .i64 0, .int .i64 0, .int .i64 0, .slice none 0 0, .bool false, .string ⟨#[]⟩, .string ⟨#[]⟩, .int .i64 0, .int .i64 0, .slice none 0 0] ∧ RdT W0 r n ts2 ∧ Mod [r] w W0 ∧ W0.heap.size = w2.heap.size from by
          obtain ⟨hR, hB, hrt2, hm2⟩ := H2.out
          have hmW : Mod [w.heap.size + 1] w2 W0 := by rw [← hW0]; exact ((Mod.refl _ _).setCell (by simp) _).setCell (by simp) _
          exact ⟨hmW.blk hR (by simp), by rw [← hW0]; exact (hB.set_ 1 _).set_ 0 _, hrt2.frame hmW (by simp; omega), (((((Mod.refl [r] w).alloc _).alloc _).trans hm2).then hmW (by simp)), by rw [← hW0]; simp⟩)
        clear hW0 H2
        have i0 : ∀ w2, (Instr.index 262 (.agg #[.pointer (some ⟨w.heap.size + 1, 2, none⟩), .pointer (some ⟨w.heap.size + 1, 3, none⟩)]) (.int .i64 0)).run Tryz.prog w2 = .ok (.pointer (some ⟨w.heap.size + 1, 2, none⟩)) w2 := fun _ => by kernel_rfl
        have i1 : ∀ w2, (Instr.index 262 (.agg #[.pointer (some ⟨w.heap.size + 1, 2, none⟩), .pointer (some ⟨w.heap.size + 1, 3, none⟩)]) (.int .i64 1)).run Tryz.prog w2 = .ok (.pointer (some ⟨w.heap.size + 1, 3, none⟩)) w2 := fun _ => by kernel_rfl
        refine wp_loop_rounds 3 ?_
        rw [rounds_succ]
        go_wp2_with fail
        refine (rnumber_good W0 r n _ _ y ts2 ts3 HE.out.hy H30.out.2.2.1 hn).mono ?_
        rintro e w4 ⟨rfl, hrt4, hm4⟩
        have hR4 := hm4.blk H30.out.1 (by simp; omega)
        have hB4 := hm4.blk H30.out.2.1 (by simp; omega)
        have hBc := hB4.cell
        have hBf := hB4.frozen
        have hBl4 := hB4.lt
        have H5 := Lib.hid (And.intro hR4 (And.intro hB4 (And.intro hrt4 (And.intro (H30.out.2.2.2.1.trans hm4) hm4))))
        clear hR4 hB4 hrt4 hm4
        go_wp2
        rw [rounds_succ]
        go_wp2_with fail
        clear hBc hBf
        generalize hV : w4.setCell ⟨w.heap.size + 1, 2, none⟩ (.int .i64 y) = W1
        have H31 := Lib.hid (show Blk W1 w.heap.size 69 zeroStep ∧ Blk W1 (w.heap.size + 1) 69 #[.int .i64 6, .int .i64 x, .int .i64 y, .int .i64 0, .int .i64 0, .slice none 0 0, .bool false, .string ⟨#[]⟩, .string ⟨#[]⟩, .int .i64 0, .int .i64 0, .slice none 0 0] ∧ RdT W1 r n ts3 ∧ Mod [r] w W1 ∧ True from by
          obtain ⟨hR4, hB4, hrt4, hm4, hm5⟩ := H5.out
          have hmW : Mod [w.heap.size + 1] w4 W1 := by rw [← hV]; exact (Mod.refl _ _).setCell (by simp) _
          exact ⟨hmW.blk hR4 (by simp), by rw [← hV]; exact hB4.set_ 2 _, hrt4.frame hmW (by simp; omega), hm4.then hmW (by simp), trivial⟩)
        clear hV H5
        refine (rnumber_bad W1 r n _ _ ts3 f HE.out.hz H31.out.2.2.1 hn).mono ?_
        rintro e w4 ⟨v, rfl, ⟨fb, rfl, hfb, hfk⟩, hm4⟩
        have hR4 := hm4.blk H31.out.1 (by simp; omega)
        have hB4 := hm4.blk H31.out.2.1 (by simp; omega)
        have hBc := hB4.cell
        have hBf := hB4.frozen
        have hBl4 := hB4.lt
        have hRc := hR4.cell
        have hRf := hR4.frozen
        unfold zeroStep at hRc
        have H5 := Lib.hid (And.intro hR4 (And.intro hfb (And.intro hfk hm4)))
        clear hR4 hB4 hfb hfk hm4
        go_wp2
        obtain ⟨hR4, hfb, hfk, hm4⟩ := H5.out
        have hsz3 := H31.out.2.2.2.1.size
        refine ret_cell_tmp Tryz.results108 rfl ((hR4.far (p := ⟨w.heap.size + 1, 3, none⟩) (by simp) _).set12 _ _ _ _ _ _ _ _ _ _ _ _) Tryz.underlying69 rfl (by kernel_rfl) rfl ?_
        refine step_bad HE.out.hE ⟨_, _, rfl, by simp [Value.oneCell'], rfl, ⟨fb, rfl, by omega, ?_⟩, ?_⟩
        · exact (((Mod.refl [w.heap.size, w.heap.size + 1] w4).setCell (by simp) _).set12 (.inl (by simp)) _ _ _ _ _ _ _ _ _ _ _ _).blk hfk (by have := H31.out.2.1.lt; simp; omega)
        · exact ((H31.out.2.2.2.1.trans hm4).setCell (.inr (by simp)) _).set12 (.inr (Nat.le_refl _)) _ _ _ _ _ _ _ _ _ _ _ _
      · rw [hz] at hE
        simp only [] at hE
        rcases hfin : fin ts4 with f | u
        · unfold withFin at hE
          rw [hfin] at hE
          have HE := Lib.hid (FailE.mk hE hnum hy hz hfin)
          clear h hD hE hnum hy hz hfin
          go_enter Tryz.func108, Tryz.ntmps108
          go_wp2_with fail
          refine (rnumber_good _ r n _ _ x ts ts2 HE.out.hnum (H.out.frame (((Mod.refl [] w).alloc _).alloc _) (by simp)) hn).mono ?_
          rintro e w2 ⟨rfl, hrt2, hm2⟩
          have hR := hm2.blk ((Blk.new w 69 zeroStep).alloc (.cells zeroStep 69)) (by simp; omega)
          have hB := hm2.blk (Blk.newAt (w.alloc (.cells zeroStep 69)) 69 zeroStep (n := w.heap.size + 1) (by simp)) (by simp; omega)
          have hBc := hB.cell
          have hBf := hB.frozen
          unfold zeroStep at hBc
          have hBl := hB.lt
          have H2 := Lib.hid (And.intro hR (And.intro hB (And.intro hrt2 hm2)))
          clear hR hB hrt2 hm2
          go_wp2
          clear hBc hBf
          generalize hW0 : (w2.setCell ⟨w.heap.size + 1, 1, none⟩ (.int .i64 x)).setCell ⟨w.heap.size + 1, 0, none⟩ (.int .i64 6) = W0
          have H30 := Lib.hid (show Blk W0 w.heap.size 69 zeroStep ∧ Blk W0 (w.heap.size + 1) 69 #[.int .i64 6, .int .i64 x, .int .i64 0, .int .i64 0, .int .i64 0, .slice none 0 0, .bool false, .string ⟨#[]⟩, .string ⟨#[]⟩, .int .i64 0, .int .i64 0, .slice none 0 0] ∧ RdT W0 r n ts2 ∧ Mod [r] w W0 ∧ W0.heap.size = w2.heap.size from by
            obtain ⟨hR, hB, hrt2, hm2⟩ := H2.out
            have hmW : Mod [w.heap.size + 1] w2 W0 := by rw [← hW0]; exact ((Mod.refl _ _).setCell (by simp) _).setCell (by simp) _
            exact ⟨hmW.blk hR (by simp), by rw [← hW0]; exact (hB.set_ 1 _).set_ 0 _, hrt2.frame hmW (by simp; omega), (((((Mod.refl [r] w).alloc _).alloc _).trans hm2).then hmW (by simp)), by rw [← hW0]; simp⟩)
          clear hW0 H2
          have i0 : ∀ w2, (Instr.index 262 (.agg #[.pointer (some ⟨w.heap.size + 1, 2, none⟩), .pointer (some ⟨w.heap.size + 1, 3, none⟩)]) (.int .i64 0)).run Tryz.prog w2 = .ok (.pointer (some ⟨w.heap.size + 1, 2, none⟩)) w2 := fun _ => by kernel_rfl
          have i1 : ∀ w2, (Instr.index 262 (.agg #[.pointer (some ⟨w.heap.size + 1, 2, none⟩), .pointer (some ⟨w.heap.size + 1, 3, none⟩)]) (.int .i64 1)).run Tryz.prog w2 = .ok (.pointer (some ⟨w.heap.size + 1, 3, none⟩)) w2 := fun _ => by kernel_rfl
          refine wp_loop_rounds 3 ?_
          rw [rounds_succ]
          go_wp2_with fail
          refine (rnumber_good W0 r n _ _ y ts2 ts3 HE.out.hy H30.out.2.2.1 hn).mono ?_
          rintro e w4 ⟨rfl, hrt4, hm4⟩
          have hR4 := hm4.blk H30.out.1 (by simp; omega)
          have hB4 := hm4.blk H30.out.2.1 (by simp; omega)
          have hBc := hB4.cell
          have hBf := hB4.frozen
          have hBl4 := hB4.lt
          have H5 := Lib.hid (And.intro hR4 (And.intro hB4 (And.intro hrt4 (And.intro (H30.out.2.2.2.1.trans hm4) hm4))))
          clear hR4 hB4 hrt4 hm4
          go_wp2
          rw [rounds_succ]
          go_wp2_with fail
          clear hBc hBf
          generalize hV : w4.setCell ⟨w.heap.size + 1, 2, none⟩ (.int .i64 y) = W1
          have H31 := Lib.hid (show Blk W1 w.heap.size 69 zeroStep ∧ Blk W1 (w.heap.size + 1) 69 #[.int .i64 6, .int .i64 x, .int .i64 y, .int .i64 0, .int .i64 0, .slice none 0 0, .bool false, .string ⟨#[]⟩, .string ⟨#[]⟩, .int .i64 0, .int .i64 0, .slice none 0 0] ∧ RdT W1 r n ts3 ∧ Mod [r] w W1 ∧ True from by
            obtain ⟨hR4, hB4, hrt4, hm4, hm5⟩ := H5.out
            have hmW : Mod [w.heap.size + 1] w4 W1 := by rw [← hV]; exact (Mod.refl _ _).setCell (by simp) _
            exact ⟨hmW.blk hR4 (by simp), by rw [← hV]; exact hB4.set_ 2 _, hrt4.frame hmW (by simp; omega), hm4.then hmW (by simp), trivial⟩)
          clear hV H5
          refine (rnumber_good W1 r n _ _ z ts3 ts4 HE.out.hz H31.out.2.2.1 hn).mono ?_
          rintro e w4 ⟨rfl, hrt4, hm4⟩
          have hR4 := hm4.blk H31.out.1 (by simp; omega)
          have hB4 := hm4.blk H31.out.2.1 (by simp; omega)
          have hBc := hB4.cell
          have hBf := hB4.frozen
          have hBl4 := hB4.lt
          have H5 := Lib.hid (And.intro hR4 (And.intro hB4 (And.intro hrt4 (And.intro (H31.out.2.2.2.1.trans hm4) hm4))))
          clear hR4 hB4 hrt4 hm4
          go_wp2
          rw [rounds_succ]
          go_wp2
          clear hBc hBf
          generalize hV : w4.setCell ⟨w.heap.size + 1, 3, none⟩ (.int .i64 z) = W
          have H3 := Lib.hid (show Blk W w.heap.size 69 zeroStep ∧ Blk W (w.heap.size + 1) 69 #[.int .i64 6, .int .i64 x, .int .i64 y, .int .i64 z, .int .i64 0, .slice none 0 0, .bool false, .string ⟨#[]⟩, .string ⟨#[]⟩, .int .i64 0, .int .i64 0, .slice none 0 0] ∧ RdT W r n ts4 ∧ Mod [r] w W ∧ True from by
            obtain ⟨hR4, hB4, hrt4, hm4, hm5⟩ := H5.out
            have hmW : Mod [w.heap.size + 1] w4 W := by rw [← hV]; exact (Mod.refl _ _).setCell (by simp) _
            exact ⟨hmW.blk hR4 (by simp), by rw [← hV]; exact hB4.set_ 3 _, hrt4.frame hmW (by simp; omega), hm4.then hmW (by simp), trivial⟩)
          clear hV H5
          have hBc := H3.out.2.1.cell
          have hBl3 := H3.out.2.1.lt
          have HC := Lib.hid (rend_bad W.drew r n ts4 f HE.out.hfin H3.out.2.2.1 hn)
          go_region_with (go_at_call 105; refine HC.out.mono ?_; rintro e w4 ⟨v, rfl, ⟨fb, rfl, hfb, hfk⟩, hm4⟩; have hR4 := (hm4.blk (H3.out.1.drew) (by simp; omega)); have hB4 := (hm4.blk (H3.out.2.1.drew) (by simp; omega)); have hRc := hR4.cell; have hRf := hR4.frozen; have hBc4 := hB4.cell; unfold zeroStep at hRc; have H5 := Lib.hid (And.intro hR4 (And.intro hB4 (And.intro hfb (And.intro hfk hm4)))); clear hR4 hB4 hfb hfk hm4)
          all_goals
            go_wp2
            obtain ⟨hR4, hB4, hfb, hfk, hm4⟩ := H5.out
            simp at hfb
            have hsz3 := H3.out.2.2.2.1.size
            refine ret_cell_tmp Tryz.results108 rfl (hR4.set12 _ _ _ _ _ _ _ _ _ _ _ _) Tryz.underlying69 rfl (by kernel_rfl) rfl ?_
            refine step_bad HE.out.hE ⟨_, _, rfl, by simp [Value.oneCell'], rfl, ⟨fb, rfl, by omega, ?_⟩, ?_⟩
            · exact ((Mod.refl [w.heap.size] w4).set12 (.inl (by simp)) _ _ _ _ _ _ _ _ _ _ _ _).blk hfk (by simp; omega)
            · exact ((H3.out.2.2.2.1.drew).trans hm4).set12 (.inr (Nat.le_refl _)) _ _ _ _ _ _ _ _ _ _ _ _
        · unfold withFin at hE
          rw [hfin] at hE
          have HE := Lib.hid (FailE.mk hE hnum hy hz hfin)
          clear h hD hE hnum hy hz hfin
          go_enter Tryz.func108, Tryz.ntmps108
          go_wp2_with fail
          refine (rnumber_good _ r n _ _ x ts ts2 HE.out.hnum (H.out.frame (((Mod.refl [] w).alloc _).alloc _) (by simp)) hn).mono ?_
          rintro e w2 ⟨rfl, hrt2, hm2⟩
          have hR := hm2.blk ((Blk.new w 69 zeroStep).alloc (.cells zeroStep 69)) (by simp; omega)
          have hB := hm2.blk (Blk.newAt (w.alloc (.cells zeroStep 69)) 69 zeroStep (n := w.heap.size + 1) (by simp)) (by simp; omega)
          have hBc := hB.cell
          have hBf := hB.frozen
          unfold zeroStep at hBc
          have hBl := hB.lt
          have H2 := Lib.hid (And.intro hR (And.intro hB (And.intro hrt2 hm2)))
          clear hR hB hrt2 hm2
          go_wp2
          clear hBc hBf
          generalize hW0 : (w2.setCell ⟨w.heap.size + 1, 1, none⟩ (.int .i64 x)).setCell ⟨w.heap.size + 1, 0, none⟩ (.int .i64 6) = W0
          have H30 := Lib.hid (show Blk W0 w.heap.size 69 zeroStep ∧ Blk W0 (w.heap.size + 1) 69 #[.int .i64 6, .int .i64 x, .int .i64 0, .int .i64 0, .int .i64 0, .slice none 0 0, .bool false, .string ⟨#[]⟩, .string ⟨#[]⟩, .int .i64 0, .int .i64 0, .slice none 0 0] ∧ RdT W0 r n ts2 ∧ Mod [r] w W0 ∧ W0.heap.size = w2.heap.size from by
            obtain ⟨hR, hB, hrt2, hm2⟩ := H2.out
            have hmW : Mod [w.heap.size + 1] w2 W0 := by rw [← hW0]; exact ((Mod.refl _ _).setCell (by simp) _).setCell (by simp) _
            exact ⟨hmW.blk hR (by simp), by rw [← hW0]; exact (hB.set_ 1 _).set_ 0 _, hrt2.frame hmW (by simp; omega), (((((Mod.refl [r] w).alloc _).alloc _).trans hm2).then hmW (by simp)), by rw [← hW0]; simp⟩)
          clear hW0 H2
          have i0 : ∀ w2, (Instr.index 262 (.agg #[.pointer (some ⟨w.heap.size + 1, 2, none⟩), .pointer (some ⟨w.heap.size + 1, 3, none⟩)]) (.int .i64 0)).run Tryz.prog w2 = .ok (.pointer (some ⟨w.heap.size + 1, 2, none⟩)) w2 := fun _ => by kernel_rfl
          have i1 : ∀ w2, (Instr.index 262 (.agg #[.pointer (some ⟨w.heap.size + 1, 2, none⟩), .pointer (some ⟨w.heap.size + 1, 3, none⟩)]) (.int .i64 1)).run Tryz.prog w2 = .ok (.pointer (some ⟨w.heap.size + 1, 3, none⟩)) w2 := fun _ => by kernel_rfl
          refine wp_loop_rounds 3 ?_
          rw [rounds_succ]
          go_wp2_with fail
          refine (rnumber_good W0 r n _ _ y ts2 ts3 HE.out.hy H30.out.2.2.1 hn).mono ?_
          rintro e w4 ⟨rfl, hrt4, hm4⟩
          have hR4 := hm4.blk H30.out.1 (by simp; omega)
          have hB4 := hm4.blk H30.out.2.1 (by simp; omega)
          have hBc := hB4.cell
          have hBf := hB4.frozen
          have hBl4 := hB4.lt
          have H5 := Lib.hid (And.intro hR4 (And.intro hB4 (And.intro hrt4 (And.intro (H30.out.2.2.2.1.trans hm4) hm4))))
          clear hR4 hB4 hrt4 hm4
          go_wp2
          rw [rounds_succ]
          go_wp2_with fail
          clear hBc hBf
          generalize hV : w4.setCell ⟨w.heap.size + 1, 2, none⟩ (.int .i64 y) = W1
          have H31 := Lib.hid (show Blk W1 w.heap.size 69 zeroStep ∧ Blk W1 (w.heap.size + 1) 69 #[.int .i64 6, .int .i64 x, .int .i64 y, .int .i64 0, .int .i64 0, .slice none 0 0, .bool false, .string ⟨#[]⟩, .string ⟨#[]⟩, .int .i64 0, .int .i64 0, .slice none 0 0] ∧ RdT W1 r n ts3 ∧ Mod [r] w W1 ∧ True from by
            obtain ⟨hR4, hB4, hrt4, hm4, hm5⟩ := H5.out
            have hmW : Mod [w.heap.size + 1] w4 W1 := by rw [← hV]; exact (Mod.refl _ _).setCell (by simp) _
            exact ⟨hmW.blk hR4 (by simp), by rw [← hV]; exact hB4.set_ 2 _, hrt4.frame hmW (by simp; omega), hm4.then hmW (by simp), trivial⟩)
          clear hV H5
          refine (rnumber_good W1 r n _ _ z ts3 ts4 HE.out.hz H31.out.2.2.1 hn).mono ?_
          rintro e w4 ⟨rfl, hrt4, hm4⟩
          have hR4 := hm4.blk H31.out.1 (by simp; omega)
          have hB4 := hm4.blk H31.out.2.1 (by simp; omega)
          have hBc := hB4.cell
          have hBf := hB4.frozen
          have hBl4 := hB4.lt
          have H5 := Lib.hid (And.intro hR4 (And.intro hB4 (And.intro hrt4 (And.intro (H31.out.2.2.2.1.trans hm4) hm4))))
          clear hR4 hB4 hrt4 hm4
          go_wp2
          rw [rounds_succ]
          go_wp2
          clear hBc hBf
          generalize hV : w4.setCell ⟨w.heap.size + 1, 3, none⟩ (.int .i64 z) = W
          have H3 := Lib.hid (show Blk W w.heap.size 69 zeroStep ∧ Blk W (w.heap.size + 1) 69 #[.int .i64 6, .int .i64 x, .int .i64 y, .int .i64 z, .int .i64 0, .slice none 0 0, .bool false, .string ⟨#[]⟩, .string ⟨#[]⟩, .int .i64 0, .int .i64 0, .slice none 0 0] ∧ RdT W r n ts4 ∧ Mod [r] w W ∧ True from by
            obtain ⟨hR4, hB4, hrt4, hm4, hm5⟩ := H5.out
            have hmW : Mod [w.heap.size + 1] w4 W := by rw [← hV]; exact (Mod.refl _ _).setCell (by simp) _
            exact ⟨hmW.blk hR4 (by simp), by rw [← hV]; exact hB4.set_ 3 _, hrt4.frame hmW (by simp; omega), hm4.then hmW (by simp), trivial⟩)
          clear hV H5
          have hBc := H3.out.2.1.cell
          have hBl3 := H3.out.2.1.lt
          have HC := Lib.hid (rend_good W.drew r n ts4 HE.out.hfin H3.out.2.2.1 hn)
          go_region_with (go_at_call 105; refine HC.out.mono ?_; rintro e w4 ⟨rfl, hm4⟩; have hR4 := (hm4.blk (H3.out.1.drew) (by simp; omega)); have hB4 := (hm4.blk (H3.out.2.1.drew) (by simp; omega)); have hRc := hR4.cell; have hRf := hR4.frozen; have hBc4 := hB4.cell; unfold zeroStep at hRc; have H5 := Lib.hid (And.intro hR4 (And.intro hB4 hm4)); clear hR4 hB4 hm4)
          all_goals
            go_wp2
            obtain ⟨hR4, hB4, hm4⟩ := H5.out
            refine ret_cell_tmp Tryz.results108 rfl (hR4.set12 _ _ _ _ _ _ _ _ _ _ _ _) Tryz.underlying69 rfl (by kernel_rfl) rfl ?_
            refine step_good HE.out.hE ⟨_, _, rfl, ?_, ?_, ?_⟩
            · exact no_writes _ _
            · exact no_ints _ _
            · exact ((H3.out.2.2.2.1.drew).trans hm4).set12 (.inr (Nat.le_refl _)) _ _ _ _ _ _ _ _ _ _ _ _

set_option maxRecDepth 100000 in
set_option maxHeartbeats 4000000 in
theorem step_tick (h : RdT w r n ts) (hn : n ≤ 1099511627776) (hD : D.data.toList = wTick) :
    Calls Tryz.prog 108 #[.pointer (some ⟨r, 0, none⟩), .string D] w (StepPost w r n wTick ts) := by
  have hx : ∀ l, (D.toList == l) = ([116, 105, 99, 107] == l) := beq_name hD
  have hrl := h.lt
  have H := Lib.hid h
  have hE : stepP n wTick ts = withFin { StepS.zero with kind := 3 } ts := rfl
  unfold withFin at hE
  rcases hfin : fin ts with f | u
  · rw [hfin] at hE
    have HE := Lib.hid (And.intro hE hfin)
    clear h hD hE hfin
    go_enter Tryz.func108, Tryz.ntmps108
    go_wp2_with fail
    refine (rend_bad _ r n ts f HE.out.2 (H.out.frame (((Mod.refl [] w).alloc _).alloc _) (by simp)) hn).mono ?_
    rintro e w2 ⟨v, rfl, ⟨fb, rfl, hfb, hfk⟩, hm2⟩
    have hR := hm2.blk ((Blk.new w 69 zeroStep).alloc (.cells zeroStep 69)) (by simp; omega)
    have hRl := hR.lt
    have hRc := hR.cell
    have hRf := hR.frozen
    unfold zeroStep at hRc
    have H2 := Lib.hid (And.intro hR (And.intro hfb (And.intro hfk hm2)))
    clear hR hfb hfk hm2
    go_wp2
    obtain ⟨hR, hfb, hfk, hm2⟩ := H2.out
    simp at hfb
    refine ret_cell_tmp Tryz.results108 rfl (hR.set12 _ _ _ _ _ _ _ _ _ _ _ _) Tryz.underlying69 rfl (by kernel_rfl) rfl ?_
    refine step_bad HE.out.1 ⟨_, _, rfl, by simp [Value.oneCell'], rfl, ⟨fb, rfl, by omega, ?_⟩, ?_⟩
    · exact ((Mod.refl [w.heap.size] w2).set12 (.inl (by simp)) _ _ _ _ _ _ _ _ _ _ _ _).blk hfk (by simp; omega)
    · exact ((((Mod.refl [r] w).alloc _).alloc _).trans hm2).set12 (.inr (Nat.le_refl _)) _ _ _ _ _ _ _ _ _ _ _ _
  · rw [hfin] at hE
    have HE := Lib.hid (And.intro hE hfin)
    clear h hD hE hfin
    go_enter Tryz.func108, Tryz.ntmps108
    go_wp2_with fail
    refine (rend_good _ r n ts HE.out.2 (H.out.frame (((Mod.refl [] w).alloc _).alloc _) (by simp)) hn).mono ?_
    rintro e w2 ⟨rfl, hm2⟩
    have hR := hm2.blk ((Blk.new w 69 zeroStep).alloc (.cells zeroStep 69)) (by simp; omega)
    have hRl := hR.lt
    have hRc := hR.cell
    have hRf := hR.frozen
    unfold zeroStep at hRc
    have H2 := Lib.hid (And.intro hR hm2)
    clear hR hm2
    go_wp2
    obtain ⟨hR, hm2⟩ := H2.out
    refine ret_cell_tmp Tryz.results108 rfl (hR.set12 _ _ _ _ _ _ _ _ _ _ _ _) Tryz.underlying69 rfl (by kernel_rfl) rfl ?_
    exact step_good HE.out.1 ⟨_, _, rfl, no_writes _ _, no_ints _ _, ((((Mod.refl [r] w).alloc _).alloc _).trans hm2).set12 (.inr (Nat.le_refl _)) _ _ _ _ _ _ _ _ _ _ _ _⟩

theorem step_walk (nm : Bs) (h : RdT w r n ts) (hn : n ≤ 1099511627776) (hD : D.data.toList = nm) :
    Calls Tryz.prog 108 #[.pointer (some ⟨r, 0, none⟩), .string D] w (StepPost w r n nm ts) := by
  by_cases h1 : nm = wTick
  · subst h1; exact step_tick w r n ts D h hn hD
  by_cases h2 : nm = wDo
  · subst h2; exact step_do w r n ts D h hn hD
  by_cases h3 : nm = wArm
  · subst h3; exact step_arm w r n ts D h hn hD
  by_cases h4 : nm = wFall
  · subst h4; exact step_fall w r n ts D h hn hD
  by_cases h5 : nm = wFail
  · subst h5; exact step_fail w r n ts D h hn hD
  exact step_op w r n ts D nm h hn hD h1 h2 h3 h4 h5
end
end Go.Proofs.YtjieelmbgfnllaaGreatDoor

/- What step hands back: a step behind its first word. Conditions: a line of at most 2^40 bytes. -/
import Derived.Test.YtjieelmbgfnllaaGreatDoorScOper2
import Derived.Laws.Tables
namespace Go.Proofs.YtjieelmbgfnllaaGreatDoor
open Go.RowKit Scr

/-- The cells of a step. -/
def stepCells (s : StepS) (wv kv : Value) : Array Value := opCells (.int .i64 s.kind) (.int .i64 s.a) (.int .i64 s.b) (.int .i64 s.c) s.op wv kv

def StepPost (w : World) (r n : Nat) (nm : Bs) (ts : List Tok) (e : Ending) (w' : World) : Prop :=
  match stepP n nm ts with
  | .error f => ∃ cs v, cs.size = 12 ∧ cs.all (·.oneCell') = true ∧ e = .returned (.tuple #[.agg cs, v]) ∧ FaultIs w w' f v ∧ Mod [r] w w'
  | .ok s => ∃ wv kv, e = .returned (.tuple #[.agg (stepCells s wv kv), .nilIface]) ∧ WritesAt w' w.heap.size wv s.op.writes ∧ IntsAt w' w.heap.size kv s.keep ∧ Mod [r] w w'
theorem step_bad {w w' : World} {r n : Nat} {nm : Bs} {ts : List Tok} {f : Flt} {e : Ending} (h : stepP n nm ts = .error f)
    (h2 : ∃ cs v, cs.size = 12 ∧ cs.all (·.oneCell') = true ∧ e = .returned (.tuple #[.agg cs, v]) ∧ FaultIs w w' f v ∧ Mod [r] w w') : StepPost w r n nm ts e w' := by
  unfold StepPost; rw [h]; exact h2
theorem step_good {w w' : World} {r n : Nat} {nm : Bs} {ts : List Tok} {s : StepS} {e : Ending} (h : stepP n nm ts = .ok s)
    (h2 : ∃ wv kv, e = .returned (.tuple #[.agg (stepCells s wv kv), .nilIface]) ∧ WritesAt w' w.heap.size wv s.op.writes ∧ IntsAt w' w.heap.size kv s.keep ∧ Mod [r] w w') : StepPost w r n nm ts e w' := by
  unfold StepPost; rw [h]; exact h2

theorem rend_bad (w : World) (r n : Nat) (ts : List Tok) (f : Flt) (hf : fin ts = .error f) (h : RdT w r n ts) (hn : n ≤ 1099511627776) :
    Calls Tryz.prog 105 #[.pointer (some ⟨r, 0, none⟩)] w fun e w' => ∃ v, e = .returned v ∧ FaultIs w w' f v ∧ Mod [r] w w' := by
  have := rend_walk w r n ts h hn
  unfold FinPost at this; rw [hf] at this; exact this
theorem rend_good (w : World) (r n : Nat) (ts : List Tok) (hf : fin ts = .ok ()) (h : RdT w r n ts) (hn : n ≤ 1099511627776) :
    Calls Tryz.prog 105 #[.pointer (some ⟨r, 0, none⟩)] w fun e w' => e = .returned .nilIface ∧ Mod [r] w w' := by
  have := rend_walk w r n ts h hn
  unfold FinPost at this; rw [hf] at this; exact this

def zeroStep : Array Value := #[.int .i64 0, .int .i64 0, .int .i64 0, .int .i64 0, .int .i64 0, .slice none 0 0, .bool false, .string ⟨#[]⟩, .string ⟨#[]⟩, .int .i64 0, .int .i64 0, .slice none 0 0]

theorem Blk.set12 {w : World} {g : Nat} {t : TypeId} (h : Blk w g t zeroStep) (c0 c1 c2 c3 c4 c5 c6 c7 c8 c9 c10 c11 : Value) :
    Blk ((((((((((((w.setCell ⟨g, 0, none⟩ c0).setCell ⟨g, 1, none⟩ c1).setCell ⟨g, 2, none⟩ c2).setCell ⟨g, 3, none⟩ c3).setCell ⟨g, 4, none⟩ c4).setCell ⟨g, 5, none⟩ c5).setCell ⟨g, 6, none⟩ c6).setCell ⟨g, 7, none⟩ c7).setCell ⟨g, 8, none⟩ c8).setCell ⟨g, 9, none⟩ c9).setCell ⟨g, 10, none⟩ c10).setCell ⟨g, 11, none⟩ c11) g t #[c0, c1, c2, c3, c4, c5, c6, c7, c8, c9, c10, c11] := by
  have h2 := (((((((((((h.set_ 0 c0).set_ 1 c1).set_ 2 c2).set_ 3 c3).set_ 4 c4).set_ 5 c5).set_ 6 c6).set_ 7 c7).set_ 8 c8).set_ 9 c9).set_ 10 c10).set_ 11 c11
  have e : (((((((((((zeroStep.setIfInBounds 0 c0).setIfInBounds 1 c1).setIfInBounds 2 c2).setIfInBounds 3 c3).setIfInBounds 4 c4).setIfInBounds 5 c5).setIfInBounds 6 c6).setIfInBounds 7 c7).setIfInBounds 8 c8).setIfInBounds 9 c9).setIfInBounds 10 c10).setIfInBounds 11 c11 = #[c0, c1, c2, c3, c4, c5, c6, c7, c8, c9, c10, c11] := by simp [zeroStep]
  rw [e] at h2
  exact h2
theorem Mod.set12 {S : List Nat} {a w : World} {g : Nat} (h : Mod S a w) (hg : g ∈ S ∨ a.heap.size ≤ g) (c0 c1 c2 c3 c4 c5 c6 c7 c8 c9 c10 c11 : Value) :
    Mod S a ((((((((((((w.setCell ⟨g, 0, none⟩ c0).setCell ⟨g, 1, none⟩ c1).setCell ⟨g, 2, none⟩ c2).setCell ⟨g, 3, none⟩ c3).setCell ⟨g, 4, none⟩ c4).setCell ⟨g, 5, none⟩ c5).setCell ⟨g, 6, none⟩ c6).setCell ⟨g, 7, none⟩ c7).setCell ⟨g, 8, none⟩ c8).setCell ⟨g, 9, none⟩ c9).setCell ⟨g, 10, none⟩ c10).setCell ⟨g, 11, none⟩ c11) :=
  ((((((((((((h.setCell hg _).setCell hg _).setCell hg _).setCell hg _).setCell hg _).setCell hg _).setCell hg _).setCell hg _).setCell hg _).setCell hg _).setCell hg _).setCell hg _)
theorem Blk.setRow {w : World} {g : Nat} {t : TypeId} {cs cs' : Array Value} (h : Blk w g t cs) : Blk (w.setRow g cs') g t cs' := by
  unfold Blk at h ⊢
  simp [World.setRow, Array.getElem?_modify, h]
theorem Mod.setRow {S : List Nat} {a w : World} {g : Nat} (h : Mod S a w) (hg : g ∈ S ∨ a.heap.size ≤ g) (cs : Array Value) : Mod S a (w.setRow g cs) :=
  ⟨h.os, h.tape, h.output, by simpa using h.size, fun i hi hn => by
    rw [← h.block i hi hn]
    simp only [World.setRow, Array.getElem?_modify]
    rw [if_neg]
    rintro rfl
    rcases hg with hg | hg
    · exact hn hg
    · omega⟩
theorem size_step (cs : Array Value) (h : cs.size = 12) : (Tryz.prog.info? 69).map (·.size) = some cs.size := by rw [h]; kernel_rfl


structure EndE (n : Nat) (nm : Bs) (ts ts2 : List Tok) (x : Int) (R : Res StepS) (Q : Res Unit) : Prop where
  hE : stepP n nm ts = R
  hnum : numAny n ts = .ok (x, ts2)
  hfin : fin ts2 = Q
structure FailE (n : Nat) (nm : Bs) (ts ts2 ts3 ts4 : List Tok) (x y z : Int) (R : Res StepS) (Q : Res Unit) : Prop where
  hE : stepP n nm ts = R
  hnum : numAny n ts = .ok (x, ts2)
  hy : numAny n ts2 = .ok (y, ts3)
  hz : numAny n ts3 = .ok (z, ts4)
  hfin : fin ts4 = Q
structure OpE (n : Nat) (nm : Bs) (ts ts2 ts3 : List Tok) (x : Int) (o : OpS) (R : Res StepS) (Q : Res Unit) : Prop where
  hE : stepP n nm ts = R
  hnum : numAny n ts = .ok (x, ts2)
  ho : opP n nm ts2 = .ok (o, ts3)
  hfin : fin ts3 = Q
theorem no_ints (w : World) (lo : Nat) : IntsAt w lo (.slice none 0 0) [] := ⟨rfl, .inl ⟨rfl, rfl⟩⟩

section
variable (w : World) (r n : Nat) (ts : List Tok) (D : ByteArray)
set_option maxRecDepth 100000 in
set_option maxHeartbeats 4000000 in
theorem step_first_bad (nm : Bs) (f : Flt) (h : RdT w r n ts) (hn : n ≤ 1099511627776) (hx : (D.toList == [116, 105, 99, 107]) = false) (hE : stepP n nm ts = .error f) (hnum : numAny n ts = .error f) :
    Calls Tryz.prog 108 #[.pointer (some ⟨r, 0, none⟩), .string D] w (StepPost w r n nm ts) := by
  have hrl := h.lt
  have H := Lib.hid h
  have HE := Lib.hid (And.intro hE hnum)
  clear h hE hnum
  go_enter Tryz.func108, Tryz.ntmps108
  go_wp2_with fail
  refine (rnumber_bad _ r n _ _ ts f HE.out.2 (H.out.frame (((Mod.refl [] w).alloc _).alloc _) (by simp)) hn).mono ?_
  rintro e w2 ⟨v, rfl, ⟨fb, rfl, hfb, hfk⟩, hm2⟩
  have hR := hm2.blk ((Blk.new w 69 zeroStep).alloc (.cells zeroStep 69)) (by simp; omega)
  have hB := hm2.blk (Blk.newAt (w.alloc (.cells zeroStep 69)) 69 zeroStep (n := w.heap.size + 1) (by simp)) (by simp; omega)
  have hBl := hB.lt
  have hRc := hR.cell
  have hRf := hR.frozen
  have hBc := hB.cell
  have hBf := hB.frozen
  unfold zeroStep at hRc hBc
  have H2 := Lib.hid (And.intro hR (And.intro hfb (And.intro hfk hm2)))
  clear hR hB hfb hfk hm2
  go_wp2
  obtain ⟨hR, hfb, hfk, hm2⟩ := H2.out
  simp at hfb
  refine ret_cell_tmp Tryz.results108 rfl ((hR.far (p := ⟨w.heap.size + 1, 1, none⟩) (by simp) _).set12 _ _ _ _ _ _ _ _ _ _ _ _) Tryz.underlying69 rfl (by kernel_rfl) rfl ?_
  refine step_bad HE.out.1 ⟨_, _, rfl, by simp [Value.oneCell'], rfl, ⟨fb, rfl, by omega, ?_⟩, ?_⟩
  · exact ((Mod.refl [w.heap.size, w.heap.size + 1] w2).setCell (by simp) _ |>.set12 (.inl (by simp)) _ _ _ _ _ _ _ _ _ _ _ _).blk hfk (by simp; omega)
  · exact (((((Mod.refl [r] w).alloc _).alloc _).trans hm2).setCell (.inr (by simp)) _).set12 (.inr (Nat.le_refl _)) _ _ _ _ _ _ _ _ _ _ _ _

set_option maxRecDepth 100000 in
set_option maxHeartbeats 4000000 in
theorem step_do (h : RdT w r n ts) (hn : n ≤ 1099511627776) (hD : D.data.toList = wDo) :
    Calls Tryz.prog 108 #[.pointer (some ⟨r, 0, none⟩), .string D] w (StepPost w r n wDo ts) := by
  have hx : ∀ l, (D.toList == l) = ([100, 111] == l) := beq_name hD
  have hrl := h.lt
  have H := Lib.hid h
  have hE : stepP n wDo ts = match numAny n ts with
    | .error e => .error e
    | .ok a => withFin { StepS.zero with kind := 2, a := a.1 } a.2 := rfl
  rcases hnum : numAny n ts with f | ⟨x, ts2⟩
  · rw [hnum] at hE
    exact step_first_bad w r n ts D _ f h hn (by rw [Lib.toList_data, hD]; rfl) hE hnum
  · rw [hnum] at hE
    simp only [] at hE
    rcases hfin : fin ts2 with f | u
    · unfold withFin at hE
      rw [hfin] at hE
      have HE := Lib.hid (EndE.mk hE hnum hfin)
      clear h hD hE hnum hfin
      go_enter Tryz.func108, Tryz.ntmps108
      go_wp2_with fail
      refine (rnumber_good _ r n _ _ x ts ts2 HE.out.hnum (H.out.frame (((Mod.refl [] w).alloc _).alloc _) (by simp)) hn).mono ?_
      rintro e w2 ⟨rfl, hrt2, hm2⟩
      have hR := hm2.blk ((Blk.new w 69 zeroStep).alloc (.cells zeroStep 69)) (by simp; omega)
      have hB := hm2.blk (Blk.newAt (w.alloc (.cells zeroStep 69)) 69 zeroStep (n := w.heap.size + 1) (by simp)) (by simp; omega)
      have hBc := hB.cell
      have hBf := hB.frozen
      unfold zeroStep at hBc
      have hBl := hB.lt
      have H2 := Lib.hid (And.intro hR (And.intro hB (And.intro hrt2 hm2)))
      clear hR hB hrt2 hm2
      go_wp2
      clear hBc hBf
      generalize hW : (w2.setCell ⟨w.heap.size + 1, 1, none⟩ (.int .i64 x)).setCell ⟨w.heap.size + 1, 0, none⟩ (.int .i64 2) = W
      have H3 := Lib.hid (show Blk W w.heap.size 69 zeroStep ∧ Blk W (w.heap.size + 1) 69 #[.int .i64 2, .int .i64 x, .int .i64 0, .int .i64 0, .int .i64 0, .slice none 0 0, .bool false, .string ⟨#[]⟩, .string ⟨#[]⟩, .int .i64 0, .int .i64 0, .slice none 0 0] ∧ RdT W r n ts2 ∧ Mod [r] w W ∧ True from by
        obtain ⟨hR, hB, hrt2, hm2⟩ := H2.out
        have hmW : Mod [w.heap.size + 1] w2 W := by rw [← hW]; exact ((Mod.refl _ _).setCell (by simp) _).setCell (by simp) _
        exact ⟨hmW.blk hR (by simp), by rw [← hW]; exact (hB.set_ 1 _).set_ 0 _, hrt2.frame hmW (by simp; omega), (((((Mod.refl [r] w).alloc _).alloc _).trans hm2).then hmW (by simp)), trivial⟩)
      clear hW H2
      have hBc := H3.out.2.1.cell
      have hBl3 := H3.out.2.1.lt
      have HC := Lib.hid (rend_bad W.drew r n ts2 f HE.out.hfin H3.out.2.2.1 hn)
      go_region_with (go_at_call 105; refine HC.out.mono ?_; rintro e w4 ⟨v, rfl, ⟨fb, rfl, hfb, hfk⟩, hm4⟩; have hR4 := (hm4.blk (H3.out.1.drew) (by simp; omega)); have hB4 := (hm4.blk (H3.out.2.1.drew) (by simp; omega)); have hRc := hR4.cell; have hRf := hR4.frozen; have hBc4 := hB4.cell; unfold zeroStep at hRc; have H5 := Lib.hid (And.intro hR4 (And.intro hB4 (And.intro hfb (And.intro hfk hm4)))); clear hR4 hB4 hfb hfk hm4)
      all_goals
        go_wp2
        obtain ⟨hR4, hB4, hfb, hfk, hm4⟩ := H5.out
        simp at hfb
        have hsz3 := H3.out.2.2.2.1.size
        refine ret_cell_tmp Tryz.results108 rfl (hR4.set12 _ _ _ _ _ _ _ _ _ _ _ _) Tryz.underlying69 rfl (by kernel_rfl) rfl ?_
        refine step_bad HE.out.hE ⟨_, _, rfl, by simp [Value.oneCell'], rfl, ⟨fb, rfl, by omega, ?_⟩, ?_⟩
        · exact ((Mod.refl [w.heap.size] w4).set12 (.inl (by simp)) _ _ _ _ _ _ _ _ _ _ _ _).blk hfk (by simp; omega)
        · exact ((H3.out.2.2.2.1.drew).trans hm4).set12 (.inr (Nat.le_refl _)) _ _ _ _ _ _ _ _ _ _ _ _
    · unfold withFin at hE
      rw [hfin] at hE
      have HE := Lib.hid (EndE.mk hE hnum hfin)
      clear h hD hE hnum hfin
      go_enter Tryz.func108, Tryz.ntmps108
      go_wp2_with fail
      refine (rnumber_good _ r n _ _ x ts ts2 HE.out.hnum (H.out.frame (((Mod.refl [] w).alloc _).alloc _) (by simp)) hn).mono ?_
      rintro e w2 ⟨rfl, hrt2, hm2⟩
      have hR := hm2.blk ((Blk.new w 69 zeroStep).alloc (.cells zeroStep 69)) (by simp; omega)
      have hB := hm2.blk (Blk.newAt (w.alloc (.cells zeroStep 69)) 69 zeroStep (n := w.heap.size + 1) (by simp)) (by simp; omega)
      have hBc := hB.cell
      have hBf := hB.frozen
      unfold zeroStep at hBc
      have hBl := hB.lt
      have H2 := Lib.hid (And.intro hR (And.intro hB (And.intro hrt2 hm2)))
      clear hR hB hrt2 hm2
      go_wp2
      clear hBc hBf
      generalize hW : (w2.setCell ⟨w.heap.size + 1, 1, none⟩ (.int .i64 x)).setCell ⟨w.heap.size + 1, 0, none⟩ (.int .i64 2) = W
      have H3 := Lib.hid (show Blk W w.heap.size 69 zeroStep ∧ Blk W (w.heap.size + 1) 69 #[.int .i64 2, .int .i64 x, .int .i64 0, .int .i64 0, .int .i64 0, .slice none 0 0, .bool false, .string ⟨#[]⟩, .string ⟨#[]⟩, .int .i64 0, .int .i64 0, .slice none 0 0] ∧ RdT W r n ts2 ∧ Mod [r] w W ∧ True from by
        obtain ⟨hR, hB, hrt2, hm2⟩ := H2.out
        have hmW : Mod [w.heap.size + 1] w2 W := by rw [← hW]; exact ((Mod.refl _ _).setCell (by simp) _).setCell (by simp) _
        exact ⟨hmW.blk hR (by simp), by rw [← hW]; exact (hB.set_ 1 _).set_ 0 _, hrt2.frame hmW (by simp; omega), (((((Mod.refl [r] w).alloc _).alloc _).trans hm2).then hmW (by simp)), trivial⟩)
      clear hW H2
      have hBc := H3.out.2.1.cell
      have hBl3 := H3.out.2.1.lt
      have HC := Lib.hid (rend_good W.drew r n ts2 HE.out.hfin H3.out.2.2.1 hn)
      go_region_with (go_at_call 105; refine HC.out.mono ?_; rintro e w4 ⟨rfl, hm4⟩; have hR4 := (hm4.blk (H3.out.1.drew) (by simp; omega)); have hB4 := (hm4.blk (H3.out.2.1.drew) (by simp; omega)); have hRc := hR4.cell; have hRf := hR4.frozen; have hBc4 := hB4.cell; unfold zeroStep at hRc; have H5 := Lib.hid (And.intro hR4 (And.intro hB4 hm4)); clear hR4 hB4 hm4)
      all_goals
        go_wp2
        obtain ⟨hR4, hB4, hm4⟩ := H5.out
        refine ret_cell_tmp Tryz.results108 rfl (hR4.set12 _ _ _ _ _ _ _ _ _ _ _ _) Tryz.underlying69 rfl (by kernel_rfl) rfl ?_
        refine step_good HE.out.hE ⟨_, _, rfl, ?_, ?_, ?_⟩
        · exact no_writes _ _
        · exact no_ints _ _
        · exact ((H3.out.2.2.2.1.drew).trans hm4).set12 (.inr (Nat.le_refl _)) _ _ _ _ _ _ _ _ _ _ _ _

set_option maxRecDepth 100000 in
set_option maxHeartbeats 4000000 in
theorem step_arm (h : RdT w r n ts) (hn : n ≤ 1099511627776) (hD : D.data.toList = wArm) :
    Calls Tryz.prog 108 #[.pointer (some ⟨r, 0, none⟩), .string D] w (StepPost w r n wArm ts) := by
  have hx : ∀ l, (D.toList == l) = ([97, 114, 109] == l) := beq_name hD
  have hrl := h.lt
  have H := Lib.hid h
  have hE : stepP n wArm ts = match numAny n ts with
    | .error e => .error e
    | .ok a => withFin { StepS.zero with kind := 5, a := a.1 } a.2 := rfl
  rcases hnum : numAny n ts with f | ⟨x, ts2⟩
  · rw [hnum] at hE
    exact step_first_bad w r n ts D _ f h hn (by rw [Lib.toList_data, hD]; rfl) hE hnum
  · rw [hnum] at hE
    simp only [] at hE
    rcases hfin : fin ts2 with f | u
    · unfold withFin at hE
      rw [hfin] at hE
      have HE := Lib.hid (EndE.mk hE hnum hfin)
      clear h hD hE hnum hfin
      go_enter Tryz.func108, Tryz.ntmps108
      go_wp2_with fail
      refine (rnumber_good _ r n _ _ x ts ts2 HE.out.hnum (H.out.frame (((Mod.refl [] w).alloc _).alloc _) (by simp)) hn).mono ?_
      rintro e w2 ⟨rfl, hrt2, hm2⟩
      have hR := hm2.blk ((Blk.new w 69 zeroStep).alloc (.cells zeroStep 69)) (by simp; omega)
      have hB := hm2.blk (Blk.newAt (w.alloc (.cells zeroStep 69)) 69 zeroStep (n := w.heap.size + 1) (by simp)) (by simp; omega)
      have hBc := hB.cell
      have hBf := hB.frozen
      unfold zeroStep at hBc
      have hBl := hB.lt
      have H2 := Lib.hid (And.intro hR (And.intro hB (And.intro hrt2 hm2)))
      clear hR hB hrt2 hm2
      go_wp2
      clear hBc hBf
      generalize hW : (w2.setCell ⟨w.heap.size + 1, 1, none⟩ (.int .i64 x)).setCell ⟨w.heap.size + 1, 0, none⟩ (.int .i64 5) = W
      have H3 := Lib.hid (show Blk W w.heap.size 69 zeroStep ∧ Blk W (w.heap.size + 1) 69 #[.int .i64 5, .int .i64 x, .int .i64 0, .int .i64 0, .int .i64 0, .slice none 0 0, .bool false, .string ⟨#[]⟩, .string ⟨#[]⟩, .int .i64 0, .int .i64 0, .slice none 0 0] ∧ RdT W r n ts2 ∧ Mod [r] w W ∧ True from by
        obtain ⟨hR, hB, hrt2, hm2⟩ := H2.out
        have hmW : Mod [w.heap.size + 1] w2 W := by rw [← hW]; exact ((Mod.refl _ _).setCell (by simp) _).setCell (by simp) _
        exact ⟨hmW.blk hR (by simp), by rw [← hW]; exact (hB.set_ 1 _).set_ 0 _, hrt2.frame hmW (by simp; omega), (((((Mod.refl [r] w).alloc _).alloc _).trans hm2).then hmW (by simp)), trivial⟩)
      clear hW H2
      have hBc := H3.out.2.1.cell
      have hBl3 := H3.out.2.1.lt
      have HC := Lib.hid (rend_bad W.drew r n ts2 f HE.out.hfin H3.out.2.2.1 hn)
      go_region_with (go_at_call 105; refine HC.out.mono ?_; rintro e w4 ⟨v, rfl, ⟨fb, rfl, hfb, hfk⟩, hm4⟩; have hR4 := (hm4.blk (H3.out.1.drew) (by simp; omega)); have hB4 := (hm4.blk (H3.out.2.1.drew) (by simp; omega)); have hRc := hR4.cell; have hRf := hR4.frozen; have hBc4 := hB4.cell; unfold zeroStep at hRc; have H5 := Lib.hid (And.intro hR4 (And.intro hB4 (And.intro hfb (And.intro hfk hm4)))); clear hR4 hB4 hfb hfk hm4)
      all_goals
        go_wp2
        obtain ⟨hR4, hB4, hfb, hfk, hm4⟩ := H5.out
        simp at hfb
        have hsz3 := H3.out.2.2.2.1.size
        refine ret_cell_tmp Tryz.results108 rfl (hR4.set12 _ _ _ _ _ _ _ _ _ _ _ _) Tryz.underlying69 rfl (by kernel_rfl) rfl ?_
        refine step_bad HE.out.hE ⟨_, _, rfl, by simp [Value.oneCell'], rfl, ⟨fb, rfl, by omega, ?_⟩, ?_⟩
        · exact ((Mod.refl [w.heap.size] w4).set12 (.inl (by simp)) _ _ _ _ _ _ _ _ _ _ _ _).blk hfk (by simp; omega)
        · exact ((H3.out.2.2.2.1.drew).trans hm4).set12 (.inr (Nat.le_refl _)) _ _ _ _ _ _ _ _ _ _ _ _
    · unfold withFin at hE
      rw [hfin] at hE
      have HE := Lib.hid (EndE.mk hE hnum hfin)
      clear h hD hE hnum hfin
      go_enter Tryz.func108, Tryz.ntmps108
      go_wp2_with fail
      refine (rnumber_good _ r n _ _ x ts ts2 HE.out.hnum (H.out.frame (((Mod.refl [] w).alloc _).alloc _) (by simp)) hn).mono ?_
      rintro e w2 ⟨rfl, hrt2, hm2⟩
      have hR := hm2.blk ((Blk.new w 69 zeroStep).alloc (.cells zeroStep 69)) (by simp; omega)
      have hB := hm2.blk (Blk.newAt (w.alloc (.cells zeroStep 69)) 69 zeroStep (n := w.heap.size + 1) (by simp)) (by simp; omega)
      have hBc := hB.cell
      have hBf := hB.frozen
      unfold zeroStep at hBc
      have hBl := hB.lt
      have H2 := Lib.hid (And.intro hR (And.intro hB (And.intro hrt2 hm2)))
      clear hR hB hrt2 hm2
      go_wp2
      clear hBc hBf
      generalize hW : (w2.setCell ⟨w.heap.size + 1, 1, none⟩ (.int .i64 x)).setCell ⟨w.heap.size + 1, 0, none⟩ (.int .i64 5) = W
      have H3 := Lib.hid (show Blk W w.heap.size 69 zeroStep ∧ Blk W (w.heap.size + 1) 69 #[.int .i64 5, .int .i64 x, .int .i64 0, .int .i64 0, .int .i64 0, .slice none 0 0, .bool false, .string ⟨#[]⟩, .string ⟨#[]⟩, .int .i64 0, .int .i64 0, .slice none 0 0] ∧ RdT W r n ts2 ∧ Mod [r] w W ∧ True from by
        obtain ⟨hR, hB, hrt2, hm2⟩ := H2.out
        have hmW : Mod [w.heap.size + 1] w2 W := by rw [← hW]; exact ((Mod.refl _ _).setCell (by simp) _).setCell (by simp) _
        exact ⟨hmW.blk hR (by simp), by rw [← hW]; exact (hB.set_ 1 _).set_ 0 _, hrt2.frame hmW (by simp; omega), (((((Mod.refl [r] w).alloc _).alloc _).trans hm2).then hmW (by simp)), trivial⟩)
      clear hW H2
      have hBc := H3.out.2.1.cell
      have hBl3 := H3.out.2.1.lt
      have HC := Lib.hid (rend_good W.drew r n ts2 HE.out.hfin H3.out.2.2.1 hn)
      go_region_with (go_at_call 105; refine HC.out.mono ?_; rintro e w4 ⟨rfl, hm4⟩; have hR4 := (hm4.blk (H3.out.1.drew) (by simp; omega)); have hB4 := (hm4.blk (H3.out.2.1.drew) (by simp; omega)); have hRc := hR4.cell; have hRf := hR4.frozen; have hBc4 := hB4.cell; unfold zeroStep at hRc; have H5 := Lib.hid (And.intro hR4 (And.intro hB4 hm4)); clear hR4 hB4 hm4)
      all_goals
        go_wp2
        obtain ⟨hR4, hB4, hm4⟩ := H5.out
        refine ret_cell_tmp Tryz.results108 rfl (hR4.set12 _ _ _ _ _ _ _ _ _ _ _ _) Tryz.underlying69 rfl (by kernel_rfl) rfl ?_
        refine step_good HE.out.hE ⟨_, _, rfl, ?_, ?_, ?_⟩
        · exact no_writes _ _
        · exact no_ints _ _
        · exact ((H3.out.2.2.2.1.drew).trans hm4).set12 (.inr (Nat.le_refl _)) _ _ _ _ _ _ _ _ _ _ _ _

end
end Go.Proofs.YtjieelmbgfnllaaGreatDoor

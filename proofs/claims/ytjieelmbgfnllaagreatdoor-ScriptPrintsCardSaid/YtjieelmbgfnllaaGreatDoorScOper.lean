/- What operation hands back: an operation behind its client. Conditions: a line of at most 2^40 bytes. -/
import Derived.Test.YtjieelmbgfnllaaGreatDoorScKeeps
namespace Go.Proofs.YtjieelmbgfnllaaGreatDoor
open Go.RowKit Scr

/-- The cells of a step whose operation is o; its batch is wv. -/
def opCells (v0 v1 v2 v3 : Value) (o : OpS) (wv v11 : Value) : Array Value :=
  #[v0, v1, v2, v3, .int .i64 o.kind, wv, .bool o.sync, .string ⟨o.key.toArray⟩, .string ⟨o.til.toArray⟩, .int .i64 o.n, .int .i64 o.snap, v11]
def OpAt (w : World) (b lo : Nat) (v0 v1 v2 v3 v11 : Value) (o : OpS) : Prop := ∃ wv, Blk w b 69 (opCells v0 v1 v2 v3 o wv v11) ∧ WritesAt w lo wv o.writes

def OpPost (w : World) (r b n : Nat) (v0 v1 v2 v3 v11 : Value) (nm : Bs) (ts : List Tok) (e : Ending) (w' : World) : Prop :=
  match opP n nm ts with
  | .error f => ∃ v, e = .returned v ∧ FaultIs w w' f v ∧ SomeStep w' b (opCells v0 v1 v2 v3 OpS.zero (.slice none 0 0) v11) ∧ Mod [r, b] w w'
  | .ok q => e = .returned .nilIface ∧ RdT w' r n q.2 ∧ OpAt w' b w.heap.size v0 v1 v2 v3 v11 q.1 ∧ Mod [r, b] w w'
theorem op_bad {w w' : World} {r b n : Nat} {v0 v1 v2 v3 v11 : Value} {nm : Bs} {ts : List Tok} {f : Flt} {e : Ending} (h : opP n nm ts = .error f)
    (h2 : ∃ v, e = .returned v ∧ FaultIs w w' f v ∧ SomeStep w' b (opCells v0 v1 v2 v3 OpS.zero (.slice none 0 0) v11) ∧ Mod [r, b] w w') : OpPost w r b n v0 v1 v2 v3 v11 nm ts e w' := by
  unfold OpPost; rw [h]; exact h2
theorem op_good {w w' : World} {r b n : Nat} {v0 v1 v2 v3 v11 : Value} {nm : Bs} {ts ts' : List Tok} {o : OpS} {e : Ending} (h : opP n nm ts = .ok (o, ts'))
    (h2 : e = .returned .nilIface ∧ RdT w' r n ts' ∧ OpAt w' b w.heap.size v0 v1 v2 v3 v11 o ∧ Mod [r, b] w w') : OpPost w r b n v0 v1 v2 v3 v11 nm ts e w' := by
  unfold OpPost; rw [h]; exact h2

theorem no_writes (w : World) (lo : Nat) : WritesAt w lo (.slice none 0 0) [] := ⟨rfl, .inl ⟨rfl, rfl⟩⟩
theorem beq_name {D : ByteArray} {nm : Bs} (h : D.data.toList = nm) (l : List UInt8) : (D.toList == l) = (nm == l) := by rw [Lib.toList_data, h]
theorem FaultIs.same {w W w' : World} {f : Flt} {v : Value} (h : FaultIs W w' f v) (hs : W.heap.size = w.heap.size) : FaultIs w w' f v := by
  obtain ⟨b, hv, hb, hk⟩ := h
  exact ⟨b, hv, by omega, hk⟩

section
variable (w : World) (r b n : Nat) (v0 v1 v2 v3 v11 : Value) (ts : List Tok) (D : ByteArray)

set_option maxRecDepth 100000 in
set_option maxHeartbeats 4000000 in
theorem op_write (h : RdT w r n ts) (hn : n ≤ 1099511627776) (hD : D.data.toList = wWrite) (hb : Blk w b 69 (opCells v0 v1 v2 v3 OpS.zero (.slice none 0 0) v11)) :
    Calls Tryz.prog 165 #[.pointer (some ⟨r, 0, none⟩), .string D, .pointer (some ⟨b, 4, none⟩)] w (OpPost w r b n v0 v1 v2 v3 v11 wWrite ts) := by
  have hrb := h.ne_step hb
  have hx : ∀ l, (D.toList == l) = ([119, 114, 105, 116, 101] == l) := beq_name hD
  have hc4 := hb.cell 4
  have hf4 := hb.frozen 4
  have hbl := hb.lt
  simp [opCells] at hc4
  have H := Lib.hid (And.intro h hb)
  have hE : opP n wWrite ts = (writesP n ts).map fun r => ({ OpS.zero with kind := 1, writes := r.1, sync := r.2.1 }, r.2.2) := rfl
  have HE := Lib.hid hE
  clear h hb hD hE
  go_enter Tryz.func165, Tryz.ntmps165
  go_wp2_with fail
  refine (writes_walk _ r b n v0 v1 v2 v3 (.int .i64 1) (.string ⟨#[]⟩) (.string ⟨#[]⟩) (.int .i64 0) (.int .i64 0) v11 ts (H.out.1.frame (S := [b]) ((Mod.refl _ w).setCell (by simp) _) (by simpa using hrb)) hn (H.out.2.set_ 4 _)).mono ?_
  intro e w2 hp
  unfold WritesPost at hp
  rcases hw : writesP n ts with f | q
  · rw [hw] at hp
    obtain ⟨v, rfl, hf, hs, hm⟩ := hp
    have H2 := Lib.hid (And.intro hw (And.intro hf (And.intro hs hm)))
    clear hw hf hs hm
    go_wp2
    go_ret
    obtain ⟨hw, hf, hs, hm⟩ := H2.out
    exact op_bad (by rw [HE.out, hw]; rfl) ⟨_, rfl, hf.same (by simp), hs.from_ (fun h => all_set (i := 4) h rfl), ((Mod.refl _ w).setCell (by simp) _).trans hm⟩
  · rw [hw] at hp
    obtain ⟨rfl, hrt, hwv, hm⟩ := hp
    have H2 := Lib.hid (And.intro hw (And.intro hrt (And.intro hwv hm)))
    clear hw hrt hwv hm
    go_wp2
    go_ret
    obtain ⟨hw, hrt, ⟨wv, hwb, hwa⟩, hm⟩ := H2.out
    refine op_good (o := { OpS.zero with kind := 1, writes := q.1, sync := q.2.1 }) (ts' := q.2.2) (by rw [HE.out, hw]; rfl) ⟨rfl, hrt, ⟨wv, hwb, ?_⟩, ((Mod.refl _ w).setCell (by simp) _).trans hm⟩
    simpa using hwa

set_option maxRecDepth 100000 in
set_option maxHeartbeats 4000000 in
theorem op_sync (h : RdT w r n ts) (hD : D.data.toList = wSync) (hb : Blk w b 69 (opCells v0 v1 v2 v3 OpS.zero (.slice none 0 0) v11)) :
    Calls Tryz.prog 165 #[.pointer (some ⟨r, 0, none⟩), .string D, .pointer (some ⟨b, 4, none⟩)] w (OpPost w r b n v0 v1 v2 v3 v11 wSync ts) := by
  have hrb := h.ne_step hb
  have hx : ∀ l, (D.toList == l) = ([115, 121, 110, 99] == l) := beq_name hD
  have hc4 := hb.cell 4
  have hf4 := hb.frozen 4
  have hbl := hb.lt
  simp [opCells] at hc4
  have H := Lib.hid (And.intro h hb)
  clear h hb hD
  go_enter Tryz.func165, Tryz.ntmps165
  go_wp2
  go_ret
  exact op_good (o := { OpS.zero with kind := 2 }) (ts' := ts) rfl ⟨rfl, H.out.1.frame (S := [b]) ((Mod.refl _ w).setCell (by simp) _) (by simpa using hrb), ⟨_, H.out.2.set_ 4 _, no_writes _ _⟩, (Mod.refl _ w).setCell (by simp) _⟩

set_option maxRecDepth 100000 in
set_option maxHeartbeats 4000000 in
theorem op_snap (h : RdT w r n ts) (hD : D.data.toList = wSnap) (hb : Blk w b 69 (opCells v0 v1 v2 v3 OpS.zero (.slice none 0 0) v11)) :
    Calls Tryz.prog 165 #[.pointer (some ⟨r, 0, none⟩), .string D, .pointer (some ⟨b, 4, none⟩)] w (OpPost w r b n v0 v1 v2 v3 v11 wSnap ts) := by
  have hrb := h.ne_step hb
  have hx : ∀ l, (D.toList == l) = ([115, 110, 97, 112] == l) := beq_name hD
  have hc4 := hb.cell 4
  have hf4 := hb.frozen 4
  have hbl := hb.lt
  simp [opCells] at hc4
  have H := Lib.hid (And.intro h hb)
  clear h hb hD
  go_enter Tryz.func165, Tryz.ntmps165
  go_wp2
  go_ret
  exact op_good (o := { OpS.zero with kind := 5 }) (ts' := ts) rfl ⟨rfl, H.out.1.frame (S := [b]) ((Mod.refl _ w).setCell (by simp) _) (by simpa using hrb), ⟨_, H.out.2.set_ 4 _, no_writes _ _⟩, (Mod.refl _ w).setCell (by simp) _⟩

set_option maxRecDepth 100000 in
set_option maxHeartbeats 4000000 in
theorem op_release (h : RdT w r n ts) (hn : n ≤ 1099511627776) (hD : D.data.toList = wRelease) (hb : Blk w b 69 (opCells v0 v1 v2 v3 OpS.zero (.slice none 0 0) v11)) :
    Calls Tryz.prog 165 #[.pointer (some ⟨r, 0, none⟩), .string D, .pointer (some ⟨b, 4, none⟩)] w (OpPost w r b n v0 v1 v2 v3 v11 wRelease ts) := by
  have hrb := h.ne_step hb
  have hx : ∀ l, (D.toList == l) = ([114, 101, 108, 101, 97, 115, 101] == l) := beq_name hD
  have hc4 := hb.cell 4
  have hf4 := hb.frozen 4
  have hbl := hb.lt
  simp [opCells] at hc4
  have H := Lib.hid (And.intro h hb)
  have hE : opP n wRelease ts = (numAny n ts).map fun r => ({ OpS.zero with kind := 6, snap := r.1 }, r.2) := rfl
  rcases hnum : numAny n ts with f | ⟨x, ts'⟩
  · rw [hnum] at hE
    have HE := Lib.hid (And.intro hE hnum)
    clear h hb hD hE hnum
    go_enter Tryz.func165, Tryz.ntmps165
    go_wp2_with fail
    refine (rnumber_bad _ r n _ _ ts f HE.out.2 (H.out.1.frame (S := [b]) ((Mod.refl _ w).setCell (by simp) _) (by simpa using hrb)) hn).mono ?_
    rintro e w2 ⟨v, rfl, ⟨fb, rfl, hfb, hfk⟩, hm2⟩
    have hb2 := hm2.blk (H.out.2.set_ 4 (.int .i64 6)) (by simp; omega)
    have hc10 := hb2.cell 10
    have hf10 := hb2.frozen 10
    have hbl2 := hb2.lt
    simp [opCells] at hc10
    have H2 := Lib.hid (And.intro hb2 (And.intro hfb (And.intro hfk hm2)))
    clear hb2 hfb hfk hm2 hc4 hf4
    go_wp2
    go_ret
    obtain ⟨hb2, hfb, hfk, hm2⟩ := H2.out
    simp at hfb
    exact op_bad HE.out.1 ⟨_, rfl, ⟨fb, rfl, by omega, hfk.far (p := ⟨b, 10, none⟩) (by simp; omega) _⟩, some_from (hb2.set_ 10 _) rfl (fun h => all_set (all_set h rfl) rfl), (((Mod.refl _ w).setCell (by simp) _).trans (hm2.mono (by simp))).setCell (by simp) _⟩
  · rw [hnum] at hE
    have HE := Lib.hid (And.intro hE hnum)
    clear h hb hD hE hnum
    go_enter Tryz.func165, Tryz.ntmps165
    go_wp2_with fail
    refine (rnumber_good _ r n _ _ x ts ts' HE.out.2 (H.out.1.frame (S := [b]) ((Mod.refl _ w).setCell (by simp) _) (by simpa using hrb)) hn).mono ?_
    rintro e w2 ⟨rfl, hrt2, hm2⟩
    have hb2 := hm2.blk (H.out.2.set_ 4 (.int .i64 6)) (by simp; omega)
    have hc10 := hb2.cell 10
    have hf10 := hb2.frozen 10
    have hbl2 := hb2.lt
    simp [opCells] at hc10
    have H2 := Lib.hid (And.intro hb2 (And.intro hrt2 hm2))
    clear hb2 hrt2 hm2 hc4 hf4
    go_wp2
    go_ret
    obtain ⟨hb2, hrt2, hm2⟩ := H2.out
    exact op_good HE.out.1 ⟨rfl, hrt2.frame (S := [b]) ((Mod.refl _ w2).setCell (by simp) _) (by simpa using hrb), ⟨_, hb2.set_ 10 _, no_writes _ _⟩, (((Mod.refl _ w).setCell (by simp) _).trans (hm2.mono (by simp))).setCell (by simp) _⟩

theorem snapped_bad (w : World) (r b n : Nat) (v0 v1 v2 v3 v4 v5 v6 v7 v8 v9 v11 : Value) (ts : List Tok) (f : Flt) (hf : snapP n ts = .error f) (h : RdT w r n ts) (hn : n ≤ 1099511627776)
    (hb : Blk w b 69 #[v0, v1, v2, v3, v4, v5, v6, v7, v8, v9, .int .i64 0, v11]) :
    Calls Tryz.prog 231 #[.pointer (some ⟨r, 0, none⟩), .pointer (some ⟨b, 4, none⟩)] w fun e w' => ∃ v, e = .returned v ∧ FaultIs w w' f v ∧ SomeStep w' b #[v0, v1, v2, v3, v4, v5, v6, v7, v8, v9, .int .i64 0, v11] ∧ Mod [r, b] w w' := by
  have := snapped_walk w r b n v0 v1 v2 v3 v4 v5 v6 v7 v8 v9 v11 ts h hn hb
  unfold SnapPost at this; rw [hf] at this; exact this
theorem snapped_good (w : World) (r b n : Nat) (v0 v1 v2 v3 v4 v5 v6 v7 v8 v9 v11 : Value) (ts ts' : List Tok) (x : Int) (hf : snapP n ts = .ok (x, ts')) (h : RdT w r n ts) (hn : n ≤ 1099511627776)
    (hb : Blk w b 69 #[v0, v1, v2, v3, v4, v5, v6, v7, v8, v9, .int .i64 0, v11]) :
    Calls Tryz.prog 231 #[.pointer (some ⟨r, 0, none⟩), .pointer (some ⟨b, 4, none⟩)] w fun e w' => e = .returned .nilIface ∧ RdT w' r n ts' ∧ Blk w' b 69 #[v0, v1, v2, v3, v4, v5, v6, v7, v8, v9, .int .i64 x, v11] ∧ Mod [r, b] w w' := by
  have := snapped_walk w r b n v0 v1 v2 v3 v4 v5 v6 v7 v8 v9 v11 ts h hn hb
  unfold SnapPost at this; rw [hf] at this; exact this

set_option maxRecDepth 100000 in
set_option maxHeartbeats 4000000 in
theorem op_get (h : RdT w r n ts) (hn : n ≤ 1099511627776) (hD : D.data.toList = wGet) (hb : Blk w b 69 (opCells v0 v1 v2 v3 OpS.zero (.slice none 0 0) v11)) :
    Calls Tryz.prog 165 #[.pointer (some ⟨r, 0, none⟩), .string D, .pointer (some ⟨b, 4, none⟩)] w (OpPost w r b n v0 v1 v2 v3 v11 wGet ts) := by
  have hrb := h.ne_step hb
  have hx : ∀ l, (D.toList == l) = ([103, 101, 116] == l) := beq_name hD
  have hc4 := hb.cell 4
  have hf4 := hb.frozen 4
  have hbl := hb.lt
  simp [opCells] at hc4
  have H := Lib.hid (And.intro h hb)
  have hE : opP n wGet ts = match txt n ts with
    | .error e => .error e
    | .ok k => (snapP n k.2).map fun r => ({ OpS.zero with kind := 3, key := k.1, snap := r.1 }, r.2) := rfl
  rcases htx : txt n ts with f | ⟨x, ts2⟩
  · rw [htx] at hE
    have HE := Lib.hid (And.intro hE htx)
    clear h hb hD hE htx
    go_enter Tryz.func165, Tryz.ntmps165
    go_wp2_with fail
    refine (rtext_bad _ r n ts f HE.out.2 (H.out.1.frame (S := [b]) ((Mod.refl _ w).setCell (by simp) _) (by simpa using hrb)) hn).mono ?_
    rintro e w2 ⟨s2, v, rfl, ⟨fb, rfl, hfb, hfk⟩, hm2⟩
    have hb2 := hm2.blk (H.out.2.set_ 4 (.int .i64 3)) (by simp; omega)
    have hc7 := hb2.cell 7
    have hf7 := hb2.frozen 7
    have hbl2 := hb2.lt
    simp [opCells] at hc7
    have H2 := Lib.hid (And.intro hb2 (And.intro hfb (And.intro hfk hm2)))
    clear hb2 hfb hfk hm2 hc4 hf4
    go_wp2
    go_ret
    obtain ⟨hb2, hfb, hfk, hm2⟩ := H2.out
    simp at hfb
    exact op_bad HE.out.1 ⟨_, rfl, ⟨fb, rfl, by omega, hfk.far (p := ⟨b, 7, none⟩) (by simp; omega) _⟩, some_from (hb2.set_ 7 _) rfl (fun h => all_set (all_set h rfl) rfl), (((Mod.refl _ w).setCell (by simp) _).trans (hm2.mono (by simp))).setCell (by simp) _⟩
  · rw [htx] at hE
    simp only [] at hE
    obtain ⟨X, hX⟩ : ∃ X : ByteArray, X = ⟨x.toArray⟩ := ⟨_, rfl⟩
    rcases hsn : snapP n ts2 with f | ⟨y, ts3⟩
    · rw [hsn] at hE
      have HE := Lib.hid (And.intro hE (And.intro htx (And.intro hX hsn)))
      clear h hb hD hE htx hX hsn
      go_enter Tryz.func165, Tryz.ntmps165
      go_wp2_with fail
      refine (rtext_good _ r n ts ts2 x X HE.out.2.2.1 HE.out.2.1 (H.out.1.frame (S := [b]) ((Mod.refl _ w).setCell (by simp) _) (by simpa using hrb)) hn).mono ?_
      rintro e w2 ⟨rfl, hrt2, hm2⟩
      have hb2 := hm2.blk (H.out.2.set_ 4 (.int .i64 3)) (by simp; omega)
      have hc7 := hb2.cell 7
      have hf7 := hb2.frozen 7
      have hbl2 := hb2.lt
      simp [opCells] at hc7
      have H2 := Lib.hid (And.intro hb2 (And.intro hrt2 hm2))
      clear hb2 hrt2 hm2 hc4 hf4
      go_wp2_with fail
      refine (snapped_bad _ r b n v0 v1 v2 v3 (.int .i64 3) (.slice none 0 0) (.bool false) (.string X) (.string ⟨#[]⟩) (.int .i64 0) v11 ts2 f HE.out.2.2.2 (H2.out.2.1.frame (S := [b]) ((Mod.refl _ w2).setCell (by simp) _) (by simpa using hrb)) hn (H2.out.1.set_ 7 _)).mono ?_
      rintro e w3 ⟨v, rfl, hf3, hs3, hm3⟩
      have H3 := Lib.hid (And.intro hf3 (And.intro hs3 hm3))
      clear hf3 hs3 hm3
      go_wp2
      go_ret
      obtain ⟨hb2, hrt2, hm2⟩ := H2.out
      obtain ⟨⟨fb, hv, hfb, hfk⟩, hs3, hm3⟩ := H3.out
      have hs2 := hm2.size
      simp at hfb hs2
      exact op_bad HE.out.1 ⟨_, rfl, ⟨fb, hv, by omega, hfk⟩, hs3.from_ (fun h => all_set (i := 7) (all_set (i := 4) h rfl) rfl), ((((Mod.refl _ w).setCell (by simp) _).trans (hm2.mono (by simp))).setCell (by simp) _).trans hm3⟩
    · rw [hsn] at hE
      have HE := Lib.hid (And.intro hE (And.intro htx (And.intro hX hsn)))
      clear h hb hD hE htx hX hsn
      go_enter Tryz.func165, Tryz.ntmps165
      go_wp2_with fail
      refine (rtext_good _ r n ts ts2 x X HE.out.2.2.1 HE.out.2.1 (H.out.1.frame (S := [b]) ((Mod.refl _ w).setCell (by simp) _) (by simpa using hrb)) hn).mono ?_
      rintro e w2 ⟨rfl, hrt2, hm2⟩
      have hb2 := hm2.blk (H.out.2.set_ 4 (.int .i64 3)) (by simp; omega)
      have hc7 := hb2.cell 7
      have hf7 := hb2.frozen 7
      have hbl2 := hb2.lt
      simp [opCells] at hc7
      have H2 := Lib.hid (And.intro hb2 (And.intro hrt2 hm2))
      clear hb2 hrt2 hm2 hc4 hf4
      go_wp2_with fail
      refine (snapped_good _ r b n v0 v1 v2 v3 (.int .i64 3) (.slice none 0 0) (.bool false) (.string X) (.string ⟨#[]⟩) (.int .i64 0) v11 ts2 ts3 y HE.out.2.2.2 (H2.out.2.1.frame (S := [b]) ((Mod.refl _ w2).setCell (by simp) _) (by simpa using hrb)) hn (H2.out.1.set_ 7 _)).mono ?_
      rintro e w3 ⟨rfl, hrt3, hb3, hm3⟩
      have H3 := Lib.hid (And.intro hrt3 (And.intro hb3 hm3))
      clear hrt3 hb3 hm3
      go_wp2
      go_ret
      obtain ⟨hb2, hrt2, hm2⟩ := H2.out
      obtain ⟨hrt3, hb3, hm3⟩ := H3.out
      rw [HE.out.2.2.1] at hb3
      exact op_good HE.out.1 ⟨rfl, hrt3, ⟨_, hb3, no_writes _ _⟩, ((((Mod.refl _ w).setCell (by simp) _).trans (hm2.mono (by simp))).setCell (by simp) _).trans hm3⟩
end
end Go.Proofs.YtjieelmbgfnllaaGreatDoor

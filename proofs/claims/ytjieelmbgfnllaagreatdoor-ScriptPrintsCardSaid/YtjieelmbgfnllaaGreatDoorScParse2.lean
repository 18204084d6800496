/- What Parse hands back. Conditions: errors.errorType is laid; internal/bytealg's variable MaxLen holds an integer. -/
import Derived.Test.YtjieelmbgfnllaaGreatDoorScParse
namespace Go.Proofs.YtjieelmbgfnllaaGreatDoor
open Go.RowKit Scr

theorem ret_tmps {P : Program} {fn : Func} {p q : Tmp} {R : Ending → World → Prop} {a : Act} {w : World} (h : fn.results = #[.tmp p, .tmp q]) (hdf : a.defers = [])
    (hR : R (.returned (.tuple #[a.tmps.getD p undef, a.tmps.getD q undef])) w) : bodyPost P fn R .ret a w := by
  refine bodyPost_ret (v := .tuple #[a.tmps.getD p undef, a.tmps.getD q undef]) ?_ hdf hR
  simp [results, h]

theorem low_mod {w W w2 : World} {S : List Nat} (h : Mod [] w W) (hl : Low (w.heap.size + 1) S W w2) (hS : ∀ k ∈ S, w.heap.size ≤ k) : Mod [] w w2 :=
  ⟨hl.os.trans h.os, hl.tape.trans h.tape, hl.output.trans h.output, Nat.le_trans h.size hl.size, fun k hk _ => (hl.block k (by omega) (fun hm => by have := hS k hm; omega)).trans (h.block k hk (by simp))⟩

theorem linesG_size : ∀ (l acc x : Bs), x ∈ linesG acc l → x.length ≤ acc.length + l.length
  | [], acc, x, h => by rw [linesG] at h; simp at h; subst h; simp
  | c :: t, acc, x, h => by
    rw [linesG] at h
    by_cases hc : c = 10
    · rw [if_pos hc] at h
      rcases List.mem_cons.1 h with rfl | h
      · simp
      · have := linesG_size t [] x h; simp at this ⊢; omega
    · rw [if_neg hc] at h
      have := linesG_size t (acc ++ [c]) x h; simp at this ⊢; omega

def ParsePost (w : World) (text : Bs) (e : Ending) (w' : World) : Prop :=
  match parseP text with
  | .error f => ∃ v, e = .returned (.tuple #[.slice none 0 0, v]) ∧ MisIs w w' f v ∧ Mod [] w w'
  | .ok l => ∃ v rs, e = .returned (.tuple #[v, .nilIface]) ∧ rs.map (·.1) = l ∧ Rich w' w.heap.size v rs ∧ Lens rs ∧ rs.length ≤ 20000 ∧ Mod [] w w'
theorem parse_bad {w w' : World} {text : Bs} {f : Fault} {e : Ending} (h : parseP text = .error f) (h2 : ∃ v, e = .returned (.tuple #[.slice none 0 0, v]) ∧ MisIs w w' f v ∧ Mod [] w w') : ParsePost w text e w' := by
  unfold ParsePost; rw [h]; exact h2
theorem parse_good {w w' : World} {text : Bs} {l : List StepS} {e : Ending} (h : parseP text = .ok l) (h2 : ∃ v rs, e = .returned (.tuple #[v, .nilIface]) ∧ rs.map (·.1) = l ∧ Rich w' w.heap.size v rs ∧ Lens rs ∧ rs.length ≤ 20000 ∧ Mod [] w w') : ParsePost w text e w' := by
  unfold ParsePost; rw [h]; exact h2

set_option maxRecDepth 100000 in
set_option maxHeartbeats 4000000 in
theorem parse_long (w : World) (D : ByteArray) (hD : 65536 < D.size) :
    Calls Tryz.prog 11 #[.string D] w (ParsePost w D.data.toList) := by
  have hE : parseP D.data.toList = .error (1, 0, 202) := by
    unfold parseP; rw [if_pos (by rw [← Lib.size_eq]; exact hD)]
  have HE := Lib.hid hE
  clear hE
  have hD2 : (65536 : Int) < (D.size : Int) := by omega
  go_enter Tryz.func11, Tryz.ntmps11
  go_wp2
  refine ret_tmps Tryz.results11 rfl ?_
  exact parse_bad HE.out ⟨_, rfl, ⟨w.heap.size, rfl, Nat.le_refl _, Blk.new _ _ _⟩, (Mod.refl _ _).alloc _⟩

/-- While the lines are read: i of them are behind. -/
def Lining (w : World) (g p : Nat) (ls : List ByteArray) (i : Nat) (wx : World) : Prop :=
  ∃ rs rep, Par wx (g + 1) p rs rep ∧ Blk wx g 9 (ls.map Value.string).toArray ∧ Mod [] w wx ∧ i ≤ ls.length ∧
    linesP 1 (ls.map (·.data.toList)) ⟨[], none⟩ = linesP (i + 1) ((ls.drop i).map (·.data.toList)) ⟨rs.map (·.1), rep⟩

set_option maxRecDepth 100000 in
set_option maxHeartbeats 4000000 in
theorem parse_short (w : World) (D : ByteArray) (m : Int) (hD : D.size ≤ 65536) (hg : errTypeIs w) (hm : w.cell? ⟨3, 0, none⟩ = some (.int .i64 m)) :
    Calls Tryz.prog 11 #[.string D] w (ParsePost w D.data.toList) := by
  have hD2 : ¬ (65536 : Int) < (D.size : Int) := by omega
  have H := Lib.hid (And.intro hg hm)
  clear hg hm
  go_enter Tryz.func11, Tryz.ntmps11
  go_wp2_with fail
  refine (Tryz.strings_Split D ⟨#[10]⟩ m w (by omega) H.out.2 (by decide)).mono ?_
  rintro e w1 ⟨rfl, hw1⟩
  obtain ⟨ls, hls⟩ : ∃ ls, ls = Lib.splitB ⟨#[10]⟩ 0 (Lib.countB D ⟨#[10]⟩) D := ⟨_, rfl⟩
  have hlen : Lib.countB D ⟨#[10]⟩ + 1 = ls.length := by rw [hls, Lib.splitB_all _ (by decide) 0 _ D rfl]
  rw [hlen]
  rw [← hls] at hw1
  have hp1 : lines D.data.toList = ls.map (·.data.toList) := by rw [hls, splitB_lines]
  have hE : parseP D.data.toList = match linesP 1 (ls.map (·.data.toList)) ⟨[], none⟩ with
      | .error e => .error e
      | .ok st => match st.rep with
        | some _ => .error (endOf (ls.map (·.data.toList)))
        | none => .ok st.l := by
    unfold parseP
    rw [if_neg (by rw [← Lib.size_eq]; omega), hp1]
    cases linesP 1 (ls.map (·.data.toList)) ⟨[], none⟩ with
    | error e => rfl
    | ok st => cases h : st.rep <;> simp [h]
  have hll : 1 ≤ ls.length := by omega
  have hl2 : ls.length ≤ 65537 := by
    have := Lib.countB_le ⟨#[10]⟩ (by decide) D.size D (Nat.le_refl _); omega
  have hmw1 : Mod [] w w1 := by rw [hw1]; exact (Mod.refl _ _).alloc _
  have hb1 : Blk w1 w.heap.size 9 (ls.map Value.string).toArray := by rw [hw1]; exact Blk.new _ _ _
  have hs1 : w1.heap.size = w.heap.size + 1 := by rw [hw1]; simp
  have HXS := Lib.hid (show ∀ x ∈ ls, x.size ≤ 1099511627776 from fun x hx => by
    have h1 : x.data.toList ∈ lines D.data.toList := by rw [hp1]; exact List.mem_map_of_mem hx
    have h2 := linesG_size D.data.toList [] _ h1
    rw [← Lib.size_eq, ← Lib.size_eq] at h2
    simp at h2; omega)
  have HE := Lib.hid (And.intro hE hp1)
  have H1 := Lib.hid (And.intro hmw1 (And.intro hb1 hs1))
  clear hE hp1 hw1 hls hmw1 hb1 hs1 hlen
  go_wp2
  have hL0 : Lining w w.heap.size w1.heap.size ls 0 (w1.alloc (Obj.cells #[Value.slice none 0 0, Value.int IntKind.i64 (-1), Value.int IntKind.i64 0] 99)) := by
    obtain ⟨hmw1, hb1, hs1⟩ := H1.out
    refine ⟨[], none, ⟨_, _, _, Blk.new _ _ _, rfl, ⟨⟨rfl, .inl ⟨rfl, rfl⟩⟩, by simp, by simp [ownW], by simp [ownK]⟩, (by intro x hx; cases hx), by simp, by simp; omega⟩, hb1.alloc _, hmw1.alloc _, Nat.zero_le _, by simp⟩
  have HL0 := Lib.hid hL0
  clear hL0
  go_loopg [21] ls.length (fun gk s21 wx => ∃ i : Nat, s21 = .int .i64 i ∧ i + gk = ls.length ∧ Lining w w.heap.size w1.heap.size ls i wx)
  case atStart => exact ⟨0, rfl, by omega, HL0.out⟩
  case round =>
    obtain ⟨i, rfl, hik, rs, rep, hpar, hb, hmw, hil, hat⟩ := hrel
    by_cases hend : i = ls.length
    · have hlt : decide ((i : Int) < (ls.length : Int)) = false := by rw [decide_eq_false_iff_not]; omega
      have HP := Lib.hid (And.intro hpar (And.intro hb (And.intro hmw hat)))
      have hst : linesP 1 (ls.map (·.data.toList)) ⟨[], none⟩ = .ok ⟨rs.map (·.1), rep⟩ := by
        rw [hat, hend, List.drop_length]; rfl
      have HST := Lib.hid hst
      obtain ⟨v, bg, ot, hbp, hrep, hrich, hlens, hlen, hls3⟩ := hpar
      have hpl := hbp.lt
      have hc0 := hbp.cell 0
      have hc1 := hbp.cell 1
      have hc2 := hbp.cell 2
      have hcf0 := hbp.frozen 0
      have hcf1 := hbp.frozen 1
      have hcf2 := hbp.frozen 2
      simp at hc0 hc1 hc2
      have HV := Lib.hid (And.intro hrich (And.intro hlens hmw))
      clear hb hmw hat hst hbp hrich hlens
      rcases rep with _ | ⟨b, k⟩
      · have hbg : bg = -1 := hrep
        subst hbg
        clear hrep
        go_wp2
        refine ret_tmps Tryz.results11 rfl ?_
        obtain ⟨hrich, hlens, hmw⟩ := HV.out
        exact parse_good (l := rs.map (·.1)) (by rw [HE.out.1, HST.out]) ⟨v, rs, rfl, rfl, ⟨owns_mono hrich.1 (by omega), fun x hx => ⟨owns_mono (hrich.2.1 x hx).1 (by omega), owns_mono (hrich.2.1 x hx).2 (by omega)⟩, hrich.2.2⟩, hlens, hlen, hmw⟩
      · have hbg : (0 : Int) ≤ bg := by have := hrep.1; omega
        clear hrep
        obtain ⟨last, hlast⟩ : ∃ x, ls[ls.length - 1]? = some x := ⟨_, List.getElem?_eq_getElem (by omega)⟩
        have hend2 : endOf (ls.map (·.data.toList)) = (ls.length, last.size, 204) := by
          unfold endOf
          rw [List.getLastD_eq_getLast?, List.getLast?_eq_getElem?, List.getElem?_map, List.length_map, hlast, Lib.size_eq]
          rfl
        have HN := Lib.hid (And.intro hlast hend2)
        clear hlast hend2
        go_wp2_with fail
        refine (ends_walk wr w.heap.size (ls.length - 1) ls last (by omega) HN.out.1 HP.out.2.1 (by omega)).mono ?_
        rintro e w3 ⟨v3, rfl, ⟨mb, hv, hmb, hmk⟩, hm3⟩
        have HR := Lib.hid (And.intro hv (And.intro hmb (And.intro hmk hm3)))
        clear hv hmb hmk hm3
        go_wp2
        refine ret_tmps Tryz.results11 rfl ?_
        obtain ⟨hv, hmb, hmk, hm3⟩ := HR.out
        have := HV.out.2.2.size
        exact parse_bad (f := (ls.length, last.size, 204)) (by rw [HE.out.1, HST.out, ← HN.out.2]) ⟨v3, rfl, ⟨mb, hv, by omega, hmk⟩, HV.out.2.2.trans hm3⟩
    · have hlt : decide ((i : Int) < (ls.length : Int)) = true := by rw [decide_eq_true_iff]; omega
      obtain ⟨x, hx⟩ : ∃ x, ls[i]? = some x := ⟨_, List.getElem?_eq_getElem (by omega)⟩
      have hc : wr.cell? ⟨w.heap.size, i, none⟩ = some (.string x) := by
        rw [hb.cell i]; simp [hx]
      have HP := Lib.hid (And.intro hpar (And.intro hb (And.intro hmw (And.intro hat hx))))
      clear hpar hb hmw hat hx
      go_wp2_with fail
      have hmA : Mod [] wr (wr.alloc (Obj.cells #[Value.string x, Value.int IntKind.i64 0] 103)) := (Mod.refl _ _).alloc _
      have hRd : RdT (wr.alloc (Obj.cells #[Value.string x, Value.int IntKind.i64 0] 103)) wr.heap.size x.size (toks x.data.toList) := ⟨x, 0, Blk.new _ _ _, Nat.zero_le _, rfl, rfl⟩
      have hxs : x.size ≤ 1099511627776 := HXS.out x (List.mem_of_getElem? HP.out.2.2.2.2)
      refine (line_walk _ (w.heap.size + 1) w1.heap.size wr.heap.size x.size (toks x.data.toList) rs rep m (HP.out.1.typed hmA (by simp) (by simp)) hRd hxs (hmA.cell (HP.out.2.2.1.cell H.out.2 (by simp)) (by simp))).mono ?_
      rintro e w2 hpost
      unfold LinePost at hpost
      have hstep : linesP 1 (ls.map (·.data.toList)) ⟨[], none⟩ = match lineP x.size (toks x.data.toList) ⟨rs.map (·.1), rep⟩ with
          | .error e => .error (i + 1, e.1, e.2)
          | .ok st => linesP (i + 2) ((ls.drop (i + 1)).map (·.data.toList)) st := by
        rw [HP.out.2.2.2.1]
        have hd : ls.drop i = x :: ls.drop (i + 1) := by
          have hil2 : i < ls.length := by omega
          rw [List.drop_eq_getElem_cons hil2]
          have := HP.out.2.2.2.2
          rw [List.getElem?_eq_getElem hil2] at this
          injection this with this; rw [this]
        rw [hd, List.map_cons, linesP, ← Lib.size_eq]
        rfl
      rcases hl : lineP x.size (toks x.data.toList) ⟨rs.map (·.1), rep⟩ with f | st
      · rw [hl] at hpost hstep
        obtain ⟨v, rfl, ⟨fb, rfl, hfb, hfk⟩, hlow⟩ := hpost
        have hs1 := H1.out.2.2
        have hsw := HP.out.2.2.1.size
        have hmw2 : Mod [] w w2 := low_mod (HP.out.2.2.1.trans hmA) hlow (by intro k hk; simp at hk; omega)
        have HQ := Lib.hid (And.intro hfk (And.intro hmw2 hstep))
        clear hfk hfb hmw2 hstep hlow hmA hRd hl
        go_wp2_with fail
        refine (misread_walk w2 (i + 1) fb f (HQ.out.2.1.cell H.out.1 (by simp)) HQ.out.1).mono ?_
        rintro e w3 ⟨v, rfl, ⟨mb, hv, hmb, hmk⟩, hm3⟩
        have HR := Lib.hid (And.intro hv (And.intro hmb (And.intro hmk hm3)))
        clear hv hmb hmk hm3
        go_wp2
        refine ret_tmps Tryz.results11 rfl ?_
        obtain ⟨hv, hmb, hmk, hm3⟩ := HR.out
        have := HQ.out.2.1.size
        exact parse_bad (f := (i + 1, f.1, f.2)) (by rw [HE.out.1, HQ.out.2.2]) ⟨v, rfl, ⟨mb, hv, by omega, hmk⟩, HQ.out.2.1.trans hm3⟩
      · rw [hl] at hpost hstep
        obtain ⟨rfl, ⟨rs', hrs, hpar'⟩, hlow⟩ := hpost
        have hs1 := H1.out.2.2
        have hsw := HP.out.2.2.1.size
        have hmw2 : Mod [] w w2 := low_mod (HP.out.2.2.1.trans hmA) hlow (by intro k hk; simp at hk; omega)
        have hgl := HP.out.2.1.lt
        have hb2 : Blk w2 w.heap.size 9 (ls.map Value.string).toArray := (hlow.block w.heap.size (by omega) (by simp; omega)).trans (hmA.blk HP.out.2.1 (by simp))
        have HQ := Lib.hid (And.intro hpar' (And.intro hmw2 (And.intro hb2 (And.intro hstep hrs))))
        clear hpar' hmw2 hstep hlow hmA hRd hl hb2 hrs hs1
        go_wp2
        go_roundg (ls.length - (i + 1))
        case measure => omega
        case rel =>
          obtain ⟨hpar', hmw2, hb2, hstep, hrs⟩ := HQ.out
          exact ⟨i + 1, by push_cast; rfl, by omega, rs', st.rep, hpar', hb2, hmw2, by omega, by rw [hstep, hrs]⟩

theorem parse_walk (w : World) (D : ByteArray) (m : Int) (hg : errTypeIs w) (hm : w.cell? ⟨3, 0, none⟩ = some (.int .i64 m)) :
    Calls Tryz.prog 11 #[.string D] w (ParsePost w D.data.toList) := by
  by_cases h : 65536 < D.size
  · exact parse_long w D h
  · exact parse_short w D m (by omega) hg hm
end Go.Proofs.YtjieelmbgfnllaaGreatDoor

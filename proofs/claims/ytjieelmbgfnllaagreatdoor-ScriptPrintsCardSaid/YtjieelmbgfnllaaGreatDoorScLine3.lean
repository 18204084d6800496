/- What line does at any other word, and what it does whole. Conditions: a line of at most 2^40 bytes; internal/bytealg's variable MaxLen holds an integer. -/
import Derived.Test.YtjieelmbgfnllaaGreatDoorScLine2
namespace Go.Proofs.YtjieelmbgfnllaaGreatDoor
open Go.RowKit Scr

theorem lineP_other (n : Nat) (t : Tok) (ts : List Tok) (l : List StepS) (rep : Option (Nat × Nat)) (hk : t.kind = 0) (h1 : t.text ≠ wRepeat) (h2 : t.text ≠ wEnd) : lineP n (t :: ts) ⟨l, rep⟩ =
    if t.text ∉ names then .error (t.pos, 200) else if maxSteps ≤ l.length then .error (t.pos, 203) else (stepP n t.text ts).map fun s => ⟨l ++ [s], rep⟩ := by
  unfold lineP
  simp only []
  rw [if_neg (by rw [hk]; simp), if_neg h1, if_neg h2]

theorem toksG_size : ∀ (l : Bs) (p k : Nat), ∀ t ∈ toksG l p k, t.kind = 0 → t.text.length ≤ l.length
  | [], _, _, t, h, _ => by rw [toksG] at h; cases h
  | _ :: l, p, k + 1, t, h, h0 => by rw [toksG] at h; have := toksG_size l (p + 1) k t h h0; simp only [List.length_cons]; omega
  | c :: l, p, 0, t, h, h0 => by
    rw [toksG] at h
    split at h
    · have := toksG_size l (p + 1) 0 t h h0; simp only [List.length_cons]; omega
    · split at h
      · cases h
      · split at h
        · cases hq : quoteL l with
          | none => rw [hq] at h; simp at h; subst h; simp at h0
          | some x =>
            rw [hq] at h
            rcases List.mem_cons.1 h with rfl | h
            · simp at h0
            · have := toksG_size l (p + 1) x.2 t h h0; simp only [List.length_cons]; omega
        · rcases List.mem_cons.1 h with rfl | h
          · exact (List.takeWhile_sublist _).length_le
          · have := toksG_size l (p + 1) _ t h h0; simp only [List.length_cons]; omega
theorem RdT.wordLen {w : World} {r n : Nat} {t : Tok} {ts : List Tok} (h : RdT w r n (t :: ts)) (hk : t.kind = 0) : t.text.length ≤ n := by
  obtain ⟨line, a, _, _, hn, hl⟩ := h
  have := toksG_size (line.data.toList.drop a) a 0 t (by unfold left at hl; rw [hl]; exact List.mem_cons_self ..) hk
  rw [List.length_drop] at this
  have h2 : line.data.toList.length = line.size := (Lib.size_eq _).symm
  omega

theorem RepIs.more {bg ot : Int} {n : Nat} {rep : Option (Nat × Nat)} (h : RepIs bg ot n rep) : RepIs bg ot (n + 1) rep := by
  rcases rep with _ | ⟨b, k⟩
  · exact h
  · exact ⟨h.1, h.2.1, Nat.le_succ_of_le h.2.2.1, h.2.2.2⟩

section
variable (w : World) (lo p r n : Nat) (t : Tok) (ts : List Tok) (rs : List RStep) (rep : Option (Nat × Nat)) (D : ByteArray) (m : Int)

theorem spaced_list (hD : D = ⟨t.text.toArray⟩) : (((⟨#[32]⟩ : ByteArray) ++ D) ++ (⟨#[32]⟩ : ByteArray)).data.toList = 32 :: (t.text ++ [32]) := by
  rw [hD]; simp

set_option maxRecDepth 100000 in
set_option maxHeartbeats 4000000 in
theorem line_other (hp : Par w lo p rs rep) (h : RdT w r n (t :: ts)) (hn : n ≤ 1099511627776) (hk : t.kind = 0) (ht1 : t.text ≠ wRepeat) (ht2 : t.text ≠ wEnd) (hD : D = ⟨t.text.toArray⟩) (hm : w.cell? ⟨3, 0, none⟩ = some (.int .i64 m)) :
    Calls Tryz.prog 33 #[.pointer (some ⟨p, 0, none⟩), .pointer (some ⟨r, 0, none⟩)] w (LinePost w lo p r n (t :: ts) (rs.map (·.1)) rep) := by
  have hkk : ((t.kind : Int) == 0) = true := by rw [hk]; rfl
  have hx1 : (D.toList == [114, 101, 112, 101, 97, 116]) = false := by rw [tokcmp t D hD, beq_eq_false_iff_ne]; exact ht1
  have hx2 : (D.toList == [101, 110, 100]) = false := by rw [tokcmp t D hD, beq_eq_false_iff_ne]; exact ht2
  have HE := Lib.hid (lineP_other n t ts (rs.map (·.1)) rep hk ht1 ht2)
  have hlen20 := hp
  have HC := Lib.hid (show Lib.contains [32, 119, 114, 105, 116, 101, 32, 115, 121, 110, 99, 32, 103, 101, 116, 32, 115, 99, 97, 110, 32, 115, 110, 97, 112, 32, 114, 101, 108, 101, 97, 115, 101, 32, 100, 111, 32, 116, 105, 99, 107, 32, 102, 97, 108, 108, 32, 97, 114, 109, 32, 102, 97, 105, 108, 32] (((⟨#[32]⟩ : ByteArray) ++ D) ++ (⟨#[32]⟩ : ByteArray)).data.toList = decide (t.text ∈ names) from by
    rw [spaced_list t D hD]; exact contains_names _ (h.word hk))
  have hDs : D.size ≤ 1099511627776 := by
    have := h.wordLen hk
    rw [hD]; simp [ByteArray.size]; omega
  have hr3 : 3 ≠ r := by
    rintro rfl
    obtain ⟨line, al, hbr, _⟩ := h
    have := hbr.cell 0
    rw [hm] at this; simp at this
  have H := Lib.hid (And.intro hp (And.intro h (And.intro hD (And.intro hk hm))))
  clear hlen20 h hD hk hm ht1 ht2
  have hrp := hp.ne H.out.2.1
  obtain ⟨v, bg, ot, hb, hrep, hrich, hlens, hlen, hls⟩ := hp
  have hpl := hb.lt
  have HB := Lib.hid hb
  obtain ⟨A, cap, g, rfl, hcap, hg, hgp, _⟩ := rich_shape hrich hb H.out.2.1 hrp
  clear hb hrich hlens hrep
  go_enter Tryz.func33, Tryz.ntmps33
  go_wp2_with fail
  refine (next_tok w r n t ts D H.out.2.2.1 (by rw [H.out.2.2.2.1]; decide) H.out.2.1 hn).mono ?_
  rintro e w1 ⟨rfl, hrt, hm1⟩
  have H2 := Lib.hid (And.intro hrt hm1)
  clear hrt hm1
  go_wp2_with fail
  generalize hW : (w1.alloc (Obj.cells #[Value.int IntKind.i64 t.kind, Value.int IntKind.i64 t.pos, Value.string D] 145)).alloc (Obj.cells #[Value.int IntKind.i64 t.pos, Value.int IntKind.i64 200] 169) = W
  have hmW : Mod [] w1 W := by rw [← hW]; exact ((Mod.refl _ _).alloc _).alloc _
  have hWT : Blk W w1.heap.size 145 #[Value.int IntKind.i64 t.kind, Value.int IntKind.i64 t.pos, Value.string D] := by rw [← hW]; exact (Blk.new _ _ _).alloc _
  have hWF : Blk W (w1.heap.size + 1) 169 #[Value.int IntKind.i64 t.pos, Value.int IntKind.i64 200] := by rw [← hW]; exact Blk.newAt _ _ _ (by simp)
  have hMW : Mod [r] w W := H2.out.2.trans (hmW.mono (by simp))
  have hbW := hMW.blk HB.out (by simpa using Ne.symm hrp)
  have hWl := hbW.lt
  have hc0 := hbW.cell 0
  have hc1 := hbW.cell 1
  have hc2 := hbW.cell 2
  have hcf0 := hbW.frozen 0
  have hcf1 := hbW.frozen 1
  have hcf2 := hbW.frozen 2
  simp at hc0 hc1 hc2
  have hd0 := hWT.cell 0
  have hd1 := hWT.cell 1
  have hd2 := hWT.cell 2
  have hdf0 := hWT.frozen 0
  have hdf1 := hWT.frozen 1
  have hdf2 := hWT.frozen 2
  simp at hd0 hd1 hd2
  have hWTl := hWT.lt
  have hs1 := H2.out.2.size
  have H3 := Lib.hid (show Par W lo p rs rep ∧ RdT W r n ts ∧ Mod [r] w W ∧ Blk W p 99 #[.slice A rs.length cap, .int .i64 bg, .int .i64 ot] ∧ Blk W (w1.heap.size + 1) 169 #[Value.int IntKind.i64 t.pos, Value.int IntKind.i64 200] from ⟨(H.out.1.reader H.out.2.1 hrp H2.out.2).typed hmW (by simp) (by simp), H2.out.1.frame hmW (by simp), hMW, hbW, hWF⟩)
  have H3m := Lib.hid (hMW.cell H.out.2.2.2.2 (by simpa using hr3))
  clear hW hmW hWT hWF hMW hbW
  refine Calls.mono (?_ : Calls Tryz.prog 107 _ W (fun e w' => e = .returned (.bool (decide (t.text ∈ names))) ∧ w' = W)) ?_
  · refine (Tryz.strings_Contains _ _ m W ?hs H3m.out).mono ?_
    case hs => decide
    rintro e w' ⟨rfl, rfl⟩
    exact ⟨congrArg (fun b => Ending.returned (.bool b)) HC.out, rfl⟩
  rintro e w2 ⟨rfl, rfl⟩
  by_cases hin : t.text ∈ names
  · have hdec : decide (t.text ∈ names) = true := decide_eq_true hin
    have HI := Lib.hid hin
    clear hin
    by_cases hmany : 20000 ≤ rs.length
    · have hge : (20000 : Int) ≤ (rs.length : Int) := by omega
      go_wp2
      go_ret
      refine line_bad (f := (t.pos, 203)) (by rw [HE.out, if_neg (fun h => h HI.out), if_pos (by unfold maxSteps; simpa using hmany)]) ⟨_, rfl, ⟨w2.heap.size, rfl, by have := H3.out.2.2.1.size; omega, Blk.new _ _ _⟩, (H3.out.2.2.1.alloc _).low hls (by simp)⟩
    · have hlt : (rs.length : Int) < 20000 := by omega
      have hmany2 : ¬ maxSteps ≤ (rs.map (·.1)).length := by unfold maxSteps; simp; omega
      have HE2 := Lib.hid (show lineP n (t :: ts) ⟨rs.map (·.1), rep⟩ = (stepP n t.text ts).map fun s => ⟨rs.map (·.1) ++ [s], rep⟩ from by rw [HE.out, if_neg (fun h => h HI.out), if_neg hmany2])
      have hDl : D.data.toList = t.text := by rw [H.out.2.2.1]
      have HW := Lib.hid (step_walk w2 r n ts D t.text H3.out.2.1 hn hDl)
      clear hmany hmany2 hDl
      rcases hst : stepP n t.text ts with f | s
      · have HS := Lib.hid hst
        clear hst
        go_wp2_with fail
        refine HW.out.mono ?_
        rintro e w4 hpost
        unfold StepPost at hpost
        rw [HS.out] at hpost
        obtain ⟨cs, v4, hcs, hall, rfl, ⟨fb, rfl, hfb, hfk⟩, hm4⟩ := hpost
        have H5 := Lib.hid (And.intro hcs (And.intro hall (And.intro hfb (And.intro hfk hm4))))
        clear hcs hall hfb hfk hm4
        go_wp2_with (first | (refine wpList_store_step rfl _ _ rfl w4.heap.size cs rfl rfl zeroStep (Blk.new _ _ _) H5.out.1 (by rw [H5.out.1]; rfl) H5.out.2.1 ?_; intro W4 hs4 hB4 hM4; replace hM4 := Mod.then ((Mod.refl [] w4).alloc _) hM4 (by simp); have H6 := Lib.hid hM4; clear hM4 hB4))
        go_ret
        obtain ⟨hcs, hall, hfb, hfk, hm4⟩ := H5.out
        have hs3 := H3.out.2.2.1.size
        exact line_bad (f := f) (by rw [HE2.out, HS.out]; rfl) ⟨_, rfl, ⟨fb, rfl, by omega, H6.out.blk hfk (by simp)⟩, ((H3.out.2.2.1.trans hm4).trans (H6.out.mono (by simp))).low hls (by simp)⟩
      · have HS := Lib.hid hst
        clear hst
        go_wp2_with fail
        refine HW.out.mono ?_
        rintro e w4 hpost
        unfold StepPost at hpost
        rw [HS.out] at hpost
        obtain ⟨wv, kv, rfl, hwv, hkv, hm4⟩ := hpost
        obtain ⟨is, hi, hz0, hz1, hz2⟩ := info_parts info_step
        have HJ := Lib.hid (And.intro hi (And.intro hz0 (And.intro hz1 hz2)))
        clear hi hz0 hz1 hz2
        obtain ⟨A3, k3, c3, rfl⟩ := own_slice hwv
        obtain ⟨A5, k5, c5, rfl⟩ := own_slice hkv
        have hall : (stepCells s (.slice A3 k3 c3) (.slice A5 k5 c5)).all (·.oneCell') = true := all_oneCell_toArray (rows_one (x := (s, .slice A3 k3 c3, .slice A5 k5 c5)) hwv hkv)
        have H5 := Lib.hid (And.intro hwv (And.intro hkv (And.intro hm4 hall)))
        clear hwv hkv hm4 hall
        go_wp2_with (first | (refine wpList_store_step rfl _ _ rfl w4.heap.size (stepCells s (.slice A3 k3 c3) (.slice A5 k5 c5)) rfl rfl zeroStep (Blk.new _ _ _) rfl rfl H5.out.2.2.2 ?_; intro W4 hs4 hB4 hM4; replace hM4 := Mod.then ((Mod.refl [] w4).alloc _) hM4 (by simp); have H6 := Lib.hid (And.intro hB4 hM4); clear hM4 hB4))
        obtain ⟨hB4, hM4⟩ := H6.out
        obtain ⟨hwv, hkv, hm4, _⟩ := H5.out
        have hMr : Mod [r] w2 W4 := hm4.trans (hM4.mono (by simp))
        have hb4 := hMr.blk H3.out.2.2.2.1 (by simpa using Ne.symm hrp)
        have hpar4 := H3.out.1.reader H3.out.2.1 hrp hMr
        obtain ⟨v', bg', ot', hb', hrep', hrich', hlens', hlen', hls'⟩ := hpar4
        have hv : v' = .slice A rs.length cap ∧ bg' = bg ∧ ot' = ot := by
          have h0 := hb'.cell 0
          have h1 := hb'.cell 1
          have h2 := hb'.cell 2
          rw [hb4.cell 0] at h0
          rw [hb4.cell 1] at h1
          rw [hb4.cell 2] at h2
          exact ⟨by simpa using h0.symm, by simpa using h1.symm, by simpa using h2.symm⟩
        obtain ⟨rfl, rfl, rfl⟩ := hv
        have hB4' : Blk W4 w4.heap.size 69 #[.int .i64 s.kind, .int .i64 s.a, .int .i64 s.b, .int .i64 s.c, .int .i64 s.op.kind, .slice A3 k3 c3, .bool s.op.sync, .string ⟨s.op.key.toArray⟩, .string ⟨s.op.til.toArray⟩, .int .i64 s.op.n, .int .i64 s.op.snap, .slice A5 k5 c5] := hB4
        clear hc0 hc1 hc2 hcf0 hcf1 hcf2 hd0 hd1 hd2 hdf0 hdf1 hdf2
        have hq0 := hB4'.cell 0
        have hq1 := hB4'.cell 1
        have hq2 := hB4'.cell 2
        have hq3 := hB4'.cell 3
        have hq4 := hB4'.cell 4
        have hq5 := hB4'.cell 5
        have hq6 := hB4'.cell 6
        have hq7 := hB4'.cell 7
        have hq8 := hB4'.cell 8
        have hq9 := hB4'.cell 9
        have hq10 := hB4'.cell 10
        have hq11 := hB4'.cell 11
        have hqf0 := hB4'.frozen 0
        have hqf1 := hB4'.frozen 1
        have hqf2 := hB4'.frozen 2
        have hqf3 := hB4'.frozen 3
        have hqf4 := hB4'.frozen 4
        have hqf5 := hB4'.frozen 5
        have hqf6 := hB4'.frozen 6
        have hqf7 := hB4'.frozen 7
        have hqf8 := hB4'.frozen 8
        have hqf9 := hB4'.frozen 9
        have hqf10 := hB4'.frozen 10
        have hqf11 := hB4'.frozen 11
        simp at hq0 hq1 hq2 hq3 hq4 hq5 hq6 hq7 hq8 hq9 hq10 hq11
        have hd0 := hb'.cell 0
        have hdf0 := hb'.frozen 0
        simp at hd0
        have hBl := hB4.lt
        have hpW := hb'.lt
        have hlW := hls'
        clear hs4
        have H7 := Lib.hid (And.intro hB4 (And.intro hM4 (And.intro hwv (And.intro hkv (And.intro hm4 (And.intro hMr (And.intro hb' (And.intro hrep' (And.intro hrich' (And.intro hlens' hls'))))))))))
        clear hB4 hB4' hM4 hwv hkv hm4 hMr hb' hb4 hrep' hrich' hlens' hls'
        go_region_law (refine step_append_keep rfl _ _ 22 rfl lo 69 is (.agg zeroStep) 12 144 Tryz.underlying22 HJ.out.1 HJ.out.2.1 HJ.out.2.2.1 HJ.out.2.2.2 rfl (by decide) _ rs.length (rs.flatMap rowOf) rfl (((H7.out.2.2.2.2.2.2.2.2.1.1).alloc _).drew) ⟨W4.heap.size, 0, none⟩ 1 1 (rowOf (s, .slice A3 k3 c3, .slice A5 k5 c5)) rfl rfl (cells_new _ _ _) (by intro u hu; simp [rowOf] at hu; rcases hu with rfl | rfl | rfl | rfl | rfl | rfl | rfl | rfl | rfl | rfl | rfl | rfl <;> rfl) (by unfold maxLen; omega) (by omega) (by simp; omega) ?_; intro A7 k7 c7 w7 hown7 hg7 hkeep7; have hb7 := (show Blk w7 p 99 _ from (hg7.block p (by simp; omega) (fun e => own_blk_ne H7.out.2.2.2.2.2.2.2.2.1.1 H7.out.2.2.2.2.2.2.1 (by decide) e.symm)).trans (H7.out.2.2.2.2.2.2.1.alloc _).drew); have h75 := hb7.cell 0; have h75f := hb7.frozen 0; simp at h75; have H8 := Lib.hid (And.intro hown7 (And.intro hg7 hb7)); clear hown7 hg7 hkeep7 hb7)
        all_goals
          go_wp2
          go_ret
          obtain ⟨hB4, hM4, hwv, hkv, hm4, hMr, hb', hrep', hrich', hlens', hls'⟩ := H7.out
          obtain ⟨hown7, hg7, hb7⟩ := H8.out
          have hMV : Mod [] W4 ((W4.alloc (Obj.cells #[.int .i64 s.kind, .int .i64 s.a, .int .i64 s.b, .int .i64 s.c, .int .i64 s.op.kind, .slice A3 k3 c3, .bool s.op.sync, .string ⟨s.op.key.toArray⟩, .string ⟨s.op.til.toArray⟩, .int .i64 s.op.n, .int .i64 s.op.snap, .slice A5 k5 c5] 69)).drew) := ((Mod.refl _ _).alloc _).drew
          obtain ⟨v2, bg2, ot2, hb2, hrep2, hrich2, hlens2, hlen2, hls2⟩ := H3.out.1
          have hv2 : v2 = .slice A rs.length cap := by
            have h0 := hb2.cell 0
            rw [H3.out.2.2.2.1.cell 0] at h0
            simpa using h0.symm
          subst hv2
          have hm44 : Mod [] w4 _ := hM4.trans hMV
          have hpush := Rich.push (x := (s, .slice A3 k3 c3, .slice A5 k5 c5)) hrich2 (hrich'.new hMV) hg7 hown7 (owns_mod hwv hm44 (by simp)) (owns_mod hkv hm44 (by simp)) hls2
          have hMp : Mod [p] w7 (w7.setCell ⟨p, 0, none⟩ (.slice A7 k7 c7)) := (Mod.refl _ _).setCell (by simp) _
          have hs7 := hg7.size
          have hlow : Low lo [p, r] w ((W4.alloc (Obj.cells #[.int .i64 s.kind, .int .i64 s.a, .int .i64 s.b, .int .i64 s.c, .int .i64 s.op.kind, .slice A3 k3 c3, .bool s.op.sync, .string ⟨s.op.key.toArray⟩, .string ⟨s.op.til.toArray⟩, .int .i64 s.op.n, .int .i64 s.op.snap, .slice A5 k5 c5] 69)).drew) := ((H3.out.2.2.1.trans hMr).trans (hMV.mono (by simp))).low hls (by simp)
          have hlow7 := (hlow.grown hg7 (fun k hk => own_ge hrich'.1 hk) (by have := hMV.size; omega)).setCell (p := ⟨p, 0, none⟩) (by simp) (.slice A7 k7 c7)
          refine line_good (st := ⟨rs.map (·.1) ++ [s], rep⟩) (by rw [HE2.out, HS.out]; rfl) ⟨rfl, ⟨rs ++ [(s, .slice A3 k3 c3, .slice A5 k5 c5)], by simp, .slice A7 k7 c7, _, _, hb7.set_ 0 _, ?_, ?_, ?_, by simp; omega, ?_⟩, hlow7⟩
          · rw [List.length_append]; exact hrep'.more
          · refine hpush.typed hMp (fun g hg => ?_)
            simp at hg; subst hg
            exact ⟨_, _, hb7, by decide, by decide, by decide⟩
          · intro y hy
            rcases List.mem_append.1 hy with hy | hy
            · exact hlens' y hy
            · simp at hy; subst hy
              have h1 := stepP_len HS.out
              have h2 := H3.out.2.1.len
              unfold lenMax
              exact ⟨by have := h1.1; show s.op.writes.length ≤ _; omega, by have := h1.2; show s.keep.length ≤ _; omega⟩
          · have := hMV.size; simp; omega
  · have hdec : decide (t.text ∈ names) = false := decide_eq_false hin
    have HI := Lib.hid hin
    clear hin
    go_wp2
    go_ret
    exact line_bad (by rw [HE.out, if_pos HI.out]) ⟨_, rfl, ⟨w1.heap.size + 1, rfl, by omega, H3.out.2.2.2.2⟩, H3.out.2.2.1.low hls (by simp)⟩

theorem line_walk (hp : Par w lo p rs rep) (h : RdT w r n ts) (hn : n ≤ 1099511627776) (hm : w.cell? ⟨3, 0, none⟩ = some (.int .i64 m)) :
    Calls Tryz.prog 33 #[.pointer (some ⟨p, 0, none⟩), .pointer (some ⟨r, 0, none⟩)] w (LinePost w lo p r n ts (rs.map (·.1)) rep) := by
  rcases ts with _ | ⟨t, ts⟩
  · exact line_empty w lo p r n rs rep hp h hn
  · by_cases hk : t.kind = 0
    · by_cases h1 : t.text = wRepeat
      · exact line_repeat w lo p r n t ts rs rep _ hp h hn hk h1 rfl
      · by_cases h2 : t.text = wEnd
        · exact line_end w lo p r n t ts rs rep _ hp h hn hk h2 rfl
        · exact line_other w lo p r n t ts rs rep _ m hp h hn hk h1 h2 rfl hm
    · exact line_kind w lo p r n t ts rs rep _ hp h hn hk rfl
end
end Go.Proofs.YtjieelmbgfnllaaGreatDoor

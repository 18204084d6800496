/- printed of the laws, a part: the other operations; and the parts joined. Conditions: none. -/
import Derived.Test.YtjieelmbgfnllaaGreatDoorScPrintedA
namespace Go.Proofs.YtjieelmbgfnllaaGreatDoor
open Go.RowKit Scr

set_option maxRecDepth 100000 in
set_option maxHeartbeats 8000000 in
theorem printed_c (w : World) (s : StepS) (wv kv : Value) (hc : Canon s) (HK : s.kind = 1 ∧ (s.op.kind = 2 ∧ s.op.snap = 0 ∨ s.op.kind = 5 ∧ s.op.snap = 0 ∨ s.op.kind = 3 ∨ s.op.kind = 4 ∨ s.op.kind = 6)) (hn : Nice s) (h1 : SeenWrs w wv s.op.writes) (h2 : SeenInts w kv s.keep) :
    Calls Tryz.prog 24 #[.agg (stepCells s wv kv)] w fun e w' => e = .returned (.int .i64 (printedL s)) ∧ Mod [] w w' := by
  have HS := Lib.hid (And.intro h1 h2)
  have hone : (#[.int .i64 s.op.kind, wv, .bool s.op.sync, .string ⟨s.op.key.toArray⟩, .string ⟨s.op.til.toArray⟩, .int .i64 s.op.n, .int .i64 s.op.snap] : Array Value).all (·.oneCell') = true := op_one (by obtain ⟨_, _, rfl, _⟩ := h1; rfl)
  replace HK := Lib.hid HK
  have HN := Lib.hid (canon_nums hc)
  have HL := Lib.hid hn
  obtain ⟨A, c, rfl, _⟩ := h1
  obtain ⟨B, d, rfl, _⟩ := h2
  obtain ⟨nw, hnw⟩ : ∃ nw, nw = s.op.writes.length := ⟨_, rfl⟩
  obtain ⟨nk, hnk⟩ : ∃ nk, nk = s.keep.length := ⟨_, rfl⟩
  rw [← hnw] at hone
  rw [← hnw, ← hnk]
  have hnw7 : nw ≤ 70000 := by rw [hnw]; exact hn.1.2.2.1
  have hnk7 : nk ≤ 70000 := by rw [hnk]; exact hn.1.2.2.2.1
  have HNW := Lib.hid (And.intro hnw hnk)
  have HONE := Lib.hid hone
  clear hc hn hnw hnk hone
  unfold stepCells opCells
  go_enter Tryz.func24, Tryz.ntmps24
  go_wp2_with fail
  have HC : Mod [] w ((w.alloc (.cells #[.int .i64 s.kind, .int .i64 s.a, .int .i64 s.b, .int .i64 s.c, .int .i64 s.op.kind, .slice A nw c, .bool s.op.sync, .string ⟨s.op.key.toArray⟩, .string ⟨s.op.til.toArray⟩, .int .i64 s.op.n, .int .i64 s.op.snap, .slice B nk d] 69)).alloc (.cells #[.int .i64 s.op.kind, .slice A nw c, .bool s.op.sync, .string ⟨s.op.key.toArray⟩, .string ⟨s.op.til.toArray⟩, .int .i64 s.op.n, .int .i64 s.op.snap] 67)) ∧ Blk ((w.alloc (.cells #[.int .i64 s.kind, .int .i64 s.a, .int .i64 s.b, .int .i64 s.c, .int .i64 s.op.kind, .slice A nw c, .bool s.op.sync, .string ⟨s.op.key.toArray⟩, .string ⟨s.op.til.toArray⟩, .int .i64 s.op.n, .int .i64 s.op.snap, .slice B nk d] 69)).alloc (.cells #[.int .i64 s.op.kind, .slice A nw c, .bool s.op.sync, .string ⟨s.op.key.toArray⟩, .string ⟨s.op.til.toArray⟩, .int .i64 s.op.n, .int .i64 s.op.snap] 67)) w.heap.size 69 #[.int .i64 s.kind, .int .i64 s.a, .int .i64 s.b, .int .i64 s.c, .int .i64 s.op.kind, .slice A nw c, .bool s.op.sync, .string ⟨s.op.key.toArray⟩, .string ⟨s.op.til.toArray⟩, .int .i64 s.op.n, .int .i64 s.op.snap, .slice B nk d] ∧ Blk ((w.alloc (.cells #[.int .i64 s.kind, .int .i64 s.a, .int .i64 s.b, .int .i64 s.c, .int .i64 s.op.kind, .slice A nw c, .bool s.op.sync, .string ⟨s.op.key.toArray⟩, .string ⟨s.op.til.toArray⟩, .int .i64 s.op.n, .int .i64 s.op.snap, .slice B nk d] 69)).alloc (.cells #[.int .i64 s.op.kind, .slice A nw c, .bool s.op.sync, .string ⟨s.op.key.toArray⟩, .string ⟨s.op.til.toArray⟩, .int .i64 s.op.n, .int .i64 s.op.snap] 67)) (w.heap.size + 1) 67 #[.int .i64 s.op.kind, .slice A nw c, .bool s.op.sync, .string ⟨s.op.key.toArray⟩, .string ⟨s.op.til.toArray⟩, .int .i64 s.op.n, .int .i64 s.op.snap] := ⟨((Mod.refl [] w).alloc _).alloc _, (Blk.new _ _ _).alloc _, Blk.newAt _ _ _ (by simp)⟩
  generalize ((w.alloc (.cells #[.int .i64 s.kind, .int .i64 s.a, .int .i64 s.b, .int .i64 s.c, .int .i64 s.op.kind, .slice A nw c, .bool s.op.sync, .string ⟨s.op.key.toArray⟩, .string ⟨s.op.til.toArray⟩, .int .i64 s.op.n, .int .i64 s.op.snap, .slice B nk d] 69)).alloc (.cells #[.int .i64 s.op.kind, .slice A nw c, .bool s.op.sync, .string ⟨s.op.key.toArray⟩, .string ⟨s.op.til.toArray⟩, .int .i64 s.op.n, .int .i64 s.op.snap] 67)) = W at HC ⊢
  obtain ⟨q, hq⟩ : ∃ q, q = w.heap.size + 1 := ⟨_, rfl⟩
  rw [← hq] at HC ⊢
  clear hq
  obtain ⟨p, hp⟩ : ∃ p, p = w.heap.size := ⟨_, rfl⟩
  rw [← hp] at HC ⊢
  clear hp
  have HW := Lib.hid HC
  have ha0 := HC.2.1.cell 0
  have ha1 := HC.2.1.cell 1
  have ha2 := HC.2.1.cell 2
  have ha3 := HC.2.1.cell 3
  have ha5 := HC.2.1.cell 5
  have ha11 := HC.2.1.cell 11
  have hb0 := HC.2.2.cell 0
  have hb1 := HC.2.2.cell 1
  have hb2 := HC.2.2.cell 2
  have hb3 := HC.2.2.cell 3
  have hb4 := HC.2.2.cell 4
  have hb5 := HC.2.2.cell 5
  have hb6 := HC.2.2.cell 6
  simp at ha0 ha1 ha2 ha3 ha5 ha11 hb0 hb1 hb2 hb3 hb4 hb5 hb6
  clear HC
  refine (width40 W HN.out.1).mono ?_
  rintro e W' ⟨rfl, rfl⟩
  obtain ⟨wa, hwa⟩ : ∃ wa, wa = widthL s.a := ⟨_, rfl⟩
  have hwa20 : wa ≤ 20 := by rw [hwa]; exact wid40 HN.out.1
  rw [← hwa]
  have HWA := Lib.hid hwa
  clear hwa
  obtain ⟨hk, hk2⟩ := HK.out
  clear HK
  · rw [hk] at ha0
    have HKK := Lib.hid hk
    clear hk
    obtain ⟨ws, hws⟩ : ∃ ws, ws = widthL s.op.snap := ⟨_, rfl⟩
    have hws20 : ws ≤ 20 := by rw [hws]; exact wid40 HN.out.2.2.2.2.1
    have HCS := Lib.hid (show ∀ X, Calls Tryz.prog 88 #[.int .i64 s.op.snap] X fun e w' => e = .returned (.int .i64 ws) ∧ w' = X from fun X => hws ▸ width40 X HN.out.2.2.2.2.1)
    have HWS := Lib.hid hws
    clear hws
    rcases hk2 with ⟨hk2, hs0⟩ | ⟨hk2, hs0⟩ | hk2 | hk2 | hk2
    · have HP := Lib.hid (show ((printedL s : Nat) : Int) = 1 + (wa : Int) + 1 + 4 by unfold printedL; rw [HKK.out, hk2, HWA.out]; simp; omega)
      rw [hk2] at hb0
      rw [hs0] at hb6
      clear hk2 hs0
      go_wp2
      go_ret
      exact ⟨by rw [HP.out]; rfl, HW.out.1⟩
    · have HP := Lib.hid (show ((printedL s : Nat) : Int) = 1 + (wa : Int) + 1 + 4 by unfold printedL; rw [HKK.out, hk2, HWA.out]; simp; omega)
      rw [hk2] at hb0
      rw [hs0] at hb6
      clear hk2 hs0
      go_wp2
      go_ret
      exact ⟨by rw [HP.out]; rfl, HW.out.1⟩
    · obtain ⟨mk1, hmk1⟩ : ∃ m, m = markedL s.op.key := ⟨_, rfl⟩
      have h3 : mk1 ≤ 280003 := by rw [hmk1]; exact marked_le HL.out.1.1
      have HCK := Lib.hid (show ∀ X, Calls Tryz.prog 89 #[.string ⟨s.op.key.toArray⟩] X fun e w' => e = .returned (.int .i64 mk1) ∧ w' = X from fun X => hmk1 ▸ marked_of X s.op.key HL.out.1.1)
      have HQQ := Lib.hid hmk1
      clear hmk1
      by_cases hs0 : s.op.snap = 0
      · have HP := Lib.hid (show ((printedL s : Nat) : Int) = 1 + (wa : Int) + 1 + 3 + mk1 + 0 by unfold printedL; rw [HKK.out, hk2, HWA.out]; simp [hs0, HQQ.out]; omega)
        rw [hs0] at hb6 HCS
        rw [hk2] at hb0
        clear hk2 hs0
        go_wp2_with fail
        refine (HCK.out _).mono ?_
        rintro e W2 ⟨rfl, rfl⟩
        go_wp2
        go_ret
        exact ⟨by rw [HP.out]; rfl, HW.out.1⟩
      · have HP := Lib.hid (show ((printedL s : Nat) : Int) = 1 + (wa : Int) + 1 + 3 + mk1 + (6 + (ws : Int)) by unfold printedL; rw [HKK.out, hk2, HWA.out]; simp [hs0, HWS.out, HQQ.out]; omega)
        have hs1 : (s.op.snap != 0) = true := by simp [hs0]
        rw [hk2] at hb0
        clear hk2 hs0
        go_wp2_with fail
        refine (HCS.out _).mono ?_
        rintro e W2 ⟨rfl, rfl⟩
        go_wp2_with fail
        refine (HCK.out _).mono ?_
        rintro e W2 ⟨rfl, rfl⟩
        go_wp2
        go_ret
        exact ⟨by rw [HP.out]; rfl, HW.out.1⟩
    · obtain ⟨mk1, hmk1⟩ : ∃ m, m = markedL s.op.key := ⟨_, rfl⟩
      have h3 : mk1 ≤ 280003 := by rw [hmk1]; exact marked_le HL.out.1.1
      have HCK := Lib.hid (show ∀ X, Calls Tryz.prog 89 #[.string ⟨s.op.key.toArray⟩] X fun e w' => e = .returned (.int .i64 mk1) ∧ w' = X from fun X => hmk1 ▸ marked_of X s.op.key HL.out.1.1)
      obtain ⟨mk2, hmk2⟩ : ∃ m, m = markedL s.op.til := ⟨_, rfl⟩
      have h4 : mk2 ≤ 280003 := by rw [hmk2]; exact marked_le HL.out.1.2.1
      have HCV := Lib.hid (show ∀ X, Calls Tryz.prog 89 #[.string ⟨s.op.til.toArray⟩] X fun e w' => e = .returned (.int .i64 mk2) ∧ w' = X from fun X => hmk2 ▸ marked_of X s.op.til HL.out.1.2.1)
      obtain ⟨wn, hwn⟩ : ∃ m, m = widthL s.op.n := ⟨_, rfl⟩
      have h5 : wn ≤ 20 := by rw [hwn]; exact wid40 HN.out.2.2.2.1
      have HCN := Lib.hid (show ∀ X, Calls Tryz.prog 88 #[.int .i64 s.op.n] X fun e w' => e = .returned (.int .i64 wn) ∧ w' = X from fun X => hwn ▸ width40 X HN.out.2.2.2.1)
      have HQQ := Lib.hid (And.intro hmk1 (And.intro hmk2 hwn))
      clear hmk1 hmk2 hwn
      by_cases hs0 : s.op.snap = 0
      · have HP := Lib.hid (show ((printedL s : Nat) : Int) = 1 + (wa : Int) + 1 + 4 + mk1 + mk2 + 1 + wn + 0 by unfold printedL; rw [HKK.out, hk2, HWA.out]; simp [hs0, HQQ.out]; omega)
        rw [hs0] at hb6 HCS
        rw [hk2] at hb0
        clear hk2 hs0
        go_wp2
        refine region_C (fun X => Mod [] w X ∧ Blk X p 69 #[.int .i64 s.kind, .int .i64 s.a, .int .i64 s.b, .int .i64 s.c, .int .i64 s.op.kind, .slice A nw c, .bool s.op.sync, .string ⟨s.op.key.toArray⟩, .string ⟨s.op.til.toArray⟩, .int .i64 s.op.n, .int .i64 s.op.snap, .slice B nk d] ∧ Blk X q 67 #[.int .i64 s.op.kind, .slice A nw c, .bool s.op.sync, .string ⟨s.op.key.toArray⟩, .string ⟨s.op.til.toArray⟩, .int .i64 s.op.n, .int .i64 s.op.snap]) (by kernel_rfl) (fun _ _ _ _ _ h => h) (fun hQp => ?_)
        have HC := And.intro HW.out.1.drew (And.intro HW.out.2.1.drew HW.out.2.2.drew)
        clear ha0 ha1 ha2 ha3 ha5 ha11 hb0 hb1 hb2 hb3 hb4 hb5 hb6
        simp only [List.length_cons, List.length_nil]
        refine anyC_take (i := 0) (v := ?_) (a' := ?_) HC rfl rfl (by kernel_rfl) (by kernel_rfl) (by kernel_rfl) hQp (by rfl) ?_ ?_ ?_
        rotate_left 2
        · intro X hX
          go_simp
          first | rfl | (rw [if_neg (by omega)])
        · simp [Act.put]
          rfl
        refine anyC_take (i := 1) (v := .int .i64 (1 + (wa : Int) + 1 + 4)) (a' := ?_) HC rfl rfl (by kernel_rfl) (by kernel_rfl) (by kernel_rfl) hQp (by rfl) ?_ ?_ ?_
        rotate_left 1
        · intro X hX
          go_simp
          rw [wrap64 (by omega) (by omega)]
        · simp [Act.put]
          rfl
        refine anyC_take (i := 2) (v := ?_) (a' := ?_) HC rfl rfl (by kernel_rfl) (by kernel_rfl) (by kernel_rfl) hQp (by rfl) ?_ ?_ ?_
        rotate_left 2
        · intro X hX
          go_simp
          first | rfl | (rw [if_neg (by omega)])
        · simp [Act.put]
          rfl
        refine anyC_take (i := 3) (v := ?_) (a' := ?_) HC rfl rfl (by kernel_rfl) (by kernel_rfl) (by kernel_rfl) hQp (by rfl) ?_ ?_ ?_
        rotate_left 2
        · intro X hX
          have hx := hX.2.2.cell 3
          simp at hx
          go_simp
          rfl
        · simp [Act.put]
          rfl
        refine anyC_take (i := 6) (v := ?_) (a' := ?_) HC rfl rfl (by kernel_rfl) (by kernel_rfl) (by kernel_rfl) hQp (by rfl) ?_ ?_ ?_
        rotate_left 2
        · intro X hX
          go_simp
          first | rfl | (rw [if_neg (by omega)])
        · simp [Act.put]
          rfl
        refine anyC_take (i := 7) (v := ?_) (a' := ?_) HC rfl rfl (by kernel_rfl) (by kernel_rfl) (by kernel_rfl) hQp (by rfl) ?_ ?_ ?_
        rotate_left 2
        · intro X hX
          have hx := hX.2.2.cell 4
          simp at hx
          go_simp
          rfl
        · simp [Act.put]
          rfl
        refine anyC_take (i := 11) (v := ?_) (a' := ?_) HC rfl rfl (by kernel_rfl) (by kernel_rfl) (by kernel_rfl) hQp (by rfl) ?_ ?_ ?_
        rotate_left 2
        · intro X hX
          go_simp
          first | rfl | (rw [if_neg (by omega)])
        · simp [Act.put]
          rfl
        refine anyC_take (i := 12) (v := ?_) (a' := ?_) HC rfl rfl (by kernel_rfl) (by kernel_rfl) (by kernel_rfl) hQp (by rfl) ?_ ?_ ?_
        rotate_left 2
        · intro X hX
          have hx := hX.2.2.cell 5
          simp at hx
          go_simp
          rfl
        · simp [Act.put]
          rfl
        refine anyC_take (i := 15) (v := ?_) (a' := ?_) HC rfl rfl (by kernel_rfl) (by kernel_rfl) (by kernel_rfl) hQp (by rfl) ?_ ?_ ?_
        rotate_left 2
        · intro X hX
          go_simp
          first | rfl | (rw [if_neg (by omega)])
        · simp [Act.put]
          rfl
        refine anyC_step (i := 4) (by kernel_rfl) rfl (by rfl) ?_
        unfold Oper.wp
        go_simp
        refine (HCK.out _).mono ?_
        rintro e v4 ⟨rfl, rfl⟩
        refine ⟨HC, ?_⟩
        refine anyC_take (i := 5) (v := .int .i64 (1 + (wa : Int) + 1 + 4 + mk1)) (a' := ?_) HC rfl rfl (by kernel_rfl) (by kernel_rfl) (by kernel_rfl) hQp (by rfl) ?_ ?_ ?_
        rotate_left 1
        · intro X hX
          go_simp
          rw [wrap64 (by omega) (by omega)]
        · simp [Act.put]
          rfl
        refine anyC_step (i := 8) (by kernel_rfl) rfl (by rfl) ?_
        unfold Oper.wp
        go_simp
        refine (HCV.out _).mono ?_
        rintro e v8 ⟨rfl, rfl⟩
        refine ⟨HC, ?_⟩
        refine anyC_take (i := 9) (v := .int .i64 (1 + (wa : Int) + 1 + 4 + mk1 + mk2)) (a' := ?_) HC rfl rfl (by kernel_rfl) (by kernel_rfl) (by kernel_rfl) hQp (by rfl) ?_ ?_ ?_
        rotate_left 1
        · intro X hX
          go_simp
          rw [wrap64 (by omega) (by omega)]
        · simp [Act.put]
          rfl
        refine anyC_take (i := 10) (v := .int .i64 (1 + (wa : Int) + 1 + 4 + mk1 + mk2 + 1)) (a' := ?_) HC rfl rfl (by kernel_rfl) (by kernel_rfl) (by kernel_rfl) hQp (by rfl) ?_ ?_ ?_
        rotate_left 1
        · intro X hX
          go_simp
          rw [wrap64 (by omega) (by omega)]
        · simp [Act.put]
          rfl
        refine anyC_step (i := 13) (by kernel_rfl) rfl (by rfl) ?_
        unfold Oper.wp
        go_simp
        refine (HCN.out _).mono ?_
        rintro e v13 ⟨rfl, rfl⟩
        refine ⟨HC, ?_⟩
        refine anyC_take (i := 14) (v := .int .i64 (1 + (wa : Int) + 1 + 4 + mk1 + mk2 + 1 + wn)) (a' := ?_) HC rfl rfl (by kernel_rfl) (by kernel_rfl) (by kernel_rfl) hQp (by rfl) ?_ ?_ ?_
        rotate_left 1
        · intro X hX
          go_simp
          rw [wrap64 (by omega) (by omega)]
        · simp [Act.put]
          rfl
        refine anyC_take (i := 16) (v := .int .i64 (1 + (wa : Int) + 1 + 4 + mk1 + mk2 + 1 + wn + (0))) (a' := ?_) HC rfl rfl (by kernel_rfl) (by kernel_rfl) (by kernel_rfl) hQp (by rfl) ?_ ?_ ?_
        rotate_left 1
        · intro X hX
          go_simp
          rw [wrap64 (by omega) (by omega)]
        · simp [Act.put]
          rfl
        refine anyC_take (i := 17) (v := ?_) (a' := ?_) HC rfl rfl (by kernel_rfl) (by kernel_rfl) (by kernel_rfl) hQp (by rfl) ?_ ?_ ?_
        rotate_left 2
        · intro X hX
          go_simp
          first | rfl | (rw [if_neg (by omega)])
        · simp [Act.put]
          rfl
        refine anyC_done (by kernel_rfl) ?_ _
        clear hQp
        go_wp2
        go_ret
        exact ⟨by rw [HP.out]; rfl, HC.1⟩
      · have HP := Lib.hid (show ((printedL s : Nat) : Int) = 1 + (wa : Int) + 1 + 4 + mk1 + mk2 + 1 + wn + (6 + (ws : Int)) by unfold printedL; rw [HKK.out, hk2, HWA.out]; simp [hs0, HWS.out, HQQ.out]; omega)
        have hs1 : (s.op.snap != 0) = true := by simp [hs0]
        rw [hk2] at hb0
        clear hk2 hs0
        go_wp2_with fail
        refine (HCS.out _).mono ?_
        rintro e W2 ⟨rfl, rfl⟩
        go_wp2
        refine region_C (fun X => Mod [] w X ∧ Blk X p 69 #[.int .i64 s.kind, .int .i64 s.a, .int .i64 s.b, .int .i64 s.c, .int .i64 s.op.kind, .slice A nw c, .bool s.op.sync, .string ⟨s.op.key.toArray⟩, .string ⟨s.op.til.toArray⟩, .int .i64 s.op.n, .int .i64 s.op.snap, .slice B nk d] ∧ Blk X q 67 #[.int .i64 s.op.kind, .slice A nw c, .bool s.op.sync, .string ⟨s.op.key.toArray⟩, .string ⟨s.op.til.toArray⟩, .int .i64 s.op.n, .int .i64 s.op.snap]) (by kernel_rfl) (fun _ _ _ _ _ h => h) (fun hQp => ?_)
        have HC := And.intro HW.out.1.drew (And.intro HW.out.2.1.drew HW.out.2.2.drew)
        clear ha0 ha1 ha2 ha3 ha5 ha11 hb0 hb1 hb2 hb3 hb4 hb5 hb6
        simp only [List.length_cons, List.length_nil]
        refine anyC_take (i := 0) (v := ?_) (a' := ?_) HC rfl rfl (by kernel_rfl) (by kernel_rfl) (by kernel_rfl) hQp (by rfl) ?_ ?_ ?_
        rotate_left 2
        · intro X hX
          go_simp
          first | rfl | (rw [if_neg (by omega)])
        · simp [Act.put]
          rfl
        refine anyC_take (i := 1) (v := .int .i64 (1 + (wa : Int) + 1 + 4)) (a' := ?_) HC rfl rfl (by kernel_rfl) (by kernel_rfl) (by kernel_rfl) hQp (by rfl) ?_ ?_ ?_
        rotate_left 1
        · intro X hX
          go_simp
          rw [wrap64 (by omega) (by omega)]
        · simp [Act.put]
          rfl
        refine anyC_take (i := 2) (v := ?_) (a' := ?_) HC rfl rfl (by kernel_rfl) (by kernel_rfl) (by kernel_rfl) hQp (by rfl) ?_ ?_ ?_
        rotate_left 2
        · intro X hX
          go_simp
          first | rfl | (rw [if_neg (by omega)])
        · simp [Act.put]
          rfl
        refine anyC_take (i := 3) (v := ?_) (a' := ?_) HC rfl rfl (by kernel_rfl) (by kernel_rfl) (by kernel_rfl) hQp (by rfl) ?_ ?_ ?_
        rotate_left 2
        · intro X hX
          have hx := hX.2.2.cell 3
          simp at hx
          go_simp
          rfl
        · simp [Act.put]
          rfl
        refine anyC_take (i := 6) (v := ?_) (a' := ?_) HC rfl rfl (by kernel_rfl) (by kernel_rfl) (by kernel_rfl) hQp (by rfl) ?_ ?_ ?_
        rotate_left 2
        · intro X hX
          go_simp
          first | rfl | (rw [if_neg (by omega)])
        · simp [Act.put]
          rfl
        refine anyC_take (i := 7) (v := ?_) (a' := ?_) HC rfl rfl (by kernel_rfl) (by kernel_rfl) (by kernel_rfl) hQp (by rfl) ?_ ?_ ?_
        rotate_left 2
        · intro X hX
          have hx := hX.2.2.cell 4
          simp at hx
          go_simp
          rfl
        · simp [Act.put]
          rfl
        refine anyC_take (i := 11) (v := ?_) (a' := ?_) HC rfl rfl (by kernel_rfl) (by kernel_rfl) (by kernel_rfl) hQp (by rfl) ?_ ?_ ?_
        rotate_left 2
        · intro X hX
          go_simp
          first | rfl | (rw [if_neg (by omega)])
        · simp [Act.put]
          rfl
        refine anyC_take (i := 12) (v := ?_) (a' := ?_) HC rfl rfl (by kernel_rfl) (by kernel_rfl) (by kernel_rfl) hQp (by rfl) ?_ ?_ ?_
        rotate_left 2
        · intro X hX
          have hx := hX.2.2.cell 5
          simp at hx
          go_simp
          rfl
        · simp [Act.put]
          rfl
        refine anyC_take (i := 15) (v := ?_) (a' := ?_) HC rfl rfl (by kernel_rfl) (by kernel_rfl) (by kernel_rfl) hQp (by rfl) ?_ ?_ ?_
        rotate_left 2
        · intro X hX
          go_simp
          first | rfl | (rw [if_neg (by omega)])
        · simp [Act.put]
          rfl
        refine anyC_step (i := 4) (by kernel_rfl) rfl (by rfl) ?_
        unfold Oper.wp
        go_simp
        refine (HCK.out _).mono ?_
        rintro e v4 ⟨rfl, rfl⟩
        refine ⟨HC, ?_⟩
        refine anyC_take (i := 5) (v := .int .i64 (1 + (wa : Int) + 1 + 4 + mk1)) (a' := ?_) HC rfl rfl (by kernel_rfl) (by kernel_rfl) (by kernel_rfl) hQp (by rfl) ?_ ?_ ?_
        rotate_left 1
        · intro X hX
          go_simp
          rw [wrap64 (by omega) (by omega)]
        · simp [Act.put]
          rfl
        refine anyC_step (i := 8) (by kernel_rfl) rfl (by rfl) ?_
        unfold Oper.wp
        go_simp
        refine (HCV.out _).mono ?_
        rintro e v8 ⟨rfl, rfl⟩
        refine ⟨HC, ?_⟩
        refine anyC_take (i := 9) (v := .int .i64 (1 + (wa : Int) + 1 + 4 + mk1 + mk2)) (a' := ?_) HC rfl rfl (by kernel_rfl) (by kernel_rfl) (by kernel_rfl) hQp (by rfl) ?_ ?_ ?_
        rotate_left 1
        · intro X hX
          go_simp
          rw [wrap64 (by omega) (by omega)]
        · simp [Act.put]
          rfl
        refine anyC_take (i := 10) (v := .int .i64 (1 + (wa : Int) + 1 + 4 + mk1 + mk2 + 1)) (a' := ?_) HC rfl rfl (by kernel_rfl) (by kernel_rfl) (by kernel_rfl) hQp (by rfl) ?_ ?_ ?_
        rotate_left 1
        · intro X hX
          go_simp
          rw [wrap64 (by omega) (by omega)]
        · simp [Act.put]
          rfl
        refine anyC_step (i := 13) (by kernel_rfl) rfl (by rfl) ?_
        unfold Oper.wp
        go_simp
        refine (HCN.out _).mono ?_
        rintro e v13 ⟨rfl, rfl⟩
        refine ⟨HC, ?_⟩
        refine anyC_take (i := 14) (v := .int .i64 (1 + (wa : Int) + 1 + 4 + mk1 + mk2 + 1 + wn)) (a' := ?_) HC rfl rfl (by kernel_rfl) (by kernel_rfl) (by kernel_rfl) hQp (by rfl) ?_ ?_ ?_
        rotate_left 1
        · intro X hX
          go_simp
          rw [wrap64 (by omega) (by omega)]
        · simp [Act.put]
          rfl
        refine anyC_take (i := 16) (v := .int .i64 (1 + (wa : Int) + 1 + 4 + mk1 + mk2 + 1 + wn + (6 + (ws : Int)))) (a' := ?_) HC rfl rfl (by kernel_rfl) (by kernel_rfl) (by kernel_rfl) hQp (by rfl) ?_ ?_ ?_
        rotate_left 1
        · intro X hX
          go_simp
          rw [wrap64 (by omega) (by omega)]
        · simp [Act.put]
          rfl
        refine anyC_take (i := 17) (v := ?_) (a' := ?_) HC rfl rfl (by kernel_rfl) (by kernel_rfl) (by kernel_rfl) hQp (by rfl) ?_ ?_ ?_
        rotate_left 2
        · intro X hX
          go_simp
          first | rfl | (rw [if_neg (by omega)])
        · simp [Act.put]
          rfl
        refine anyC_done (by kernel_rfl) ?_ _
        clear hQp
        go_wp2
        go_ret
        exact ⟨by rw [HP.out]; rfl, HC.1⟩
    · have HQQ := Lib.hid (show True from trivial)
      by_cases hs0 : s.op.snap = 0
      · have HP := Lib.hid (show ((printedL s : Nat) : Int) = 1 + (wa : Int) + 1 + 7 + 1 + ws by unfold printedL; rw [HKK.out, hk2, HWA.out]; simp [hs0, HWS.out]; omega)
        rw [hs0] at hb6 HCS
        rw [hk2] at hb0
        clear hk2 hs0
        go_wp2_with fail
        refine (HCS.out _).mono ?_
        rintro e W2 ⟨rfl, rfl⟩
        go_wp2
        go_ret
        exact ⟨by rw [HP.out]; rfl, HW.out.1⟩
      · have HP := Lib.hid (show ((printedL s : Nat) : Int) = 1 + (wa : Int) + 1 + 7 + 1 + ws by unfold printedL; rw [HKK.out, hk2, HWA.out]; simp [HWS.out]; omega)
        have hs1 : (s.op.snap != 0) = true := by simp [hs0]
        rw [hk2] at hb0
        clear hk2 hs0
        go_wp2_with fail
        refine (HCS.out _).mono ?_
        rintro e W2 ⟨rfl, rfl⟩
        go_wp2_with fail
        refine (HCS.out _).mono ?_
        rintro e W2 ⟨rfl, rfl⟩
        go_wp2
        go_ret
        exact ⟨by rw [HP.out]; rfl, HW.out.1⟩
theorem printed_walk (w : World) (s : StepS) (wv kv : Value) (hc : Canon s) (hn : Nice s) (h1 : SeenWrs w wv s.op.writes) (h2 : SeenInts w kv s.keep) :
    Calls Tryz.prog 24 #[.agg (stepCells s wv kv)] w fun e w' => e = .returned (.int .i64 (printedL s)) ∧ Mod [] w w' := by
  rcases canon_kind hc with h | h | h | h | h | ⟨h, h3 | h3⟩
  · exact printed_a w s wv kv hc (.inl h) hn h1 h2
  · exact printed_a w s wv kv hc (.inr (.inl h)) hn h1 h2
  · exact printed_a w s wv kv hc (.inr (.inr (.inl h))) hn h1 h2
  · exact printed_a w s wv kv hc (.inr (.inr (.inr (.inl h)))) hn h1 h2
  · exact printed_a w s wv kv hc (.inr (.inr (.inr (.inr h)))) hn h1 h2
  · exact printed_b w s wv kv hc ⟨h, h3⟩ hn h1 h2
  · exact printed_c w s wv kv hc ⟨h, h3⟩ hn h1 h2
end Go.Proofs.YtjieelmbgfnllaaGreatDoor

/- printed of the laws, a part: steps without an operation, and the operation write. Conditions: none. -/
import Derived.Test.YtjieelmbgfnllaaGreatDoorScWidths
namespace Go.Proofs.YtjieelmbgfnllaaGreatDoor
open Go.RowKit Scr

set_option maxRecDepth 100000 in
set_option maxHeartbeats 8000000 in
theorem printed_a (w : World) (s : StepS) (wv kv : Value) (hc : Canon s) (HK : s.kind = 3 ∨ s.kind = 2 ∨ s.kind = 5 ∨ s.kind = 6 ∨ s.kind = 4) (hn : Nice s) (h1 : SeenWrs w wv s.op.writes) (h2 : SeenInts w kv s.keep) :
    Calls Tryz.prog 24 #[.agg (stepCells s wv kv)] w fun e w' => e = .returned (.int .i64 (printedL s)) ∧ Mod [] w w' := by
  have HS := Lib.hid (And.intro h1 h2)
  have hone : (#[.int .i64 s.op.kind, wv, .bool s.op.sync, .string ⟨s.op.key.toArray⟩, .string ⟨s.op.til.toArray⟩, .int .i64 s.op.n, .int .i64 s.op.snap] : Array Value).all (·.oneCell') = true := op_one (by obtain ⟨_, _, rfl, _⟩ := h1; rfl)
  replace HK := Lib.hid HK
  have HN := Lib.hid (canon_nums hc)
  have HL := Lib.hid hn
  obtain ⟨A, c, rfl, _⟩ := h1
  obtain ⟨B, d, rfl, _⟩ := h2
  obtain ⟨nw, hnw⟩ : ∃ nw, nw = s.op.writes.length := ⟨_, rfl⟩
  obtain ⟨nk, hnk⟩ : ∃ nk, nk = s.keep.length := ⟨_, rfl⟩
  rw [← hnw] at hone
  rw [← hnw, ← hnk]
  have hnw7 : nw ≤ 70000 := by rw [hnw]; exact hn.1.2.2.1
  have hnk7 : nk ≤ 70000 := by rw [hnk]; exact hn.1.2.2.2.1
  have HNW := Lib.hid (And.intro hnw hnk)
  have HONE := Lib.hid hone
  clear hc hn hnw hnk hone
  unfold stepCells opCells
  go_enter Tryz.func24, Tryz.ntmps24
  go_wp2_with fail
  have HC : Mod [] w ((w.alloc (.cells #[.int .i64 s.kind, .int .i64 s.a, .int .i64 s.b, .int .i64 s.c, .int .i64 s.op.kind, .slice A nw c, .bool s.op.sync, .string ⟨s.op.key.toArray⟩, .string ⟨s.op.til.toArray⟩, .int .i64 s.op.n, .int .i64 s.op.snap, .slice B nk d] 69)).alloc (.cells #[.int .i64 s.op.kind, .slice A nw c, .bool s.op.sync, .string ⟨s.op.key.toArray⟩, .string ⟨s.op.til.toArray⟩, .int .i64 s.op.n, .int .i64 s.op.snap] 67)) ∧ Blk ((w.alloc (.cells #[.int .i64 s.kind, .int .i64 s.a, .int .i64 s.b, .int .i64 s.c, .int .i64 s.op.kind, .slice A nw c, .bool s.op.sync, .string ⟨s.op.key.toArray⟩, .string ⟨s.op.til.toArray⟩, .int .i64 s.op.n, .int .i64 s.op.snap, .slice B nk d] 69)).alloc (.cells #[.int .i64 s.op.kind, .slice A nw c, .bool s.op.sync, .string ⟨s.op.key.toArray⟩, .string ⟨s.op.til.toArray⟩, .int .i64 s.op.n, .int .i64 s.op.snap] 67)) w.heap.size 69 #[.int .i64 s.kind, .int .i64 s.a, .int .i64 s.b, .int .i64 s.c, .int .i64 s.op.kind, .slice A nw c, .bool s.op.sync, .string ⟨s.op.key.toArray⟩, .string ⟨s.op.til.toArray⟩, .int .i64 s.op.n, .int .i64 s.op.snap, .slice B nk d] ∧ Blk ((w.alloc (.cells #[.int .i64 s.kind, .int .i64 s.a, .int .i64 s.b, .int .i64 s.c, .int .i64 s.op.kind, .slice A nw c, .bool s.op.sync, .string ⟨s.op.key.toArray⟩, .string ⟨s.op.til.toArray⟩, .int .i64 s.op.n, .int .i64 s.op.snap, .slice B nk d] 69)).alloc (.cells #[.int .i64 s.op.kind, .slice A nw c, .bool s.op.sync, .string ⟨s.op.key.toArray⟩, .string ⟨s.op.til.toArray⟩, .int .i64 s.op.n, .int .i64 s.op.snap] 67)) (w.heap.size + 1) 67 #[.int .i64 s.op.kind, .slice A nw c, .bool s.op.sync, .string ⟨s.op.key.toArray⟩, .string ⟨s.op.til.toArray⟩, .int .i64 s.op.n, .int .i64 s.op.snap] := ⟨((Mod.refl [] w).alloc _).alloc _, (Blk.new _ _ _).alloc _, Blk.newAt _ _ _ (by simp)⟩
  generalize ((w.alloc (.cells #[.int .i64 s.kind, .int .i64 s.a, .int .i64 s.b, .int .i64 s.c, .int .i64 s.op.kind, .slice A nw c, .bool s.op.sync, .string ⟨s.op.key.toArray⟩, .string ⟨s.op.til.toArray⟩, .int .i64 s.op.n, .int .i64 s.op.snap, .slice B nk d] 69)).alloc (.cells #[.int .i64 s.op.kind, .slice A nw c, .bool s.op.sync, .string ⟨s.op.key.toArray⟩, .string ⟨s.op.til.toArray⟩, .int .i64 s.op.n, .int .i64 s.op.snap] 67)) = W at HC ⊢
  obtain ⟨q, hq⟩ : ∃ q, q = w.heap.size + 1 := ⟨_, rfl⟩
  rw [← hq] at HC ⊢
  clear hq
  obtain ⟨p, hp⟩ : ∃ p, p = w.heap.size := ⟨_, rfl⟩
  rw [← hp] at HC ⊢
  clear hp
  have HW := Lib.hid HC
  have ha0 := HC.2.1.cell 0
  have ha1 := HC.2.1.cell 1
  have ha2 := HC.2.1.cell 2
  have ha3 := HC.2.1.cell 3
  have ha5 := HC.2.1.cell 5
  have ha11 := HC.2.1.cell 11
  have hb0 := HC.2.2.cell 0
  have hb1 := HC.2.2.cell 1
  have hb2 := HC.2.2.cell 2
  have hb3 := HC.2.2.cell 3
  have hb4 := HC.2.2.cell 4
  have hb5 := HC.2.2.cell 5
  have hb6 := HC.2.2.cell 6
  simp at ha0 ha1 ha2 ha3 ha5 ha11 hb0 hb1 hb2 hb3 hb4 hb5 hb6
  clear HC
  refine (width40 W HN.out.1).mono ?_
  rintro e W' ⟨rfl, rfl⟩
  obtain ⟨wa, hwa⟩ : ∃ wa, wa = widthL s.a := ⟨_, rfl⟩
  have hwa20 : wa ≤ 20 := by rw [hwa]; exact wid40 HN.out.1
  rw [← hwa]
  have HWA := Lib.hid hwa
  clear hwa
  rcases HK.out with hk | hk | hk | hk | hk
  all_goals clear HK
  · have HP := Lib.hid (show ((printedL s : Nat) : Int) = 5 by unfold printedL; rw [hk]; rfl)
    rw [hk] at ha0
    clear hk
    go_wp2
    go_ret
    exact ⟨by rw [HP.out]; rfl, HW.out.1⟩
  · have HP := Lib.hid (show ((printedL s : Nat) : Int) = 1 + (wa : Int) + 1 + 2 by unfold printedL; rw [hk, HWA.out]; simp; omega)
    rw [hk] at ha0
    clear hk
    go_wp2
    go_ret
    exact ⟨by rw [HP.out]; rfl, HW.out.1⟩
  · have HP := Lib.hid (show ((printedL s : Nat) : Int) = 1 + (wa : Int) + 1 + 3 by unfold printedL; rw [hk, HWA.out]; simp; omega)
    rw [hk] at ha0
    clear hk
    go_wp2
    go_ret
    exact ⟨by rw [HP.out]; rfl, HW.out.1⟩
  · obtain ⟨wb, hwb⟩ : ∃ wb, wb = widthL s.b := ⟨_, rfl⟩
    obtain ⟨wc, hwc⟩ : ∃ wc, wc = widthL s.c := ⟨_, rfl⟩
    have hwb20 : wb ≤ 20 := by rw [hwb]; exact wid40 HN.out.2.1
    have hwc20 : wc ≤ 20 := by rw [hwc]; exact wid40 HN.out.2.2.1
    have HP := Lib.hid (show ((printedL s : Nat) : Int) = 1 + (wa : Int) + 1 + 4 + 2 + wb + wc by unfold printedL; rw [hk, HWA.out, hwb, hwc]; simp; omega)
    have HCB := Lib.hid (show ∀ X, Calls Tryz.prog 88 #[.int .i64 s.b] X fun e w' => e = .returned (.int .i64 wb) ∧ w' = X from fun X => hwb ▸ width40 X HN.out.2.1)
    have HCC := Lib.hid (show ∀ X, Calls Tryz.prog 88 #[.int .i64 s.c] X fun e w' => e = .returned (.int .i64 wc) ∧ w' = X from fun X => hwc ▸ width40 X HN.out.2.2.1)
    rw [hk] at ha0
    clear hk hwb hwc
    go_wp2
    refine region_C (fun X => Mod [] w X ∧ Blk X p 69 #[.int .i64 s.kind, .int .i64 s.a, .int .i64 s.b, .int .i64 s.c, .int .i64 s.op.kind, .slice A nw c, .bool s.op.sync, .string ⟨s.op.key.toArray⟩, .string ⟨s.op.til.toArray⟩, .int .i64 s.op.n, .int .i64 s.op.snap, .slice B nk d] ∧ Blk X q 67 #[.int .i64 s.op.kind, .slice A nw c, .bool s.op.sync, .string ⟨s.op.key.toArray⟩, .string ⟨s.op.til.toArray⟩, .int .i64 s.op.n, .int .i64 s.op.snap]) (by kernel_rfl) (fun _ _ _ _ _ h => h) (fun hQp => ?_)
    have HC := And.intro HW.out.1.drew (And.intro HW.out.2.1.drew HW.out.2.2.drew)
    clear ha0 ha1 ha2 ha3 ha5 ha11 hb0 hb1 hb2 hb3 hb4 hb5 hb6
    simp only [List.length_cons, List.length_nil]
    refine anyC_take (i := 0) (v := ?_) (a' := ?_) HC rfl rfl (by kernel_rfl) (by kernel_rfl) (by kernel_rfl) hQp (by rfl) ?_ ?_ ?_
    rotate_left 2
    · intro X hX
      go_simp
      first | rfl | (rw [if_neg (by omega)])
    · simp [Act.put]
      rfl
    refine anyC_take (i := 1) (v := .int .i64 (1 + (wa : Int) + 1 + 4)) (a' := ?_) HC rfl rfl (by kernel_rfl) (by kernel_rfl) (by kernel_rfl) hQp (by rfl) ?_ ?_ ?_
    rotate_left 1
    · intro X hX
      go_simp
      rw [wrap64 (by omega) (by omega)]
    · simp [Act.put]
      rfl
    refine anyC_take (i := 2) (v := .int .i64 (1 + (wa : Int) + 1 + 4 + 2)) (a' := ?_) HC rfl rfl (by kernel_rfl) (by kernel_rfl) (by kernel_rfl) hQp (by rfl) ?_ ?_ ?_
    rotate_left 1
    · intro X hX
      go_simp
      rw [wrap64 (by omega) (by omega)]
    · simp [Act.put]
      rfl
    refine anyC_take (i := 3) (v := ?_) (a' := ?_) HC rfl rfl (by kernel_rfl) (by kernel_rfl) (by kernel_rfl) hQp (by rfl) ?_ ?_ ?_
    rotate_left 2
    · intro X hX
      go_simp
      first | rfl | (rw [if_neg (by omega)])
    · simp [Act.put]
      rfl
    refine anyC_take (i := 4) (v := ?_) (a' := ?_) HC rfl rfl (by kernel_rfl) (by kernel_rfl) (by kernel_rfl) hQp (by rfl) ?_ ?_ ?_
    rotate_left 2
    · intro X hX
      have hx := hX.2.1.cell 2
      simp at hx
      go_simp
      rfl
    · simp [Act.put]
      rfl
    refine anyC_take (i := 7) (v := ?_) (a' := ?_) HC rfl rfl (by kernel_rfl) (by kernel_rfl) (by kernel_rfl) hQp (by rfl) ?_ ?_ ?_
    rotate_left 2
    · intro X hX
      go_simp
      first | rfl | (rw [if_neg (by omega)])
    · simp [Act.put]
      rfl
    refine anyC_take (i := 8) (v := ?_) (a' := ?_) HC rfl rfl (by kernel_rfl) (by kernel_rfl) (by kernel_rfl) hQp (by rfl) ?_ ?_ ?_
    rotate_left 2
    · intro X hX
      have hx := hX.2.1.cell 3
      simp at hx
      go_simp
      rfl
    · simp [Act.put]
      rfl
    refine anyC_step (i := 5) (by kernel_rfl) rfl (by rfl) ?_
    unfold Oper.wp
    go_simp
    refine (HCB.out _).mono ?_
    rintro e v5 ⟨rfl, rfl⟩
    refine ⟨HC, ?_⟩
    refine anyC_take (i := 6) (v := .int .i64 (1 + (wa : Int) + 1 + 4 + 2 + wb)) (a' := ?_) HC rfl rfl (by kernel_rfl) (by kernel_rfl) (by kernel_rfl) hQp (by rfl) ?_ ?_ ?_
    rotate_left 1
    · intro X hX
      go_simp
      rw [wrap64 (by omega) (by omega)]
    · simp [Act.put]
      rfl
    refine anyC_step (i := 9) (by kernel_rfl) rfl (by rfl) ?_
    unfold Oper.wp
    go_simp
    refine (HCC.out _).mono ?_
    rintro e v9 ⟨rfl, rfl⟩
    refine ⟨HC, ?_⟩
    refine anyC_take (i := 10) (v := .int .i64 (1 + (wa : Int) + 1 + 4 + 2 + wb + wc)) (a' := ?_) HC rfl rfl (by kernel_rfl) (by kernel_rfl) (by kernel_rfl) hQp (by rfl) ?_ ?_ ?_
    rotate_left 1
    · intro X hX
      go_simp
      rw [wrap64 (by omega) (by omega)]
    · simp [Act.put]
      rfl
    refine anyC_take (i := 11) (v := ?_) (a' := ?_) HC rfl rfl (by kernel_rfl) (by kernel_rfl) (by kernel_rfl) hQp (by rfl) ?_ ?_ ?_
    rotate_left 2
    · intro X hX
      go_simp
      first | rfl | (rw [if_neg (by omega)])
    · simp [Act.put]
      rfl
    refine anyC_done (by kernel_rfl) ?_ _
    clear hQp
    go_wp2
    go_ret
    exact ⟨by rw [HP.out]; rfl, HC.1⟩
  · have HP := Lib.hid (show ((printedL s : Nat) : Int) = 2 + (wa : Int) + 4 + keepSum s.keep nk by
      unfold printedL keepSum; rw [hk, HWA.out, HNW.out.2, List.take_length]; simp)
    rw [hk] at ha0
    clear hk
    go_wp2
    go_loopw [4, 5] (fun s4 s5 wr => ∃ j k : Nat, s5 = .int .i64 j ∧ s4 = .int .i64 k ∧ j ≤ nk ∧ k = 2 + wa + 4 + keepSum s.keep j ∧ wr = W') (fun _ s5 _ => nk - (RowKit.intOf s5).toNat)
    case atStart => exact ⟨0, 2 + wa + 4, by go_num, by congr 1; push_cast; omega, Nat.zero_le _, by simp [keepSum], rfl⟩
    case round =>
      obtain ⟨j, k, rfl, rfl, hj, hkk, rfl⟩ := hrel
      have hkb : k ≤ 2000000 := by have := keep_sum_le (l := s.keep) (by rw [← HNW.out.2]; exact hnk7) HN.out.2.2.2.2.2 j; omega
      have HKS := Lib.hid hkk
      clear hkk
      by_cases hjl : j < nk
      · obtain ⟨x, hx⟩ : ∃ x, s.keep[j]? = some x := ⟨_, List.getElem?_eq_getElem (by rw [← HNW.out.2]; exact hjl)⟩
        obtain ⟨b1, o1, c1, e1, r1⟩ := HS.out.2.at_ hx
        obtain rfl : B = some ⟨b1, o1, none⟩ := by injection e1
        have hcx := HW.out.1.cell r1 (by simp)
        have hnx := HN.out.2.2.2.2.2 x (List.mem_of_getElem? hx)
        have hks : keepSum s.keep (j + 1) = keepSum s.keep j + (1 + widthL x) := sum_snoc _ hx
        have hwx := wid40 hnx
        have HX := Lib.hid (And.intro hnx hks)
        have hjn : (j : Int) < (nk : Int) := by omega
        clear e1 r1 hx hnx hks
        obtain ⟨wx, hwxd⟩ : ∃ wx, wx = widthL x := ⟨_, rfl⟩
        rw [← hwxd] at hwx
        go_wp2_with fail
        refine (width40 _ HX.out.1).mono ?_
        rintro e W2 ⟨rfl, rfl⟩
        rw [← hwxd]
        have HX2 := Lib.hid hwxd
        clear hwxd
        go_wp2
        go_roundw
        case rel => exact ⟨j + 1, k + 1 + wx, by go_num, by go_num, by omega, by rw [HX.out.2, ← HX2.out, HKS.out]; omega, trivial⟩
        case measure => simp [RowKit.intOf]; omega
      · obtain rfl : j = nk := by omega
        have HP2 := Lib.hid (show ((printedL s : Nat) : Int) = (k : Int) by rw [HP.out, HKS.out]; push_cast; omega)
        go_wp2
        go_ret
        exact ⟨by rw [HP2.out]; rfl, HW.out.1⟩
set_option maxRecDepth 100000 in
set_option maxHeartbeats 8000000 in
theorem printed_b (w : World) (s : StepS) (wv kv : Value) (hc : Canon s) (HK : s.kind = 1 ∧ s.op.kind = 1 ∧ s.op.snap = 0) (hn : Nice s) (h1 : SeenWrs w wv s.op.writes) (h2 : SeenInts w kv s.keep) :
    Calls Tryz.prog 24 #[.agg (stepCells s wv kv)] w fun e w' => e = .returned (.int .i64 (printedL s)) ∧ Mod [] w w' := by
  have HS := Lib.hid (And.intro h1 h2)
  have hone : (#[.int .i64 s.op.kind, wv, .bool s.op.sync, .string ⟨s.op.key.toArray⟩, .string ⟨s.op.til.toArray⟩, .int .i64 s.op.n, .int .i64 s.op.snap] : Array Value).all (·.oneCell') = true := op_one (by obtain ⟨_, _, rfl, _⟩ := h1; rfl)
  replace HK := Lib.hid HK
  have HN := Lib.hid (canon_nums hc)
  have HL := Lib.hid hn
  obtain ⟨A, c, rfl, _⟩ := h1
  obtain ⟨B, d, rfl, _⟩ := h2
  obtain ⟨nw, hnw⟩ : ∃ nw, nw = s.op.writes.length := ⟨_, rfl⟩
  obtain ⟨nk, hnk⟩ : ∃ nk, nk = s.keep.length := ⟨_, rfl⟩
  rw [← hnw] at hone
  rw [← hnw, ← hnk]
  have hnw7 : nw ≤ 70000 := by rw [hnw]; exact hn.1.2.2.1
  have hnk7 : nk ≤ 70000 := by rw [hnk]; exact hn.1.2.2.2.1
  have HNW := Lib.hid (And.intro hnw hnk)
  have HONE := Lib.hid hone
  clear hc hn hnw hnk hone
  unfold stepCells opCells
  go_enter Tryz.func24, Tryz.ntmps24
  go_wp2_with fail
  have HC : Mod [] w ((w.alloc (.cells #[.int .i64 s.kind, .int .i64 s.a, .int .i64 s.b, .int .i64 s.c, .int .i64 s.op.kind, .slice A nw c, .bool s.op.sync, .string ⟨s.op.key.toArray⟩, .string ⟨s.op.til.toArray⟩, .int .i64 s.op.n, .int .i64 s.op.snap, .slice B nk d] 69)).alloc (.cells #[.int .i64 s.op.kind, .slice A nw c, .bool s.op.sync, .string ⟨s.op.key.toArray⟩, .string ⟨s.op.til.toArray⟩, .int .i64 s.op.n, .int .i64 s.op.snap] 67)) ∧ Blk ((w.alloc (.cells #[.int .i64 s.kind, .int .i64 s.a, .int .i64 s.b, .int .i64 s.c, .int .i64 s.op.kind, .slice A nw c, .bool s.op.sync, .string ⟨s.op.key.toArray⟩, .string ⟨s.op.til.toArray⟩, .int .i64 s.op.n, .int .i64 s.op.snap, .slice B nk d] 69)).alloc (.cells #[.int .i64 s.op.kind, .slice A nw c, .bool s.op.sync, .string ⟨s.op.key.toArray⟩, .string ⟨s.op.til.toArray⟩, .int .i64 s.op.n, .int .i64 s.op.snap] 67)) w.heap.size 69 #[.int .i64 s.kind, .int .i64 s.a, .int .i64 s.b, .int .i64 s.c, .int .i64 s.op.kind, .slice A nw c, .bool s.op.sync, .string ⟨s.op.key.toArray⟩, .string ⟨s.op.til.toArray⟩, .int .i64 s.op.n, .int .i64 s.op.snap, .slice B nk d] ∧ Blk ((w.alloc (.cells #[.int .i64 s.kind, .int .i64 s.a, .int .i64 s.b, .int .i64 s.c, .int .i64 s.op.kind, .slice A nw c, .bool s.op.sync, .string ⟨s.op.key.toArray⟩, .string ⟨s.op.til.toArray⟩, .int .i64 s.op.n, .int .i64 s.op.snap, .slice B nk d] 69)).alloc (.cells #[.int .i64 s.op.kind, .slice A nw c, .bool s.op.sync, .string ⟨s.op.key.toArray⟩, .string ⟨s.op.til.toArray⟩, .int .i64 s.op.n, .int .i64 s.op.snap] 67)) (w.heap.size + 1) 67 #[.int .i64 s.op.kind, .slice A nw c, .bool s.op.sync, .string ⟨s.op.key.toArray⟩, .string ⟨s.op.til.toArray⟩, .int .i64 s.op.n, .int .i64 s.op.snap] := ⟨((Mod.refl [] w).alloc _).alloc _, (Blk.new _ _ _).alloc _, Blk.newAt _ _ _ (by simp)⟩
  generalize ((w.alloc (.cells #[.int .i64 s.kind, .int .i64 s.a, .int .i64 s.b, .int .i64 s.c, .int .i64 s.op.kind, .slice A nw c, .bool s.op.sync, .string ⟨s.op.key.toArray⟩, .string ⟨s.op.til.toArray⟩, .int .i64 s.op.n, .int .i64 s.op.snap, .slice B nk d] 69)).alloc (.cells #[.int .i64 s.op.kind, .slice A nw c, .bool s.op.sync, .string ⟨s.op.key.toArray⟩, .string ⟨s.op.til.toArray⟩, .int .i64 s.op.n, .int .i64 s.op.snap] 67)) = W at HC ⊢
  obtain ⟨q, hq⟩ : ∃ q, q = w.heap.size + 1 := ⟨_, rfl⟩
  rw [← hq] at HC ⊢
  clear hq
  obtain ⟨p, hp⟩ : ∃ p, p = w.heap.size := ⟨_, rfl⟩
  rw [← hp] at HC ⊢
  clear hp
  have HW := Lib.hid HC
  have ha0 := HC.2.1.cell 0
  have ha1 := HC.2.1.cell 1
  have ha2 := HC.2.1.cell 2
  have ha3 := HC.2.1.cell 3
  have ha5 := HC.2.1.cell 5
  have ha11 := HC.2.1.cell 11
  have hb0 := HC.2.2.cell 0
  have hb1 := HC.2.2.cell 1
  have hb2 := HC.2.2.cell 2
  have hb3 := HC.2.2.cell 3
  have hb4 := HC.2.2.cell 4
  have hb5 := HC.2.2.cell 5
  have hb6 := HC.2.2.cell 6
  simp at ha0 ha1 ha2 ha3 ha5 ha11 hb0 hb1 hb2 hb3 hb4 hb5 hb6
  clear HC
  refine (width40 W HN.out.1).mono ?_
  rintro e W' ⟨rfl, rfl⟩
  obtain ⟨wa, hwa⟩ : ∃ wa, wa = widthL s.a := ⟨_, rfl⟩
  have hwa20 : wa ≤ 20 := by rw [hwa]; exact wid40 HN.out.1
  rw [← hwa]
  have HWA := Lib.hid hwa
  clear hwa
  obtain ⟨hk, hk2⟩ := HK.out
  clear HK
  · rw [hk] at ha0
    have HKK := Lib.hid hk
    clear hk
    obtain ⟨ws, hws⟩ : ∃ ws, ws = widthL s.op.snap := ⟨_, rfl⟩
    have hws20 : ws ≤ 20 := by rw [hws]; exact wid40 HN.out.2.2.2.2.1
    have HCS := Lib.hid (show ∀ X, Calls Tryz.prog 88 #[.int .i64 s.op.snap] X fun e w' => e = .returned (.int .i64 ws) ∧ w' = X from fun X => hws ▸ width40 X HN.out.2.2.2.2.1)
    have HWS := Lib.hid hws
    clear hws
    rcases hk2 with ⟨hk2, hs0⟩
    · have HP := Lib.hid (show ((printedL s : Nat) : Int) = 2 + (wa : Int) + 5 + ((s.op.writes.map wrLen).sum : Nat) + (if s.op.sync then (5 : Nat) else 0 : Nat) by
        unfold printedL; rw [HKK.out, hk2, HWA.out]; simp; rfl)
      rw [hk2] at hb0
      rw [hs0] at hb6
      clear hk2 hs0
      go_wp2
      go_loopw [4, 7] (fun s4 s7 wr => ∃ j k : Nat, s7 = .int .i64 j ∧ s4 = .int .i64 k ∧ j ≤ nw ∧ k = 2 + wa + 5 + ((s.op.writes.take j).map wrLen).sum ∧ wr = W') (fun _ s7 _ => nw - (RowKit.intOf s7).toNat)
      case atStart => exact ⟨0, 2 + wa + 5, by go_num, by congr 1; push_cast; omega, Nat.zero_le _, by simp, rfl⟩
      case round =>
        obtain ⟨j, k, rfl, rfl, hj, hkk, rfl⟩ := hrel
        have hkb : k ≤ 39300000000 := by have := wr_sum_le (l := s.op.writes) (by rw [← HNW.out.1]; exact hnw7) HL.out.1.2.2.2.2 j; omega
        have HKS := Lib.hid hkk
        clear hkk
        by_cases hjl : j < nw
        · obtain ⟨x, hx⟩ : ∃ x, s.op.writes[j]? = some x := ⟨_, List.getElem?_eq_getElem (by rw [← HNW.out.1]; exact hjl)⟩
          obtain ⟨b1, o1, c1, e1, r1, r2, r3⟩ := HS.out.1.at_ hx
          obtain rfl : A = some ⟨b1, o1, none⟩ := by injection e1
          have hcx1 := HW.out.1.cell r1 (by simp)
          have hcx2 := HW.out.1.cell r2 (by simp)
          have hcx3 := HW.out.1.cell r3 (by simp)
          have hcx4 := hcx2
          have hcx5 := hcx3
          rw [← Nat.add_assoc] at hcx4 hcx5
          have hks : ((s.op.writes.take (j + 1)).map wrLen).sum = ((s.op.writes.take j).map wrLen).sum + wrLen x := sum_snoc wrLen hx
          have hm := HL.out.1.2.2.2.2 x (List.mem_of_getElem? hx)
          have h3 := marked_le hm.1
          have h4 := marked_le hm.2
          have hjn : (j : Int) < (nw : Int) := by omega
          have HX := Lib.hid (And.intro hm hks)
          clear e1 r1 r2 r3 hx hks hm
          obtain ⟨mk1, hmk1⟩ : ∃ m, m = markedL x.key := ⟨_, rfl⟩
          obtain ⟨mk2, hmk2⟩ : ∃ m, m = markedL x.val := ⟨_, rfl⟩
          rw [← hmk1] at h3
          rw [← hmk2] at h4
          have HCK := Lib.hid (show ∀ X, Calls Tryz.prog 89 #[.string ⟨x.key.toArray⟩] X fun e w' => e = .returned (.int .i64 mk1) ∧ w' = X from fun X => hmk1 ▸ marked_of X x.key HX.out.1.1)
          have HCV := Lib.hid (show ∀ X, Calls Tryz.prog 89 #[.string ⟨x.val.toArray⟩] X fun e w' => e = .returned (.int .i64 mk2) ∧ w' = X from fun X => hmk2 ▸ marked_of X x.val HX.out.1.2)
          have HMK := Lib.hid (And.intro hmk1 hmk2)
          clear hmk1 hmk2
          rcases hdel : x.del with _ | _
          · have HWL := Lib.hid (show wrLen x = 4 + mk1 + mk2 by unfold wrLen; rw [hdel, HMK.out.1, HMK.out.2]; simp)
            rw [hdel] at hcx2 hcx4
            clear hdel
            go_wp2_with fail
            refine (HCK.out _).mono ?_
            rintro e W2 ⟨rfl, rfl⟩
            go_wp2_with fail
            refine (HCV.out _).mono ?_
            rintro e W2 ⟨rfl, rfl⟩
            go_wp2
            go_roundw
            case rel => exact ⟨j + 1, k + 4 + mk1 + mk2, by go_num, by go_num, by omega, by rw [HX.out.2, HWL.out, HKS.out]; omega, trivial⟩
            case measure => simp [RowKit.intOf]; omega
          · have HWL := Lib.hid (show wrLen x = 4 + mk1 by unfold wrLen; rw [hdel, HMK.out.1]; simp)
            rw [hdel] at hcx2 hcx4
            clear hdel
            go_wp2_with fail
            refine (HCK.out _).mono ?_
            rintro e W2 ⟨rfl, rfl⟩
            go_wp2
            go_roundw
            case rel => exact ⟨j + 1, k + 4 + mk1, by go_num, by go_num, by omega, by rw [HX.out.2, HWL.out, HKS.out]; omega, trivial⟩
            case measure => simp [RowKit.intOf]; omega
        · have hjn : j = nw := by omega
          have hfull : (s.op.writes.take j) = s.op.writes := List.take_of_length_le (by rw [hjn, HNW.out.1]; exact Nat.le_refl _)
          have hkk := HKS.out
          rw [hfull] at hkk
          have HKK2 := Lib.hid hkk
          clear hkk
          rcases hsy : s.op.sync with _ | _
          · have HP2 := Lib.hid (show ((printedL s : Nat) : Int) = (k : Int) by rw [HP.out, hsy, HKK2.out]; simp only [Bool.false_eq_true, if_false]; omega)
            rw [hsy] at hb2
            clear hfull hsy
            go_wp2
            go_ret
            exact ⟨by rw [HP2.out]; rfl, HW.out.1⟩
          · have HP2 := Lib.hid (show ((printedL s : Nat) : Int) = (k : Int) + 5 by rw [HP.out, hsy, HKK2.out]; simp only [if_true]; omega)
            rw [hsy] at hb2
            clear hfull hsy
            go_wp2
            go_ret
            exact ⟨by rw [HP2.out]; rfl, HW.out.1⟩
end Go.Proofs.YtjieelmbgfnllaaGreatDoor

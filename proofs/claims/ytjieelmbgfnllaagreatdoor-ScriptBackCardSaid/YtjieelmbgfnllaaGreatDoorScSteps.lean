/- sameWrites, sameStep, sameSteps of the laws at steps that say the same. Conditions: at most 20000 steps; at most 70000 writes and numbers in each. -/
import Derived.Test.YtjieelmbgfnllaaGreatDoorScEqf
namespace Go.Proofs.YtjieelmbgfnllaaGreatDoor
open Go.RowKit Scr

set_option maxRecDepth 100000 in
set_option maxHeartbeats 4000000 in
theorem lawwrites_walk (w : World) (v1 v2 : Value) (l : List Wr) (h1 : SeenWrs w v1 l) (h2 : SeenWrs w v2 l) (hl : l.length ≤ 70000) :
    Calls Tryz.prog 118 #[v1, v2] w fun e w' => e = .returned (.bool true) ∧ Mod [] w w' := by
  have HS := Lib.hid (And.intro h1 h2)
  obtain ⟨A, c, rfl, _⟩ := h1
  obtain ⟨B, d, rfl, _⟩ := h2
  obtain ⟨n, hn⟩ : ∃ n, n = l.length := ⟨_, rfl⟩
  rw [← hn] at hl ⊢
  have HN := Lib.hid hn
  clear hn
  go_enter Tryz.func118, Tryz.ntmps118
  go_wp2
  go_loopw [5] (fun s5 wr => ∃ j : Nat, s5 = .int .i64 j ∧ j ≤ n ∧ Mod [] w wr) (fun s5 _ => n - (RowKit.intOf s5).toNat)
  case atStart => exact ⟨0, by go_num, Nat.zero_le _, Mod.refl _ _⟩
  case round =>
    obtain ⟨j, rfl, hj, hm⟩ := hrel
    by_cases hjl : j < n
    · obtain ⟨x, hx⟩ : ∃ x, l[j]? = some x := ⟨_, List.getElem?_eq_getElem (by rw [← HN.out]; exact hjl)⟩
      obtain ⟨b1, o1, c1, e1, r1⟩ := HS.out.1.range hx
      obtain ⟨b2, o2, c2, e2, r2⟩ := HS.out.2.range hx
      have HR := Lib.hid (And.intro (fun (X : World) (hX : Mod [] w X) => range_new r1 hX) (fun (X : World) (hX : Mod [] w X) => range_new r2 hX))
      have HM := Lib.hid hm
      cases e1
      cases e2
      clear r1 r2 hm hx
      have hjn : (j : Int) < (n : Int) := by omega
      go_wp2
      refine region_C (fun X => Mod [] w X) (by kernel_rfl) (fun _ _ _ _ _ h => h) (fun hQp => ?_)
      have HC := HM.out.drew
      simp only [List.length_cons, List.length_nil]
      refine anyC_take (i := 0) (v := ?_) (a' := ?_) HC rfl rfl (by kernel_rfl) (by kernel_rfl) (by kernel_rfl) hQp (by rfl) ?_ ?_ ?_
      rotate_left 2
      · intro X hX
        go_simp
        first | rfl | (rw [if_neg (by omega)])
      · simp [Act.put]
        rfl
      refine anyC_take (i := 1) (v := ?_) (a' := ?_) HC rfl rfl (by kernel_rfl) (by kernel_rfl) (by kernel_rfl) hQp (by rfl) ?_ ?_ ?_
      rotate_left 2
      · intro X hX
        go_simp
        first | rfl | (rw [if_neg (by omega)])
      · simp [Act.put]
        rfl
      refine anyC_take (i := 2) (v := ?_) (a' := ?_) HC rfl rfl (by kernel_rfl) (by kernel_rfl) (by kernel_rfl) hQp (by rfl) ?_ ?_ ?_
      rotate_left 2
      · intro X hX
        go_simp
        first | rfl | (rw [if_neg (by omega)])
      · simp [Act.put]
        rfl
      refine anyC_take (i := 3) (v := .agg #[.string ⟨x.key.toArray⟩, .bool x.del, .string ⟨x.val.toArray⟩]) (a' := ?_) HC rfl rfl (by kernel_rfl) (by kernel_rfl) (by kernel_rfl) hQp (by rfl) ?_ ?_ ?_
      rotate_left 1
      · intro X hX
        apply exec_load_mid 71 (hc := HR.out.1 X hX) (hu := Tryz.underlying71) (hd := rfl) (hi := by kernel_rfl)
        all_goals rfl
      · simp [Act.put]
        rfl
      refine anyC_take (i := 4) (v := ?_) (a' := ?_) HC rfl rfl (by kernel_rfl) (by kernel_rfl) (by kernel_rfl) hQp (by rfl) ?_ ?_ ?_
      rotate_left 2
      · intro X hX
        go_simp
        first | rfl | (rw [if_neg (by omega)])
      · simp [Act.put]
        rfl
      refine anyC_take (i := 5) (v := ?_) (a' := ?_) HC rfl rfl (by kernel_rfl) (by kernel_rfl) (by kernel_rfl) hQp (by rfl) ?_ ?_ ?_
      rotate_left 2
      · intro X hX
        go_simp
        first | rfl | (rw [if_neg (by omega)])
      · simp [Act.put]
        rfl
      refine anyC_take (i := 6) (v := ?_) (a' := ?_) HC rfl rfl (by kernel_rfl) (by kernel_rfl) (by kernel_rfl) hQp (by rfl) ?_ ?_ ?_
      rotate_left 2
      · intro X hX
        go_simp
        first | rfl | (rw [if_neg (by omega)])
      · simp [Act.put]
        rfl
      refine anyC_take (i := 7) (v := .agg #[.string ⟨x.key.toArray⟩, .bool x.del, .string ⟨x.val.toArray⟩]) (a' := ?_) HC rfl rfl (by kernel_rfl) (by kernel_rfl) (by kernel_rfl) hQp (by rfl) ?_ ?_ ?_
      rotate_left 1
      · intro X hX
        apply exec_load_mid 71 (hc := HR.out.2 X hX) (hu := Tryz.underlying71) (hd := rfl) (hi := by kernel_rfl)
        all_goals rfl
      · simp [Act.put]
        rfl
      refine anyC_take (i := 8) (v := ?_) (a' := ?_) HC rfl rfl (by kernel_rfl) (by kernel_rfl) (by kernel_rfl) hQp (by rfl) ?_ ?_ ?_
      rotate_left 2
      · intro X hX
        have hne := wr_neq x X
        have hgd := wr_guard
        go_simp
        rfl
      · simp [Act.put]
        rfl
      refine anyC_done (by kernel_rfl) ?_ _
      clear hQp
      go_wp2
      go_roundw
      case rel => exact ⟨j + 1, by go_num, by omega, HC⟩
      case measure => simp [RowKit.intOf]; omega
    · go_wp2
      go_ret
      exact ⟨rfl, hm⟩

set_option maxRecDepth 100000 in
set_option maxHeartbeats 8000000 in
theorem lawstep_walk (w : World) (s : StepS) (wv kv wu ku : Value) (h1 : SeenWrs w wv s.op.writes) (h2 : SeenWrs w wu s.op.writes) (h3 : SeenInts w kv s.keep) (h4 : SeenInts w ku s.keep) (hl : s.op.writes.length ≤ 70000) (hk : s.keep.length ≤ 70000) :
    Calls Tryz.prog 41 #[.agg (stepCells s wv kv), .agg (stepCells s wu ku)] w fun e w' => e = .returned (.bool true) ∧ Mod [] w w' := by
  have HS := Lib.hid (And.intro h1 (And.intro h2 (And.intro h3 (And.intro h4 (And.intro hl hk)))))
  have hwv : wv.oneCell' = true := by obtain ⟨_, _, rfl, _⟩ := h1; rfl
  have hwu : wu.oneCell' = true := by obtain ⟨_, _, rfl, _⟩ := h2; rfl
  obtain ⟨A, c, rfl, _⟩ := h3
  obtain ⟨B, d, rfl, _⟩ := h4
  obtain ⟨n, hn⟩ : ∃ n, n = s.keep.length := ⟨_, rfl⟩
  rw [← hn] at hk ⊢
  have HN := Lib.hid hn
  clear h1 h2 hl hn
  unfold stepCells opCells
  go_enter Tryz.func41, Tryz.ntmps41
  go_wp2_with fail
  have HC : Mod [] w ((w.alloc (.cells #[.int .i64 s.kind, .int .i64 s.a, .int .i64 s.b, .int .i64 s.c, .int .i64 s.op.kind, wv, .bool s.op.sync, .string ⟨s.op.key.toArray⟩, .string ⟨s.op.til.toArray⟩, .int .i64 s.op.n, .int .i64 s.op.snap, .slice A n c] 69)).alloc (.cells #[.int .i64 s.kind, .int .i64 s.a, .int .i64 s.b, .int .i64 s.c, .int .i64 s.op.kind, wu, .bool s.op.sync, .string ⟨s.op.key.toArray⟩, .string ⟨s.op.til.toArray⟩, .int .i64 s.op.n, .int .i64 s.op.snap, .slice B n d] 69)) ∧ Blk ((w.alloc (.cells #[.int .i64 s.kind, .int .i64 s.a, .int .i64 s.b, .int .i64 s.c, .int .i64 s.op.kind, wv, .bool s.op.sync, .string ⟨s.op.key.toArray⟩, .string ⟨s.op.til.toArray⟩, .int .i64 s.op.n, .int .i64 s.op.snap, .slice A n c] 69)).alloc (.cells #[.int .i64 s.kind, .int .i64 s.a, .int .i64 s.b, .int .i64 s.c, .int .i64 s.op.kind, wu, .bool s.op.sync, .string ⟨s.op.key.toArray⟩, .string ⟨s.op.til.toArray⟩, .int .i64 s.op.n, .int .i64 s.op.snap, .slice B n d] 69)) w.heap.size 69 #[.int .i64 s.kind, .int .i64 s.a, .int .i64 s.b, .int .i64 s.c, .int .i64 s.op.kind, wv, .bool s.op.sync, .string ⟨s.op.key.toArray⟩, .string ⟨s.op.til.toArray⟩, .int .i64 s.op.n, .int .i64 s.op.snap, .slice A n c] ∧ Blk ((w.alloc (.cells #[.int .i64 s.kind, .int .i64 s.a, .int .i64 s.b, .int .i64 s.c, .int .i64 s.op.kind, wv, .bool s.op.sync, .string ⟨s.op.key.toArray⟩, .string ⟨s.op.til.toArray⟩, .int .i64 s.op.n, .int .i64 s.op.snap, .slice A n c] 69)).alloc (.cells #[.int .i64 s.kind, .int .i64 s.a, .int .i64 s.b, .int .i64 s.c, .int .i64 s.op.kind, wu, .bool s.op.sync, .string ⟨s.op.key.toArray⟩, .string ⟨s.op.til.toArray⟩, .int .i64 s.op.n, .int .i64 s.op.snap, .slice B n d] 69)) (w.heap.size + 1) 69 #[.int .i64 s.kind, .int .i64 s.a, .int .i64 s.b, .int .i64 s.c, .int .i64 s.op.kind, wu, .bool s.op.sync, .string ⟨s.op.key.toArray⟩, .string ⟨s.op.til.toArray⟩, .int .i64 s.op.n, .int .i64 s.op.snap, .slice B n d] := ⟨((Mod.refl [] w).alloc _).alloc _, (Blk.new _ _ _).alloc _, Blk.newAt _ _ _ (by simp)⟩
  generalize ((w.alloc (.cells #[.int .i64 s.kind, .int .i64 s.a, .int .i64 s.b, .int .i64 s.c, .int .i64 s.op.kind, wv, .bool s.op.sync, .string ⟨s.op.key.toArray⟩, .string ⟨s.op.til.toArray⟩, .int .i64 s.op.n, .int .i64 s.op.snap, .slice A n c] 69)).alloc (.cells #[.int .i64 s.kind, .int .i64 s.a, .int .i64 s.b, .int .i64 s.c, .int .i64 s.op.kind, wu, .bool s.op.sync, .string ⟨s.op.key.toArray⟩, .string ⟨s.op.til.toArray⟩, .int .i64 s.op.n, .int .i64 s.op.snap, .slice B n d] 69)) = W at HC ⊢
  obtain ⟨p, hp⟩ : ∃ p, p = w.heap.size := ⟨_, rfl⟩
  rw [← hp] at HC ⊢
  clear hp
  have HD := Lib.hid HC
  have ha0 := HC.2.1.cell 0
  have ha1 := HC.2.1.cell 1
  have ha2 := HC.2.1.cell 2
  have ha3 := HC.2.1.cell 3
  have ha4 := HC.2.1.cell 4
  have ha5 := HC.2.1.cell 5
  have ha6 := HC.2.1.cell 6
  have ha7 := HC.2.1.cell 7
  have ha8 := HC.2.1.cell 8
  have ha9 := HC.2.1.cell 9
  have ha10 := HC.2.1.cell 10
  have ha11 := HC.2.1.cell 11
  have haf0 := HC.2.1.frozen 0
  have haf1 := HC.2.1.frozen 1
  have haf2 := HC.2.1.frozen 2
  have haf3 := HC.2.1.frozen 3
  have haf4 := HC.2.1.frozen 4
  have haf5 := HC.2.1.frozen 5
  have haf6 := HC.2.1.frozen 6
  have haf7 := HC.2.1.frozen 7
  have haf8 := HC.2.1.frozen 8
  have haf9 := HC.2.1.frozen 9
  have haf10 := HC.2.1.frozen 10
  have haf11 := HC.2.1.frozen 11
  simp at ha0 ha1 ha2 ha3 ha4 ha5 ha6 ha7 ha8 ha9 ha10 ha11
  have hb0 := HC.2.2.cell 0
  have hb1 := HC.2.2.cell 1
  have hb2 := HC.2.2.cell 2
  have hb3 := HC.2.2.cell 3
  have hb4 := HC.2.2.cell 4
  have hb5 := HC.2.2.cell 5
  have hb6 := HC.2.2.cell 6
  have hb7 := HC.2.2.cell 7
  have hb8 := HC.2.2.cell 8
  have hb9 := HC.2.2.cell 9
  have hb10 := HC.2.2.cell 10
  have hb11 := HC.2.2.cell 11
  have hbf0 := HC.2.2.frozen 0
  have hbf1 := HC.2.2.frozen 1
  have hbf2 := HC.2.2.frozen 2
  have hbf3 := HC.2.2.frozen 3
  have hbf4 := HC.2.2.frozen 4
  have hbf5 := HC.2.2.frozen 5
  have hbf6 := HC.2.2.frozen 6
  have hbf7 := HC.2.2.frozen 7
  have hbf8 := HC.2.2.frozen 8
  have hbf9 := HC.2.2.frozen 9
  have hbf10 := HC.2.2.frozen 10
  have hbf11 := HC.2.2.frozen 11
  simp at hb0 hb1 hb2 hb3 hb4 hb5 hb6 hb7 hb8 hb9 hb10 hb11
  clear HC
  go_wp2_with fail
  refine (lawwrites_walk _ _ _ s.op.writes (HS.out.1.new HD.out.1) (HS.out.2.1.new HD.out.1) HS.out.2.2.2.2.1).mono ?_
  rintro e W1 ⟨rfl, hm1⟩
  replace HD := Lib.hid (And.intro (HD.out.1.trans hm1) (And.intro (hm1.blk HD.out.2.1 (by simp)) (hm1.blk HD.out.2.2 (by simp))))
  clear hm1 ha0 ha1 ha2 ha3 ha4 ha5 ha6 ha7 ha8 ha9 ha10 ha11 hb0 hb1 hb2 hb3 hb4 hb5 hb6 hb7 hb8 hb9 hb10 hb11
  go_wp2
  go_loopw [5] (fun s5 wr => ∃ j : Nat, s5 = .int .i64 j ∧ j ≤ n ∧ Mod [] w wr ∧ Blk wr p 69 #[.int .i64 s.kind, .int .i64 s.a, .int .i64 s.b, .int .i64 s.c, .int .i64 s.op.kind, wv, .bool s.op.sync, .string ⟨s.op.key.toArray⟩, .string ⟨s.op.til.toArray⟩, .int .i64 s.op.n, .int .i64 s.op.snap, .slice A n c] ∧ Blk wr (p + 1) 69 #[.int .i64 s.kind, .int .i64 s.a, .int .i64 s.b, .int .i64 s.c, .int .i64 s.op.kind, wu, .bool s.op.sync, .string ⟨s.op.key.toArray⟩, .string ⟨s.op.til.toArray⟩, .int .i64 s.op.n, .int .i64 s.op.snap, .slice B n d]) (fun s5 _ => n - (RowKit.intOf s5).toNat)
  case atStart => exact ⟨0, by go_num, Nat.zero_le _, HD.out⟩
  case round =>
    obtain ⟨j, rfl, hj, HC⟩ := hrel
    have HM := Lib.hid HC
    have ha0 := HC.2.1.cell 0
    have ha1 := HC.2.1.cell 1
    have ha2 := HC.2.1.cell 2
    have ha3 := HC.2.1.cell 3
    have ha4 := HC.2.1.cell 4
    have ha5 := HC.2.1.cell 5
    have ha6 := HC.2.1.cell 6
    have ha7 := HC.2.1.cell 7
    have ha8 := HC.2.1.cell 8
    have ha9 := HC.2.1.cell 9
    have ha10 := HC.2.1.cell 10
    have ha11 := HC.2.1.cell 11
    have haf0 := HC.2.1.frozen 0
    have haf1 := HC.2.1.frozen 1
    have haf2 := HC.2.1.frozen 2
    have haf3 := HC.2.1.frozen 3
    have haf4 := HC.2.1.frozen 4
    have haf5 := HC.2.1.frozen 5
    have haf6 := HC.2.1.frozen 6
    have haf7 := HC.2.1.frozen 7
    have haf8 := HC.2.1.frozen 8
    have haf9 := HC.2.1.frozen 9
    have haf10 := HC.2.1.frozen 10
    have haf11 := HC.2.1.frozen 11
    simp at ha0 ha1 ha2 ha3 ha4 ha5 ha6 ha7 ha8 ha9 ha10 ha11
    have hb0 := HC.2.2.cell 0
    have hb1 := HC.2.2.cell 1
    have hb2 := HC.2.2.cell 2
    have hb3 := HC.2.2.cell 3
    have hb4 := HC.2.2.cell 4
    have hb5 := HC.2.2.cell 5
    have hb6 := HC.2.2.cell 6
    have hb7 := HC.2.2.cell 7
    have hb8 := HC.2.2.cell 8
    have hb9 := HC.2.2.cell 9
    have hb10 := HC.2.2.cell 10
    have hb11 := HC.2.2.cell 11
    have hbf0 := HC.2.2.frozen 0
    have hbf1 := HC.2.2.frozen 1
    have hbf2 := HC.2.2.frozen 2
    have hbf3 := HC.2.2.frozen 3
    have hbf4 := HC.2.2.frozen 4
    have hbf5 := HC.2.2.frozen 5
    have hbf6 := HC.2.2.frozen 6
    have hbf7 := HC.2.2.frozen 7
    have hbf8 := HC.2.2.frozen 8
    have hbf9 := HC.2.2.frozen 9
    have hbf10 := HC.2.2.frozen 10
    have hbf11 := HC.2.2.frozen 11
    simp at hb0 hb1 hb2 hb3 hb4 hb5 hb6 hb7 hb8 hb9 hb10 hb11
    clear HC
    by_cases hjl : j < n
    · obtain ⟨x, hx⟩ : ∃ x, s.keep[j]? = some x := ⟨_, List.getElem?_eq_getElem (by rw [← HN.out]; exact hjl)⟩
      obtain ⟨b1, o1, c1, e1, r1⟩ := HS.out.2.2.1.at_ hx
      obtain ⟨b2, o2, c2, e2, r2⟩ := HS.out.2.2.2.1.at_ hx
      have HR := Lib.hid (And.intro (fun (X : World) (hX : Mod [] w X) => hX.cell r1 (by simp)) (fun (X : World) (hX : Mod [] w X) => hX.cell r2 (by simp)))
      obtain rfl : A = some ⟨b1, o1, none⟩ := by injection e1
      obtain rfl : B = some ⟨b2, o2, none⟩ := by injection e2
      clear e1 e2
      clear r1 r2 hx
      have hjn : (j : Int) < (n : Int) := by omega
      go_wp2
      refine region_C (fun X => Mod [] w X ∧ Blk X p 69 #[.int .i64 s.kind, .int .i64 s.a, .int .i64 s.b, .int .i64 s.c, .int .i64 s.op.kind, wv, .bool s.op.sync, .string ⟨s.op.key.toArray⟩, .string ⟨s.op.til.toArray⟩, .int .i64 s.op.n, .int .i64 s.op.snap, .slice (some ⟨b1, o1, none⟩) n c] ∧ Blk X (p + 1) 69 #[.int .i64 s.kind, .int .i64 s.a, .int .i64 s.b, .int .i64 s.c, .int .i64 s.op.kind, wu, .bool s.op.sync, .string ⟨s.op.key.toArray⟩, .string ⟨s.op.til.toArray⟩, .int .i64 s.op.n, .int .i64 s.op.snap, .slice (some ⟨b2, o2, none⟩) n d]) (by kernel_rfl) (fun _ _ _ _ _ h => h) (fun hQp => ?_)
      have HC := And.intro HM.out.1.drew (And.intro HM.out.2.1.drew HM.out.2.2.drew)
      simp only [List.length_cons, List.length_nil]
      refine anyC_take (i := 0) (v := ?_) (a' := ?_) HC rfl rfl (by kernel_rfl) (by kernel_rfl) (by kernel_rfl) hQp (by rfl) ?_ ?_ ?_
      rotate_left 2
      · intro X hX
        go_simp
        first | rfl | (rw [if_neg (by omega)])
      · simp [Act.put]
        rfl
      refine anyC_take (i := 1) (v := ?_) (a' := ?_) HC rfl rfl (by kernel_rfl) (by kernel_rfl) (by kernel_rfl) hQp (by rfl) ?_ ?_ ?_
      rotate_left 2
      · intro X hX
        have hx := hX.2.1.cell 11
        simp at hx
        go_simp
        rfl
      · simp [Act.put]
        rfl
      refine anyC_take (i := 2) (v := ?_) (a' := ?_) HC rfl rfl (by kernel_rfl) (by kernel_rfl) (by kernel_rfl) hQp (by rfl) ?_ ?_ ?_
      rotate_left 2
      · intro X hX
        go_simp
        first | rfl | (rw [if_neg (by omega)])
      · simp [Act.put]
        rfl
      refine anyC_take (i := 3) (v := ?_) (a' := ?_) HC rfl rfl (by kernel_rfl) (by kernel_rfl) (by kernel_rfl) hQp (by rfl) ?_ ?_ ?_
      rotate_left 2
      · intro X hX
        go_simp
        first | rfl | (rw [if_neg (by omega)])
      · simp [Act.put]
        rfl
      refine anyC_take (i := 4) (v := ?_) (a' := ?_) HC rfl rfl (by kernel_rfl) (by kernel_rfl) (by kernel_rfl) hQp (by rfl) ?_ ?_ ?_
      rotate_left 2
      · intro X hX
        have hx := HR.out.1 X hX.1
        go_simp
        rfl
      · simp [Act.put]
        rfl
      refine anyC_take (i := 5) (v := ?_) (a' := ?_) HC rfl rfl (by kernel_rfl) (by kernel_rfl) (by kernel_rfl) hQp (by rfl) ?_ ?_ ?_
      rotate_left 2
      · intro X hX
        go_simp
        first | rfl | (rw [if_neg (by omega)])
      · simp [Act.put]
        rfl
      refine anyC_take (i := 6) (v := ?_) (a' := ?_) HC rfl rfl (by kernel_rfl) (by kernel_rfl) (by kernel_rfl) hQp (by rfl) ?_ ?_ ?_
      rotate_left 2
      · intro X hX
        have hx := hX.2.2.cell 11
        simp at hx
        go_simp
        rfl
      · simp [Act.put]
        rfl
      refine anyC_take (i := 7) (v := ?_) (a' := ?_) HC rfl rfl (by kernel_rfl) (by kernel_rfl) (by kernel_rfl) hQp (by rfl) ?_ ?_ ?_
      rotate_left 2
      · intro X hX
        go_simp
        first | rfl | (rw [if_neg (by omega)])
      · simp [Act.put]
        rfl
      refine anyC_take (i := 8) (v := ?_) (a' := ?_) HC rfl rfl (by kernel_rfl) (by kernel_rfl) (by kernel_rfl) hQp (by rfl) ?_ ?_ ?_
      rotate_left 2
      · intro X hX
        go_simp
        first | rfl | (rw [if_neg (by omega)])
      · simp [Act.put]
        rfl
      refine anyC_take (i := 9) (v := ?_) (a' := ?_) HC rfl rfl (by kernel_rfl) (by kernel_rfl) (by kernel_rfl) hQp (by rfl) ?_ ?_ ?_
      rotate_left 2
      · intro X hX
        have hx := HR.out.2 X hX.1
        go_simp
        rfl
      · simp [Act.put]
        rfl
      refine anyC_take (i := 10) (v := ?_) (a' := ?_) HC rfl rfl (by kernel_rfl) (by kernel_rfl) (by kernel_rfl) hQp (by rfl) ?_ ?_ ?_
      rotate_left 2
      · intro X hX
        go_simp
        first | rfl | (rw [if_neg (by omega)])
      · simp [Act.put]
        rfl
      refine anyC_done (by kernel_rfl) ?_ _
      clear hQp
      go_wp2
      go_roundw
      case rel => exact ⟨j + 1, by go_num, by omega, HC⟩
      case measure => simp [RowKit.intOf]; omega
    · go_wp2
      go_ret
      exact ⟨rfl, HM.out.1⟩

set_option maxRecDepth 100000 in
set_option maxHeartbeats 4000000 in
theorem lawsteps_walk (w : World) (v1 v2 : Value) (rs1 rs2 : List RStep) (h1 : Seen w v1 rs1) (h2 : Seen w v2 rs2) (he : rs1.map (·.1) = rs2.map (·.1)) (hn : ∀ x ∈ rs1, x.1.op.writes.length ≤ 70000 ∧ x.1.keep.length ≤ 70000) (hl : rs1.length ≤ 70000) :
    Calls Tryz.prog 14 #[v1, v2] w fun e w' => e = .returned (.bool true) ∧ Mod [] w w' := by
  have HS := Lib.hid (And.intro h1 (And.intro h2 (And.intro he hn)))
  obtain ⟨A, c, rfl, _⟩ := h1.1
  obtain ⟨B, d, rfl, _⟩ := h2.1
  have hlen : rs2.length = rs1.length := by have := congrArg List.length he; simpa using this.symm
  rw [hlen]
  obtain ⟨n, hnn⟩ : ∃ n, n = rs1.length := ⟨_, rfl⟩
  rw [← hnn] at hl ⊢
  have HN := Lib.hid (And.intro hnn hlen)
  clear hnn hlen h1 h2 he hn
  go_enter Tryz.func14, Tryz.ntmps14
  go_wp2
  go_loopw [5] (fun s5 wr => ∃ j : Nat, s5 = .int .i64 j ∧ j ≤ n ∧ Mod [] w wr) (fun s5 _ => n - (RowKit.intOf s5).toNat)
  case atStart => exact ⟨0, by go_num, Nat.zero_le _, Mod.refl _ _⟩
  case round =>
    obtain ⟨j, rfl, hj, hm⟩ := hrel
    have HM := Lib.hid hm
    clear hm
    by_cases hjl : j < n
    · obtain ⟨x, hx⟩ : ∃ x, rs1[j]? = some x := ⟨_, List.getElem?_eq_getElem (by rw [← HN.out.1]; exact hjl)⟩
      obtain ⟨y, hy⟩ : ∃ y, rs2[j]? = some y := ⟨_, List.getElem?_eq_getElem (by rw [HN.out.2, ← HN.out.1]; exact hjl)⟩
      have hxy : y.1 = x.1 := by
        have h0 : (rs1.map (·.1))[j]? = (rs2.map (·.1))[j]? := by rw [HS.out.2.2.1]
        rw [List.getElem?_map, List.getElem?_map, hx, hy] at h0
        exact (Option.some.inj h0).symm
      obtain ⟨s, wv, kv⟩ := x
      obtain ⟨s', wu, ku⟩ := y
      replace hxy : s = s' := hxy.symm
      subst hxy
      obtain ⟨b1, o1, c1, e1, r1⟩ := HS.out.1.range hx
      obtain ⟨b2, o2, c2, e2, r2⟩ := HS.out.2.1.range hy
      have q1 := HS.out.1.2 _ (List.mem_of_getElem? hx)
      have q2 := HS.out.2.1.2 _ (List.mem_of_getElem? hy)
      have q3 := HS.out.2.2.2 _ (List.mem_of_getElem? hx)
      have HR := Lib.hid (And.intro (fun (X : World) (hX : Mod [] w X) => range_new r1 hX) (fun (X : World) (hX : Mod [] w X) => range_new r2 hX))
      have HQ := Lib.hid (And.intro q1 (And.intro q2 q3))
      cases e1
      cases e2
      clear r1 r2 hx hy q1 q2 q3
      have hjn : (j : Int) < (n : Int) := by omega
      go_wp2
      refine region_C (fun X => Mod [] w X) (by kernel_rfl) (fun _ _ _ _ _ h => h) (fun hQp => ?_)
      have HC := HM.out.drew
      simp only [List.length_cons, List.length_nil]
      refine anyC_take (i := 0) (v := ?_) (a' := ?_) HC rfl rfl (by kernel_rfl) (by kernel_rfl) (by kernel_rfl) hQp (by rfl) ?_ ?_ ?_
      rotate_left 2
      · intro X hX
        go_simp
        first | rfl | (rw [if_neg (by omega)])
      · simp [Act.put]
        rfl
      refine anyC_take (i := 1) (v := ?_) (a' := ?_) HC rfl rfl (by kernel_rfl) (by kernel_rfl) (by kernel_rfl) hQp (by rfl) ?_ ?_ ?_
      rotate_left 2
      · intro X hX
        go_simp
        first | rfl | (rw [if_neg (by omega)])
      · simp [Act.put]
        rfl
      refine anyC_take (i := 2) (v := ?_) (a' := ?_) HC rfl rfl (by kernel_rfl) (by kernel_rfl) (by kernel_rfl) hQp (by rfl) ?_ ?_ ?_
      rotate_left 2
      · intro X hX
        go_simp
        first | rfl | (rw [if_neg (by omega)])
      · simp [Act.put]
        rfl
      refine anyC_take (i := 3) (v := .agg (rowOf (s, wv, kv)).toArray) (a' := ?_) HC rfl rfl (by kernel_rfl) (by kernel_rfl) (by kernel_rfl) hQp (by rfl) ?_ ?_ ?_
      rotate_left 1
      · intro X hX
        apply exec_load_mid 69 (hc := HR.out.1 X hX) (hu := Tryz.underlying69) (hd := rfl) (hi := row_size _)
        all_goals rfl
      · simp [Act.put]
        rfl
      refine anyC_take (i := 4) (v := ?_) (a' := ?_) HC rfl rfl (by kernel_rfl) (by kernel_rfl) (by kernel_rfl) hQp (by rfl) ?_ ?_ ?_
      rotate_left 2
      · intro X hX
        go_simp
        first | rfl | (rw [if_neg (by omega)])
      · simp [Act.put]
        rfl
      refine anyC_take (i := 5) (v := ?_) (a' := ?_) HC rfl rfl (by kernel_rfl) (by kernel_rfl) (by kernel_rfl) hQp (by rfl) ?_ ?_ ?_
      rotate_left 2
      · intro X hX
        go_simp
        first | rfl | (rw [if_neg (by omega)])
      · simp [Act.put]
        rfl
      refine anyC_take (i := 6) (v := ?_) (a' := ?_) HC rfl rfl (by kernel_rfl) (by kernel_rfl) (by kernel_rfl) hQp (by rfl) ?_ ?_ ?_
      rotate_left 2
      · intro X hX
        go_simp
        first | rfl | (rw [if_neg (by omega)])
      · simp [Act.put]
        rfl
      refine anyC_take (i := 7) (v := .agg (rowOf (s, wu, ku)).toArray) (a' := ?_) HC rfl rfl (by kernel_rfl) (by kernel_rfl) (by kernel_rfl) hQp (by rfl) ?_ ?_ ?_
      rotate_left 1
      · intro X hX
        apply exec_load_mid 69 (hc := HR.out.2 X hX) (hu := Tryz.underlying69) (hd := rfl) (hi := row_size _)
        all_goals rfl
      · simp [Act.put]
        rfl
      refine anyC_step (i := 8) (by kernel_rfl) rfl (by rfl) ?_
      unfold Oper.wp
      go_simp
      refine (lawstep_walk _ s wv kv wu ku (HQ.out.1.1.new HC) (HQ.out.2.1.1.new HC) (HQ.out.1.2.new HC) (HQ.out.2.1.2.new HC) HQ.out.2.2.1 HQ.out.2.2.2).mono ?_
      rintro e W1 ⟨rfl, hm1⟩
      replace HC := HC.trans hm1
      refine ⟨HC, ?_⟩
      clear hm1
      refine anyC_take (i := 9) (v := ?_) (a' := ?_) HC rfl rfl (by kernel_rfl) (by kernel_rfl) (by kernel_rfl) hQp (by rfl) ?_ ?_ ?_
      rotate_left 2
      · intro X hX
        go_simp
        rfl
      · simp [Act.put]
        rfl
      refine anyC_done (by kernel_rfl) ?_ _
      clear hQp
      go_wp2
      go_roundw
      case rel => exact ⟨j + 1, by go_num, by omega, HC⟩
      case measure => simp [RowKit.intOf]; omega
    · go_wp2
      go_ret
      exact ⟨rfl, HM.out⟩
end Go.Proofs.YtjieelmbgfnllaaGreatDoor

/- sameWrites, sameStep, sameSteps of the laws at steps that say the same. Conditions: at most 20000 steps; at most 70000 writes and numbers in each. The law ScriptUnfolds, walked: true at all inputs. Conditions: the table of powers and errors.errorType are laid; internal/bytealg's variable MaxLen holds an integer. Laws on rows: append of a row that can be read onto an owned one; blocks known from their beginning on; what turned, told by the types of its blocks. Conditions: none. The room of marked lists (screeroom.Room) as it stands in memory: what it holds, and what stores into the lent lists leave. Conditions: none. The room's layInts and layWrites: a copy with four marks behind it, noted in the room. Conditions: at most 70000 things each. The room's hold.. at the kinds of lists that were never laid: true. Conditions: none. The room's holdWrites, holdSteps, and Hold: true where no mark was written over. Conditions: at most 70000 lists. Lent steps: a list of steps with room, each with lists of its own; what a store into one of them leaves. Conditions: none. The room's Step, laySteps, Steps: copies with marks behind all their lists. Conditions: at most 70000 things each. The reference's Twin: a step whose lists are copies in new memory. Conditions: at most 70000 things each. -/
import Derived.Test.YtjieelmbgfnllaaGreatDoorScMa
import Derived.Test.YtjieelmbgfnllaaGreatDoorScSeen
import Derived.Test.YtjieelmbgfnllaaGreatDoorScEq
namespace Go.Proofs.YtjieelmbgfnllaaGreatDoor
open Go.RowKit Scr

set_option maxRecDepth 100000 in
set_option maxHeartbeats 4000000 in
theorem lawwrites_walk (w : World) (v1 v2 : Value) (l : List Wr) (h1 : SeenWrs w v1 l) (h2 : SeenWrs w v2 l) (hl : l.length ≤ 70000) :
    Calls Tryz.prog 118 #[v1, v2] w fun e w' => e = .returned (.bool true) ∧ Mod [] w w' := by
  have HS := Lib.hid (And.intro h1 h2)
  obtain ⟨A, c, rfl, _⟩ := h1
  obtain ⟨B, d, rfl, _⟩ := h2
  obtain ⟨n, hn⟩ : ∃ n, n = l.length := ⟨_, rfl⟩
  rw [← hn] at hl ⊢
  have HN := Lib.hid hn
  clear hn
  go_enter Tryz.func118, Tryz.ntmps118
  go_wp2
  go_loopw [5] (fun s5 wr => ∃ j : Nat, s5 = .int .i64 j ∧ j ≤ n ∧ Mod [] w wr) (fun s5 _ => n - (RowKit.intOf s5).toNat)
  case atStart => exact ⟨0, by go_num, Nat.zero_le _, Mod.refl _ _⟩
  case round =>
    obtain ⟨j, rfl, hj, hm⟩ := hrel
    by_cases hjl : j < n
    · obtain ⟨x, hx⟩ : ∃ x, l[j]? = some x := ⟨_, List.getElem?_eq_getElem (by rw [← HN.out]; exact hjl)⟩
      obtain ⟨b1, o1, c1, e1, r1⟩ := HS.out.1.range hx
      obtain ⟨b2, o2, c2, e2, r2⟩ := HS.out.2.range hx
      have HR := Lib.hid (And.intro (fun (X : World) (hX : Mod [] w X) => range_new r1 hX) (fun (X : World) (hX : Mod [] w X) => range_new r2 hX))
      have HM := Lib.hid hm
      cases e1
      cases e2
      clear r1 r2 hm hx
      have hjn : (j : Int) < (n : Int) := by omega
      go_wp2
      refine region_C (fun X => Mod [] w X) (by kernel_rfl) (fun _ _ _ _ _ h => h) (fun hQp => ?_)
      have HC := HM.out.drew
      simp only [List.length_cons, List.length_nil]
      refine anyC_take (i := 0) (v := ?_) (a' := ?_) HC rfl rfl (by kernel_rfl) (by kernel_rfl) (by kernel_rfl) hQp (by rfl) ?_ ?_ ?_
      rotate_left 2
      · intro X hX
        go_simp
        first | rfl | (rw [if_neg (by omega)])
      · simp [Act.put]
        rfl
      refine anyC_take (i := 1) (v := ?_) (a' := ?_) HC rfl rfl (by kernel_rfl) (by kernel_rfl) (by kernel_rfl) hQp (by rfl) ?_ ?_ ?_
      rotate_left 2
      · intro X hX
        go_simp
        first | rfl | (rw [if_neg (by omega)])
      · simp [Act.put]
        rfl
      refine anyC_take (i := 2) (v := ?_) (a' := ?_) HC rfl rfl (by kernel_rfl) (by kernel_rfl) (by kernel_rfl) hQp (by rfl) ?_ ?_ ?_
      rotate_left 2
      · intro X hX
        go_simp
        first | rfl | (rw [if_neg (by omega)])
      · simp [Act.put]
        rfl
      refine anyC_take (i := 3) (v := .agg #[.string ⟨x.key.toArray⟩, .bool x.del, .string ⟨x.val.toArray⟩]) (a' := ?_) HC rfl rfl (by kernel_rfl) (by kernel_rfl) (by kernel_rfl) hQp (by rfl) ?_ ?_ ?_
      rotate_left 1
      · intro X hX
        apply exec_load_mid 71 (hc := HR.out.1 X hX) (hu := Tryz.underlying71) (hd := rfl) (hi := by kernel_rfl)
        all_goals rfl
      · simp [Act.put]
        rfl
      refine anyC_take (i := 4) (v := ?_) (a' := ?_) HC rfl rfl (by kernel_rfl) (by kernel_rfl) (by kernel_rfl) hQp (by rfl) ?_ ?_ ?_
      rotate_left 2
      · intro X hX
        go_simp
        first | rfl | (rw [if_neg (by omega)])
      · simp [Act.put]
        rfl
      refine anyC_take (i := 5) (v := ?_) (a' := ?_) HC rfl rfl (by kernel_rfl) (by kernel_rfl) (by kernel_rfl) hQp (by rfl) ?_ ?_ ?_
      rotate_left 2
      · intro X hX
        go_simp
        first | rfl | (rw [if_neg (by omega)])
      · simp [Act.put]
        rfl
      refine anyC_take (i := 6) (v := ?_) (a' := ?_) HC rfl rfl (by kernel_rfl) (by kernel_rfl) (by kernel_rfl) hQp (by rfl) ?_ ?_ ?_
      rotate_left 2
      · intro X hX
        go_simp
        first | rfl | (rw [if_neg (by omega)])
      · simp [Act.put]
        rfl
      refine anyC_take (i := 7) (v := .agg #[.string ⟨x.key.toArray⟩, .bool x.del, .string ⟨x.val.toArray⟩]) (a' := ?_) HC rfl rfl (by kernel_rfl) (by kernel_rfl) (by kernel_rfl) hQp (by rfl) ?_ ?_ ?_
      rotate_left 1
      · intro X hX
        apply exec_load_mid 71 (hc := HR.out.2 X hX) (hu := Tryz.underlying71) (hd := rfl) (hi := by kernel_rfl)
        all_goals rfl
      · simp [Act.put]
        rfl
      refine anyC_take (i := 8) (v := ?_) (a' := ?_) HC rfl rfl (by kernel_rfl) (by kernel_rfl) (by kernel_rfl) hQp (by rfl) ?_ ?_ ?_
      rotate_left 2
      · intro X hX
        have hne := wr_neq x X
        have hgd := wr_guard
        go_simp
        rfl
      · simp [Act.put]
        rfl
      refine anyC_done (by kernel_rfl) ?_ _
      clear hQp
      go_wp2
      go_roundw
      case rel => exact ⟨j + 1, by go_num, by omega, HC⟩
      case measure => simp [RowKit.intOf]; omega
    · go_wp2
      go_ret
      exact ⟨rfl, hm⟩

set_option maxRecDepth 100000 in
set_option maxHeartbeats 8000000 in
theorem lawstep_walk (w : World) (s : StepS) (wv kv wu ku : Value) (h1 : SeenWrs w wv s.op.writes) (h2 : SeenWrs w wu s.op.writes) (h3 : SeenInts w kv s.keep) (h4 : SeenInts w ku s.keep) (hl : s.op.writes.length ≤ 70000) (hk : s.keep.length ≤ 70000) :
    Calls Tryz.prog 41 #[.agg (stepCells s wv kv), .agg (stepCells s wu ku)] w fun e w' => e = .returned (.bool true) ∧ Mod [] w w' := by
  have HS := Lib.hid (And.intro h1 (And.intro h2 (And.intro h3 (And.intro h4 (And.intro hl hk)))))
  have hwv : wv.oneCell' = true := by obtain ⟨_, _, rfl, _⟩ := h1; rfl
  have hwu : wu.oneCell' = true := by obtain ⟨_, _, rfl, _⟩ := h2; rfl
  obtain ⟨A, c, rfl, _⟩ := h3
  obtain ⟨B, d, rfl, _⟩ := h4
  obtain ⟨n, hn⟩ : ∃ n, n = s.keep.length := ⟨_, rfl⟩
  rw [← hn] at hk ⊢
  have HN := Lib.hid hn
  clear h1 h2 hl hn
  unfold stepCells opCells
  go_enter Tryz.func41, Tryz.ntmps41
  go_wp2_with fail
  have HC : Mod [] w ((w.alloc (.cells #[.int .i64 s.kind, .int .i64 s.a, .int .i64 s.b, .int .i64 s.c, .int .i64 s.op.kind, wv, .bool s.op.sync, .string ⟨s.op.key.toArray⟩, .string ⟨s.op.til.toArray⟩, .int .i64 s.op.n, .int .i64 s.op.snap, .slice A n c] 69)).alloc (.cells #[.int .i64 s.kind, .int .i64 s.a, .int .i64 s.b, .int .i64 s.c, .int .i64 s.op.kind, wu, .bool s.op.sync, .string ⟨s.op.key.toArray⟩, .string ⟨s.op.til.toArray⟩, .int .i64 s.op.n, .int .i64 s.op.snap, .slice B n d] 69)) ∧ Blk ((w.alloc (.cells #[.int .i64 s.kind, .int .i64 s.a, .int .i64 s.b, .int .i64 s.c, .int .i64 s.op.kind, wv, .bool s.op.sync, .string ⟨s.op.key.toArray⟩, .string ⟨s.op.til.toArray⟩, .int .i64 s.op.n, .int .i64 s.op.snap, .slice A n c] 69)).alloc (.cells #[.int .i64 s.kind, .int .i64 s.a, .int .i64 s.b, .int .i64 s.c, .int .i64 s.op.kind, wu, .bool s.op.sync, .string ⟨s.op.key.toArray⟩, .string ⟨s.op.til.toArray⟩, .int .i64 s.op.n, .int .i64 s.op.snap, .slice B n d] 69)) w.heap.size 69 #[.int .i64 s.kind, .int .i64 s.a, .int .i64 s.b, .int .i64 s.c, .int .i64 s.op.kind, wv, .bool s.op.sync, .string ⟨s.op.key.toArray⟩, .string ⟨s.op.til.toArray⟩, .int .i64 s.op.n, .int .i64 s.op.snap, .slice A n c] ∧ Blk ((w.alloc (.cells #[.int .i64 s.kind, .int .i64 s.a, .int .i64 s.b, .int .i64 s.c, .int .i64 s.op.kind, wv, .bool s.op.sync, .string ⟨s.op.key.toArray⟩, .string ⟨s.op.til.toArray⟩, .int .i64 s.op.n, .int .i64 s.op.snap, .slice A n c] 69)).alloc (.cells #[.int .i64 s.kind, .int .i64 s.a, .int .i64 s.b, .int .i64 s.c, .int .i64 s.op.kind, wu, .bool s.op.sync, .string ⟨s.op.key.toArray⟩, .string ⟨s.op.til.toArray⟩, .int .i64 s.op.n, .int .i64 s.op.snap, .slice B n d] 69)) (w.heap.size + 1) 69 #[.int .i64 s.kind, .int .i64 s.a, .int .i64 s.b, .int .i64 s.c, .int .i64 s.op.kind, wu, .bool s.op.sync, .string ⟨s.op.key.toArray⟩, .string ⟨s.op.til.toArray⟩, .int .i64 s.op.n, .int .i64 s.op.snap, .slice B n d] := ⟨((Mod.refl [] w).alloc _).alloc _, (Blk.new _ _ _).alloc _, Blk.newAt _ _ _ (by simp)⟩
  generalize ((w.alloc (.cells #[.int .i64 s.kind, .int .i64 s.a, .int .i64 s.b, .int .i64 s.c, .int .i64 s.op.kind, wv, .bool s.op.sync, .string ⟨s.op.key.toArray⟩, .string ⟨s.op.til.toArray⟩, .int .i64 s.op.n, .int .i64 s.op.snap, .slice A n c] 69)).alloc (.cells #[.int .i64 s.kind, .int .i64 s.a, .int .i64 s.b, .int .i64 s.c, .int .i64 s.op.kind, wu, .bool s.op.sync, .string ⟨s.op.key.toArray⟩, .string ⟨s.op.til.toArray⟩, .int .i64 s.op.n, .int .i64 s.op.snap, .slice B n d] 69)) = W at HC ⊢
  obtain ⟨p, hp⟩ : ∃ p, p = w.heap.size := ⟨_, rfl⟩
  rw [← hp] at HC ⊢
  clear hp
  have HD := Lib.hid HC
  have ha0 := HC.2.1.cell 0
  have ha1 := HC.2.1.cell 1
  have ha2 := HC.2.1.cell 2
  have ha3 := HC.2.1.cell 3
  have ha4 := HC.2.1.cell 4
  have ha5 := HC.2.1.cell 5
  have ha6 := HC.2.1.cell 6
  have ha7 := HC.2.1.cell 7
  have ha8 := HC.2.1.cell 8
  have ha9 := HC.2.1.cell 9
  have ha10 := HC.2.1.cell 10
  have ha11 := HC.2.1.cell 11
  have haf0 := HC.2.1.frozen 0
  have haf1 := HC.2.1.frozen 1
  have haf2 := HC.2.1.frozen 2
  have haf3 := HC.2.1.frozen 3
  have haf4 := HC.2.1.frozen 4
  have haf5 := HC.2.1.frozen 5
  have haf6 := HC.2.1.frozen 6
  have haf7 := HC.2.1.frozen 7
  have haf8 := HC.2.1.frozen 8
  have haf9 := HC.2.1.frozen 9
  have haf10 := HC.2.1.frozen 10
  have haf11 := HC.2.1.frozen 11
  simp at ha0 ha1 ha2 ha3 ha4 ha5 ha6 ha7 ha8 ha9 ha10 ha11
  have hb0 := HC.2.2.cell 0
  have hb1 := HC.2.2.cell 1
  have hb2 := HC.2.2.cell 2
  have hb3 := HC.2.2.cell 3
  have hb4 := HC.2.2.cell 4
  have hb5 := HC.2.2.cell 5
  have hb6 := HC.2.2.cell 6
  have hb7 := HC.2.2.cell 7
  have hb8 := HC.2.2.cell 8
  have hb9 := HC.2.2.cell 9
  have hb10 := HC.2.2.cell 10
  have hb11 := HC.2.2.cell 11
  have hbf0 := HC.2.2.frozen 0
  have hbf1 := HC.2.2.frozen 1
  have hbf2 := HC.2.2.frozen 2
  have hbf3 := HC.2.2.frozen 3
  have hbf4 := HC.2.2.frozen 4
  have hbf5 := HC.2.2.frozen 5
  have hbf6 := HC.2.2.frozen 6
  have hbf7 := HC.2.2.frozen 7
  have hbf8 := HC.2.2.frozen 8
  have hbf9 := HC.2.2.frozen 9
  have hbf10 := HC.2.2.frozen 10
  have hbf11 := HC.2.2.frozen 11
  simp at hb0 hb1 hb2 hb3 hb4 hb5 hb6 hb7 hb8 hb9 hb10 hb11
  clear HC
  go_wp2_with fail
  refine (lawwrites_walk _ _ _ s.op.writes (HS.out.1.new HD.out.1) (HS.out.2.1.new HD.out.1) HS.out.2.2.2.2.1).mono ?_
  rintro e W1 ⟨rfl, hm1⟩
  replace HD := Lib.hid (And.intro (HD.out.1.trans hm1) (And.intro (hm1.blk HD.out.2.1 (by simp)) (hm1.blk HD.out.2.2 (by simp))))
  clear hm1 ha0 ha1 ha2 ha3 ha4 ha5 ha6 ha7 ha8 ha9 ha10 ha11 hb0 hb1 hb2 hb3 hb4 hb5 hb6 hb7 hb8 hb9 hb10 hb11
  go_wp2
  go_loopw [5] (fun s5 wr => ∃ j : Nat, s5 = .int .i64 j ∧ j ≤ n ∧ Mod [] w wr ∧ Blk wr p 69 #[.int .i64 s.kind, .int .i64 s.a, .int .i64 s.b, .int .i64 s.c, .int .i64 s.op.kind, wv, .bool s.op.sync, .string ⟨s.op.key.toArray⟩, .string ⟨s.op.til.toArray⟩, .int .i64 s.op.n, .int .i64 s.op.snap, .slice A n c] ∧ Blk wr (p + 1) 69 #[.int .i64 s.kind, .int .i64 s.a, .int .i64 s.b, .int .i64 s.c, .int .i64 s.op.kind, wu, .bool s.op.sync, .string ⟨s.op.key.toArray⟩, .string ⟨s.op.til.toArray⟩, .int .i64 s.op.n, .int .i64 s.op.snap, .slice B n d]) (fun s5 _ => n - (RowKit.intOf s5).toNat)
  case atStart => exact ⟨0, by go_num, Nat.zero_le _, HD.out⟩
  case round =>
    obtain ⟨j, rfl, hj, HC⟩ := hrel
    have HM := Lib.hid HC
    have ha0 := HC.2.1.cell 0
    have ha1 := HC.2.1.cell 1
    have ha2 := HC.2.1.cell 2
    have ha3 := HC.2.1.cell 3
    have ha4 := HC.2.1.cell 4
    have ha5 := HC.2.1.cell 5
    have ha6 := HC.2.1.cell 6
    have ha7 := HC.2.1.cell 7
    have ha8 := HC.2.1.cell 8
    have ha9 := HC.2.1.cell 9
    have ha10 := HC.2.1.cell 10
    have ha11 := HC.2.1.cell 11
    have haf0 := HC.2.1.frozen 0
    have haf1 := HC.2.1.frozen 1
    have haf2 := HC.2.1.frozen 2
    have haf3 := HC.2.1.frozen 3
    have haf4 := HC.2.1.frozen 4
    have haf5 := HC.2.1.frozen 5
    have haf6 := HC.2.1.frozen 6
    have haf7 := HC.2.1.frozen 7
    have haf8 := HC.2.1.frozen 8
    have haf9 := HC.2.1.frozen 9
    have haf10 := HC.2.1.frozen 10
    have haf11 := HC.2.1.frozen 11
    simp at ha0 ha1 ha2 ha3 ha4 ha5 ha6 ha7 ha8 ha9 ha10 ha11
    have hb0 := HC.2.2.cell 0
    have hb1 := HC.2.2.cell 1
    have hb2 := HC.2.2.cell 2
    have hb3 := HC.2.2.cell 3
    have hb4 := HC.2.2.cell 4
    have hb5 := HC.2.2.cell 5
    have hb6 := HC.2.2.cell 6
    have hb7 := HC.2.2.cell 7
    have hb8 := HC.2.2.cell 8
    have hb9 := HC.2.2.cell 9
    have hb10 := HC.2.2.cell 10
    have hb11 := HC.2.2.cell 11
    have hbf0 := HC.2.2.frozen 0
    have hbf1 := HC.2.2.frozen 1
    have hbf2 := HC.2.2.frozen 2
    have hbf3 := HC.2.2.frozen 3
    have hbf4 := HC.2.2.frozen 4
    have hbf5 := HC.2.2.frozen 5
    have hbf6 := HC.2.2.frozen 6
    have hbf7 := HC.2.2.frozen 7
    have hbf8 := HC.2.2.frozen 8
    have hbf9 := HC.2.2.frozen 9
    have hbf10 := HC.2.2.frozen 10
    have hbf11 := HC.2.2.frozen 11
    simp at hb0 hb1 hb2 hb3 hb4 hb5 hb6 hb7 hb8 hb9 hb10 hb11
    clear HC
    by_cases hjl : j < n
    · obtain ⟨x, hx⟩ : ∃ x, s.keep[j]? = some x := ⟨_, List.getElem?_eq_getElem (by rw [← HN.out]; exact hjl)⟩
      obtain ⟨b1, o1, c1, e1, r1⟩ := HS.out.2.2.1.at_ hx
      obtain ⟨b2, o2, c2, e2, r2⟩ := HS.out.2.2.2.1.at_ hx
      have HR := Lib.hid (And.intro (fun (X : World) (hX : Mod [] w X) => hX.cell r1 (by simp)) (fun (X : World) (hX : Mod [] w X) => hX.cell r2 (by simp)))
      obtain rfl : A = some ⟨b1, o1, none⟩ := by injection e1
      obtain rfl : B = some ⟨b2, o2, none⟩ := by injection e2
      clear e1 e2
      clear r1 r2 hx
      have hjn : (j : Int) < (n : Int) := by omega
      go_wp2
      refine region_C (fun X => Mod [] w X ∧ Blk X p 69 #[.int .i64 s.kind, .int .i64 s.a, .int .i64 s.b, .int .i64 s.c, .int .i64 s.op.kind, wv, .bool s.op.sync, .string ⟨s.op.key.toArray⟩, .string ⟨s.op.til.toArray⟩, .int .i64 s.op.n, .int .i64 s.op.snap, .slice (some ⟨b1, o1, none⟩) n c] ∧ Blk X (p + 1) 69 #[.int .i64 s.kind, .int .i64 s.a, .int .i64 s.b, .int .i64 s.c, .int .i64 s.op.kind, wu, .bool s.op.sync, .string ⟨s.op.key.toArray⟩, .string ⟨s.op.til.toArray⟩, .int .i64 s.op.n, .int .i64 s.op.snap, .slice (some ⟨b2, o2, none⟩) n d]) (by kernel_rfl) (fun _ _ _ _ _ h => h) (fun hQp => ?_)
      have HC := And.intro HM.out.1.drew (And.intro HM.out.2.1.drew HM.out.2.2.drew)
      simp only [List.length_cons, List.length_nil]
      refine anyC_take (i := 0) (v := ?_) (a' := ?_) HC rfl rfl (by kernel_rfl) (by kernel_rfl) (by kernel_rfl) hQp (by rfl) ?_ ?_ ?_
      rotate_left 2
      · intro X hX
        go_simp
        first | rfl | (rw [if_neg (by omega)])
      · simp [Act.put]
        rfl
      refine anyC_take (i := 1) (v := ?_) (a' := ?_) HC rfl rfl (by kernel_rfl) (by kernel_rfl) (by kernel_rfl) hQp (by rfl) ?_ ?_ ?_
      rotate_left 2
      · intro X hX
        have hx := hX.2.1.cell 11
        simp at hx
        go_simp
        rfl
      · simp [Act.put]
        rfl
      refine anyC_take (i := 2) (v := ?_) (a' := ?_) HC rfl rfl (by kernel_rfl) (by kernel_rfl) (by kernel_rfl) hQp (by rfl) ?_ ?_ ?_
      rotate_left 2
      · intro X hX
        go_simp
        first | rfl | (rw [if_neg (by omega)])
      · simp [Act.put]
        rfl
      refine anyC_take (i := 3) (v := ?_) (a' := ?_) HC rfl rfl (by kernel_rfl) (by kernel_rfl) (by kernel_rfl) hQp (by rfl) ?_ ?_ ?_
      rotate_left 2
      · intro X hX
        go_simp
        first | rfl | (rw [if_neg (by omega)])
      · simp [Act.put]
        rfl
      refine anyC_take (i := 4) (v := ?_) (a' := ?_) HC rfl rfl (by kernel_rfl) (by kernel_rfl) (by kernel_rfl) hQp (by rfl) ?_ ?_ ?_
      rotate_left 2
      · intro X hX
        have hx := HR.out.1 X hX.1
        go_simp
        rfl
      · simp [Act.put]
        rfl
      refine anyC_take (i := 5) (v := ?_) (a' := ?_) HC rfl rfl (by kernel_rfl) (by kernel_rfl) (by kernel_rfl) hQp (by rfl) ?_ ?_ ?_
      rotate_left 2
      · intro X hX
        go_simp
        first | rfl | (rw [if_neg (by omega)])
      · simp [Act.put]
        rfl
      refine anyC_take (i := 6) (v := ?_) (a' := ?_) HC rfl rfl (by kernel_rfl) (by kernel_rfl) (by kernel_rfl) hQp (by rfl) ?_ ?_ ?_
      rotate_left 2
      · intro X hX
        have hx := hX.2.2.cell 11
        simp at hx
        go_simp
        rfl
      · simp [Act.put]
        rfl
      refine anyC_take (i := 7) (v := ?_) (a' := ?_) HC rfl rfl (by kernel_rfl) (by kernel_rfl) (by kernel_rfl) hQp (by rfl) ?_ ?_ ?_
      rotate_left 2
      · intro X hX
        go_simp
        first | rfl | (rw [if_neg (by omega)])
      · simp [Act.put]
        rfl
      refine anyC_take (i := 8) (v := ?_) (a' := ?_) HC rfl rfl (by kernel_rfl) (by kernel_rfl) (by kernel_rfl) hQp (by rfl) ?_ ?_ ?_
      rotate_left 2
      · intro X hX
        go_simp
        first | rfl | (rw [if_neg (by omega)])
      · simp [Act.put]
        rfl
      refine anyC_take (i := 9) (v := ?_) (a' := ?_) HC rfl rfl (by kernel_rfl) (by kernel_rfl) (by kernel_rfl) hQp (by rfl) ?_ ?_ ?_
      rotate_left 2
      · intro X hX
        have hx := HR.out.2 X hX.1
        go_simp
        rfl
      · simp [Act.put]
        rfl
      refine anyC_take (i := 10) (v := ?_) (a' := ?_) HC rfl rfl (by kernel_rfl) (by kernel_rfl) (by kernel_rfl) hQp (by rfl) ?_ ?_ ?_
      rotate_left 2
      · intro X hX
        go_simp
        first | rfl | (rw [if_neg (by omega)])
      · simp [Act.put]
        rfl
      refine anyC_done (by kernel_rfl) ?_ _
      clear hQp
      go_wp2
      go_roundw
      case rel => exact ⟨j + 1, by go_num, by omega, HC⟩
      case measure => simp [RowKit.intOf]; omega
    · go_wp2
      go_ret
      exact ⟨rfl, HM.out.1⟩

set_option maxRecDepth 100000 in
set_option maxHeartbeats 4000000 in
theorem lawsteps_walk (w : World) (v1 v2 : Value) (rs1 rs2 : List RStep) (h1 : Seen w v1 rs1) (h2 : Seen w v2 rs2) (he : rs1.map (·.1) = rs2.map (·.1)) (hn : ∀ x ∈ rs1, x.1.op.writes.length ≤ 70000 ∧ x.1.keep.length ≤ 70000) (hl : rs1.length ≤ 70000) :
    Calls Tryz.prog 14 #[v1, v2] w fun e w' => e = .returned (.bool true) ∧ Mod [] w w' := by
  have HS := Lib.hid (And.intro h1 (And.intro h2 (And.intro he hn)))
  obtain ⟨A, c, rfl, _⟩ := h1.1
  obtain ⟨B, d, rfl, _⟩ := h2.1
  have hlen : rs2.length = rs1.length := by have := congrArg List.length he; simpa using this.symm
  rw [hlen]
  obtain ⟨n, hnn⟩ : ∃ n, n = rs1.length := ⟨_, rfl⟩
  rw [← hnn] at hl ⊢
  have HN := Lib.hid (And.intro hnn hlen)
  clear hnn hlen h1 h2 he hn
  go_enter Tryz.func14, Tryz.ntmps14
  go_wp2
  go_loopw [5] (fun s5 wr => ∃ j : Nat, s5 = .int .i64 j ∧ j ≤ n ∧ Mod [] w wr) (fun s5 _ => n - (RowKit.intOf s5).toNat)
  case atStart => exact ⟨0, by go_num, Nat.zero_le _, Mod.refl _ _⟩
  case round =>
    obtain ⟨j, rfl, hj, hm⟩ := hrel
    have HM := Lib.hid hm
    clear hm
    by_cases hjl : j < n
    · obtain ⟨x, hx⟩ : ∃ x, rs1[j]? = some x := ⟨_, List.getElem?_eq_getElem (by rw [← HN.out.1]; exact hjl)⟩
      obtain ⟨y, hy⟩ : ∃ y, rs2[j]? = some y := ⟨_, List.getElem?_eq_getElem (by rw [HN.out.2, ← HN.out.1]; exact hjl)⟩
      have hxy : y.1 = x.1 := by
        have h0 : (rs1.map (·.1))[j]? = (rs2.map (·.1))[j]? := by rw [HS.out.2.2.1]
        rw [List.getElem?_map, List.getElem?_map, hx, hy] at h0
        exact (Option.some.inj h0).symm
      obtain ⟨s, wv, kv⟩ := x
      obtain ⟨s', wu, ku⟩ := y
      replace hxy : s = s' := hxy.symm
      subst hxy
      obtain ⟨b1, o1, c1, e1, r1⟩ := HS.out.1.range hx
      obtain ⟨b2, o2, c2, e2, r2⟩ := HS.out.2.1.range hy
      have q1 := HS.out.1.2 _ (List.mem_of_getElem? hx)
      have q2 := HS.out.2.1.2 _ (List.mem_of_getElem? hy)
      have q3 := HS.out.2.2.2 _ (List.mem_of_getElem? hx)
      have HR := Lib.hid (And.intro (fun (X : World) (hX : Mod [] w X) => range_new r1 hX) (fun (X : World) (hX : Mod [] w X) => range_new r2 hX))
      have HQ := Lib.hid (And.intro q1 (And.intro q2 q3))
      cases e1
      cases e2
      clear r1 r2 hx hy q1 q2 q3
      have hjn : (j : Int) < (n : Int) := by omega
      go_wp2
      refine region_C (fun X => Mod [] w X) (by kernel_rfl) (fun _ _ _ _ _ h => h) (fun hQp => ?_)
      have HC := HM.out.drew
      simp only [List.length_cons, List.length_nil]
      refine anyC_take (i := 0) (v := ?_) (a' := ?_) HC rfl rfl (by kernel_rfl) (by kernel_rfl) (by kernel_rfl) hQp (by rfl) ?_ ?_ ?_
      rotate_left 2
      · intro X hX
        go_simp
        first | rfl | (rw [if_neg (by omega)])
      · simp [Act.put]
        rfl
      refine anyC_take (i := 1) (v := ?_) (a' := ?_) HC rfl rfl (by kernel_rfl) (by kernel_rfl) (by kernel_rfl) hQp (by rfl) ?_ ?_ ?_
      rotate_left 2
      · intro X hX
        go_simp
        first | rfl | (rw [if_neg (by omega)])
      · simp [Act.put]
        rfl
      refine anyC_take (i := 2) (v := ?_) (a' := ?_) HC rfl rfl (by kernel_rfl) (by kernel_rfl) (by kernel_rfl) hQp (by rfl) ?_ ?_ ?_
      rotate_left 2
      · intro X hX
        go_simp
        first | rfl | (rw [if_neg (by omega)])
      · simp [Act.put]
        rfl
      refine anyC_take (i := 3) (v := .agg (rowOf (s, wv, kv)).toArray) (a' := ?_) HC rfl rfl (by kernel_rfl) (by kernel_rfl) (by kernel_rfl) hQp (by rfl) ?_ ?_ ?_
      rotate_left 1
      · intro X hX
        apply exec_load_mid 69 (hc := HR.out.1 X hX) (hu := Tryz.underlying69) (hd := rfl) (hi := row_size _)
        all_goals rfl
      · simp [Act.put]
        rfl
      refine anyC_take (i := 4) (v := ?_) (a' := ?_) HC rfl rfl (by kernel_rfl) (by kernel_rfl) (by kernel_rfl) hQp (by rfl) ?_ ?_ ?_
      rotate_left 2
      · intro X hX
        go_simp
        first | rfl | (rw [if_neg (by omega)])
      · simp [Act.put]
        rfl
      refine anyC_take (i := 5) (v := ?_) (a' := ?_) HC rfl rfl (by kernel_rfl) (by kernel_rfl) (by kernel_rfl) hQp (by rfl) ?_ ?_ ?_
      rotate_left 2
      · intro X hX
        go_simp
        first | rfl | (rw [if_neg (by omega)])
      · simp [Act.put]
        rfl
      refine anyC_take (i := 6) (v := ?_) (a' := ?_) HC rfl rfl (by kernel_rfl) (by kernel_rfl) (by kernel_rfl) hQp (by rfl) ?_ ?_ ?_
      rotate_left 2
      · intro X hX
        go_simp
        first | rfl | (rw [if_neg (by omega)])
      · simp [Act.put]
        rfl
      refine anyC_take (i := 7) (v := .agg (rowOf (s, wu, ku)).toArray) (a' := ?_) HC rfl rfl (by kernel_rfl) (by kernel_rfl) (by kernel_rfl) hQp (by rfl) ?_ ?_ ?_
      rotate_left 1
      · intro X hX
        apply exec_load_mid 69 (hc := HR.out.2 X hX) (hu := Tryz.underlying69) (hd := rfl) (hi := row_size _)
        all_goals rfl
      · simp [Act.put]
        rfl
      refine anyC_step (i := 8) (by kernel_rfl) rfl (by rfl) ?_
      unfold Oper.wp
      go_simp
      refine (lawstep_walk _ s wv kv wu ku (HQ.out.1.1.new HC) (HQ.out.2.1.1.new HC) (HQ.out.1.2.new HC) (HQ.out.2.1.2.new HC) HQ.out.2.2.1 HQ.out.2.2.2).mono ?_
      rintro e W1 ⟨rfl, hm1⟩
      replace HC := HC.trans hm1
      refine ⟨HC, ?_⟩
      clear hm1
      refine anyC_take (i := 9) (v := ?_) (a' := ?_) HC rfl rfl (by kernel_rfl) (by kernel_rfl) (by kernel_rfl) hQp (by rfl) ?_ ?_ ?_
      rotate_left 2
      · intro X hX
        go_simp
        rfl
      · simp [Act.put]
        rfl
      refine anyC_done (by kernel_rfl) ?_ _
      clear hQp
      go_wp2
      go_roundw
      case rel => exact ⟨j + 1, by go_num, by omega, HC⟩
      case measure => simp [RowKit.intOf]; omega
    · go_wp2
      go_ret
      exact ⟨rfl, HM.out⟩
end Go.Proofs.YtjieelmbgfnllaaGreatDoor

namespace Go.Proofs.YtjieelmbgfnllaaGreatDoor
open Go.RowKit Scr

theorem times_snoc {α : Type} (k : Nat) (l : List α) : times (k + 1) l = times k l ++ l := by
  unfold times; simp [List.replicate_succ']
theorem times_zero {α : Type} (l : List α) : times 0 l = [] := by unfold times; simp

/-- The slice value v owns a row of steps; each step's own rows can be read. -/
def OwnSteps (w : World) (lo : Nat) (v : Value) (rs : List RStep) : Prop :=
  w.ownsRow lo 69 12 v rs.length (rs.flatMap rowOf) ∧ ∀ x ∈ rs, WritesAt w lo x.2.1 x.1.op.writes ∧ IntsAt w lo x.2.2 x.1.keep
theorem Rich.own {w : World} {lo : Nat} {v : Value} {rs : List RStep} (h : Rich w lo v rs) : OwnSteps w lo v rs := ⟨h.1, h.2.1⟩
theorem OwnSteps.new {w w' : World} {lo : Nat} {v : Value} {rs : List RStep} (h : OwnSteps w lo v rs) (hm : Mod [] w w') : OwnSteps w' lo v rs :=
  ⟨owns_mod h.1 hm (by simp), fun x hx => ⟨owns_mod (h.2 x hx).1 hm (by simp), owns_mod (h.2 x hx).2 hm (by simp)⟩⟩
theorem OwnSteps.lower {w : World} {lo lo' : Nat} {v : Value} {rs : List RStep} (h : OwnSteps w lo v rs) (hl : lo' ≤ lo) : OwnSteps w lo' v rs :=
  ⟨owns_mono h.1 hl, fun x hx => ⟨owns_mono (h.2 x hx).1 hl, owns_mono (h.2 x hx).2 hl⟩⟩
theorem OwnSteps.seen {w : World} {lo : Nat} {v : Value} {rs : List RStep} (h : OwnSteps w lo v rs) : Seen w v rs :=
  ⟨.own h.1, fun x hx => ⟨.own (h.2 x hx).1, .own (h.2 x hx).2⟩⟩
theorem owns_apart {w w' : World} {lo : Nat} {e : TypeId} {size : Nat} {v : Value} {n : Nat} {xs : List Value} {b : Option Nat} (h : w.ownsRow lo e size v n xs) (hg : w.grownBy w' b) (hb : ∀ g, b = some g → v.ownBlock ≠ some g) : w'.ownsRow lo e size v n xs := by
  refine ⟨h.1, ?_⟩
  rcases h.2 with h0 | ⟨g, cap, cur, rfl, hlo, hh, r⟩
  · exact .inl h0
  · exact .inr ⟨g, cap, cur, rfl, hlo, (hg.block g (Array.getElem?_eq_some_iff.1 hh).1 (fun e => hb g e.symm rfl)).trans hh, r⟩
/-- Steps in another row are kept. -/
theorem OwnSteps.apart {w w' : World} {lo lo2 : Nat} {v v2 : Value} {rs rs2 : List RStep} (h : OwnSteps w lo v rs) (h2 : OwnSteps w lo2 v2 rs2) (hg : w.grownBy w' v2.ownBlock) (hb : ∀ g, v2.ownBlock = some g → v.ownBlock ≠ some g) : OwnSteps w' lo v rs :=
  ⟨owns_apart h.1 hg hb, fun x hx => ⟨owns_grown (h.2 x hx).1 h2.1 (by decide) hg, owns_grown (h.2 x hx).2 h2.1 (by decide) hg⟩⟩
theorem own_rows_one {w : World} {lo : Nat} {v : Value} {rs : List RStep} (h : OwnSteps w lo v rs) : ∀ u ∈ rs.flatMap rowOf, u.oneCell' = true := by
  intro u hu
  obtain ⟨x, hx, hxu⟩ := List.mem_flatMap.1 hu
  exact rows_one (h.2 x hx).1 (h.2 x hx).2 u hxu

/-- append(v, more...) of steps. -/
theorem wpList_append_steps {ops : Array Oper} {rest : List Oper} {o : Oper} {a : Act} {w : World} {Q : Exit → Act → World → Prop} (hgd : o.guard = none) (s x : Operand)
    (ho : o.op = .call { callee := .builtin .append, args := #[s, x], argTypes := #[22, 22] })
    (lo lo2 : Nat) (v v2 : Value) (rs rs2 : List RStep) (hs : a.eval s = v) (hx : a.eval x = v2) (h1 : OwnSteps w lo v rs) (h2 : OwnSteps w lo2 v2 rs2) (hl : rs.length + rs2.length ≤ 500000) (hlo : lo ≤ w.heap.size) (hlo2 : lo ≤ lo2)
    (h : ∀ A c nn w', nn = (rs ++ rs2).length → OwnSteps w' lo (.slice A nn c) (rs ++ rs2) → w.grownBy w' v.ownBlock → (A.map (·.block) = v.ownBlock ∨ A.map (·.block) = some w.heap.size) → wpList Tryz.prog ops Q rest (a.put o.dst (.slice A nn c)) w') : wpList Tryz.prog ops Q (o :: rest) a w := by
  refine wpList_plain hgd fun K hK => ?_
  have hcont : ∀ w', w.grownBy w' v.ownBlock → ∀ y ∈ rs ++ rs2, WritesAt w' lo y.2.1 y.1.op.writes ∧ IntsAt w' lo y.2.2 y.1.keep := by
    intro w' hg y hy
    rcases List.mem_append.1 hy with hy | hy
    · exact ⟨owns_grown (h1.2 y hy).1 h1.1 (by decide) hg, owns_grown (h1.2 y hy).2 h1.1 (by decide) hg⟩
    · exact ⟨owns_grown (owns_mono (h2.2 y hy).1 hlo2) h1.1 (by decide) hg, owns_grown (owns_mono (h2.2 y hy).2 hlo2) h1.1 (by decide) hg⟩
  obtain ⟨i0, hi, hz0, hz1, hz2⟩ := info_parts info_step
  rcases h2.1.2 with ⟨rfl, hn0⟩ | ⟨g, cap, cur, rfl, _⟩
  · have hrs : rs2 = [] := List.eq_nil_of_length_eq_zero hn0
    subst hrs
    have hg0 : w.grownBy w v.ownBlock := ⟨rfl, rfl, rfl, Nat.le_refl _, fun _ _ _ => rfl⟩
    rcases h1.1.2 with ⟨rfl, hm0⟩ | ⟨g, cap, cur, rfl, hb, hh, hnc, hcm, hcs, htake⟩
    · have hrs : rs = [] := List.eq_nil_of_length_eq_zero hm0
      subst hrs
      have hr : (Builtin.append_ #[22, 22] o.type #[.slice none 0 0, .slice none 0 0]).run Tryz.prog w = .ok (.slice none 0 0) w := by
        simp [Builtin.append_, run_underlying Tryz.underlying22, sizeOf, typeInfo, hi, Builtin.lenOf, Builtin.firstCells]
      unfold Oper.wp execOp
      simp only [ho, resolve, invoke, builtin, Sem.run_bind, Sem.run_pure, Result.andThen_ok, List.map_toArray, List.map_cons, List.map_nil, hs, hx, hr]
      exact hK _ _ (h none 0 0 w rfl ⟨⟨by simp, .inl ⟨rfl, rfl⟩⟩, by simp⟩ hg0 (.inl rfl))
    · have hr : (Builtin.append_ #[22, 22] o.type #[.slice (some ⟨g, 0, none⟩) rs.length cap, .slice none 0 0]).run Tryz.prog w = .ok (.slice (some ⟨g, 0, none⟩) rs.length cap) w := by
        simp [Builtin.append_, run_underlying Tryz.underlying22, sizeOf, typeInfo, hi, Builtin.lenOf, Builtin.firstCells, hnc, storeCells]
      unfold Oper.wp execOp
      simp only [ho, resolve, invoke, builtin, Sem.run_bind, Sem.run_pure, Result.andThen_ok, List.map_toArray, List.map_cons, List.map_nil, hs, hx, hr]
      exact hK _ _ (h (some ⟨g, 0, none⟩) cap rs.length w (by rw [List.append_nil]) (by rw [List.append_nil]; exact h1) hg0 (.inl rfl))
  · obtain ⟨v', w', hr, h4, h5, _, h6⟩ := run_append_own_at (P := Tryz.prog) w lo 22 o.type 69 i0 (.agg zeroStep) 12 144 Tryz.underlying22 hi hz0 hz1 hz2 rfl (by decide) v rs.length (rs.flatMap rowOf) h1.1 ⟨g, 0, none⟩ rs2.length cap (rs2.flatMap rowOf)
      h2.1.1 (h2.1.cells (g := g) rfl) (own_rows_one h2) (by unfold maxLen; omega) (by omega) hlo
    have h7 : w'.ownsRow lo 69 12 v' (rs ++ rs2).length ((rs ++ rs2).flatMap rowOf) := by rw [List.length_append, List.flatMap_append]; exact h4
    have h8 : ∃ A c, v' = .slice A (rs ++ rs2).length c ∧ v'.ownBlock = A.map (·.block) := by
      rcases h7.2 with ⟨rfl, h0⟩ | ⟨g2, cap2, cur2, rfl, _⟩
      · exact ⟨none, 0, by rw [h0], rfl⟩
      · exact ⟨some ⟨g2, 0, none⟩, cap2, rfl, rfl⟩
    obtain ⟨A, c, rfl, hA⟩ := h8
    unfold Oper.wp execOp
    simp only [ho, resolve, invoke, builtin, Sem.run_bind, Sem.run_pure, Result.andThen_ok, List.map_toArray, List.map_cons, List.map_nil, hs, hx, hr]
    exact hK _ _ (h A c _ w' rfl ⟨h7, hcont w' h5⟩ h5 (by rw [← hA]; exact h6))

/-- Has a text a repeat in it? -/
theorem infix_at {t l : Bs} (h : t <:+: l) : ∃ i, i + t.length ≤ l.length ∧ (l.drop i).take t.length = t := by
  obtain ⟨a, b, rfl⟩ := h
  exact ⟨a.length, by simp only [List.length_append]; omega, by simp⟩
def FoldsPost (T : ByteArray) (w : World) (e : Ending) (w' : World) : Prop := ∃ b, e = .returned (.bool b) ∧ (b = false → ¬ wRepeat <:+: T.data.toList) ∧ w' = w
set_option maxRecDepth 100000 in
set_option maxHeartbeats 4000000 in
theorem folds_walk (w : World) (T : ByteArray) (hT : T.size ≤ 70000) :
    Calls Tryz.prog 26 #[.string T] w (FoldsPost T w) := by
  go_enter Tryz.func26, Tryz.ntmps26
  go_wp2
  go_loopw [3] (fun s3 wr => ∃ j : Nat, s3 = .int .i64 j ∧ j ≤ T.size ∧ wr = w ∧ ∀ i, i < j → (T.data.toList.drop i).take 6 ≠ wRepeat) (fun s3 _ => T.size - (RowKit.intOf s3).toNat)
  case atStart => exact ⟨0, by go_num, Nat.zero_le _, rfl, fun i hi => by omega⟩
  case round =>
    obtain ⟨j, rfl, hj, rfl, hno⟩ := hrel
    have HN := Lib.hid hno
    clear hno
    by_cases hjl : j + 6 ≤ T.size
    · have hj6 : (j : Int) + 6 ≤ (T.size : Int) := by omega
      have e6 : T.extract j (j + 6) = (⟨((T.data.toList.drop j).take 6).toArray⟩ : ByteArray) := (ext_of_list T j 6).symm
      by_cases heq : (T.data.toList.drop j).take 6 = wRepeat
      · have hne : ((T.extract j (j + 6)).toList == [114, 101, 112, 101, 97, 116]) = true := by
          rw [Lib.toList_data, e6, heq]; rfl
        clear e6
        go_wp2
        go_ret
        exact ⟨true, rfl, (fun h => by cases h), rfl⟩
      · have hne : ((T.extract j (j + 6)).toList == [114, 101, 112, 101, 97, 116]) = false := by
          rw [Lib.toList_data, e6, beq_eq_false_iff_ne]
          exact heq
        clear e6
        go_wp2
        go_roundw
        case rel => exact ⟨j + 1, by go_num, by omega, trivial, fun i hi => by
          rcases Nat.lt_succ_iff_lt_or_eq.1 hi with h | h
          · exact HN.out i h
          · rw [h]; exact heq⟩
        case measure => simp [RowKit.intOf]; omega
    · have hj6 : ¬ ((j : Int) + 6 ≤ (T.size : Int)) := by omega
      go_wp2
      go_ret
      refine ⟨false, rfl, fun _ hin => ?_, rfl⟩
      obtain ⟨i, hi, he⟩ := infix_at hin
      have h6 : wRepeat.length = 6 := rfl
      rw [h6] at hi he
      rw [← Lib.size_eq] at hi
      exact HN.out i (by omega) he
end Go.Proofs.YtjieelmbgfnllaaGreatDoor

namespace Go.Proofs.YtjieelmbgfnllaaGreatDoor
open Go.RowKit Scr

theorem run_append_seen {P : Program} (w : World) (base : Nat) (t ty e : TypeId) (i : TypeInfo) (z : Value) (size bytes : Nat) (ht : P.underlying t = some (.slice e)) (hi : P.info? e = some i) (hz : i.zero = some z)
    (hsize : i.size = size) (hby : i.bytes = bytes) (hzs : z.cells.size = size) (hsz : 0 < size)
    (v : Value) (n : Nat) (xs : List Value) (hown : w.ownsRow base e size v n xs)
    (x : Value) (m : Nat) (ys : List Value) (hx : SeenRow w x m ys) (hl : ys.length = m * size) (h1 : ∀ u ∈ ys, u.oneCell' = true)
    (h63 : n + m ≤ maxLen) (hbytes : (n + m) * bytes ≤ 140737488355328) (hbase : base ≤ w.heap.size) :
    ∃ v' w', (Builtin.append_ #[t, t] ty #[v, x]).run P w = .ok v' w' ∧ w'.ownsRow base e size v' (n + m) (xs ++ ys) ∧ w.grownBy w' v.ownBlock ∧ (v'.ownBlock = v.ownBlock ∨ v'.ownBlock = some w.heap.size) := by
  obtain ⟨A, c, rfl, hc⟩ := hx
  have hg0 : w.grownBy w v.ownBlock := ⟨rfl, rfl, rfl, Nat.le_refl _, fun _ _ _ => rfl⟩
  by_cases hm : m = 0
  · subst hm
    have hys : ys = [] := List.eq_nil_of_length_eq_zero (by simpa using hl)
    subst hys
    refine ⟨v, w, ?_, by simpa using hown, hg0, .inl rfl⟩
    rcases hown.2 with ⟨rfl, rfl⟩ | ⟨g, cap, cur, rfl, _, _, hnc, _⟩
    · rcases A with _ | A
      · simp [Builtin.append_, run_underlying ht, sizeOf, typeInfo, hi, Builtin.lenOf, Builtin.firstCells]
      · simp [Builtin.append_, run_underlying ht, sizeOf, typeInfo, hi, Builtin.lenOf, Builtin.firstCells, loadCells, loadCellsFrom]
    · rcases A with _ | A
      · simp [Builtin.append_, run_underlying ht, sizeOf, typeInfo, hi, Builtin.lenOf, Builtin.firstCells, hnc, storeCells]
      · simp [Builtin.append_, run_underlying ht, sizeOf, typeInfo, hi, Builtin.lenOf, Builtin.firstCells, hnc, storeCells, loadCells, loadCellsFrom]
  · have hpos : 0 < ys.length := by rw [hl]; exact Nat.mul_pos (by omega) hsz
    obtain ⟨b, o, rfl, _⟩ := hc 0 _ (List.getElem?_eq_getElem hpos)
    obtain ⟨v', w', hr, h2, h3, _, h5⟩ := run_append_own_at (P := P) w base t ty e i z size bytes ht hi hz hsize hby hzs hsz v n xs hown ⟨b, o, none⟩ m c ys hl (fun j u hu => by
      obtain ⟨b2, o2, e2, h⟩ := hc j u hu
      cases e2
      rw [Addr.add_mid]; exact h) h1 h63 hbytes hbase
    exact ⟨v', w', hr, h2, h3, h5⟩
theorem wpList_append_seen {P : Program} {ops : Array Oper} {rest : List Oper} {o : Oper} {a : Act} {w : World} {Q : Exit → Act → World → Prop} (hgd : o.guard = none) (s x : Operand) (t : TypeId)
    (ho : o.op = .call { callee := .builtin .append, args := #[s, x], argTypes := #[t, t] })
    (base : Nat) (e : TypeId) (i : TypeInfo) (z : Value) (size bytes : Nat) (ht : P.underlying t = some (.slice e)) (hi : P.info? e = some i) (hz : i.zero = some z)
    (hsize : i.size = size) (hby : i.bytes = bytes) (hzs : z.cells.size = size) (hsz : 0 < size)
    (v : Value) (n : Nat) (xs : List Value) (hs : a.eval s = v) (hown : w.ownsRow base e size v n xs)
    (u : Value) (m : Nat) (ys : List Value) (hu : a.eval x = u) (hx : SeenRow w u m ys) (hl : ys.length = m * size) (h1 : ∀ u ∈ ys, u.oneCell' = true)
    (h63 : n + m ≤ maxLen) (hbytes : (n + m) * bytes ≤ 140737488355328) (hbase : base ≤ w.heap.size)
    (h : ∀ A c nn w', nn = n + m → w'.ownsRow base e size (.slice A nn c) (n + m) (xs ++ ys) → w.grownBy w' v.ownBlock → ((Value.slice A nn c).ownBlock = v.ownBlock ∨ (Value.slice A nn c).ownBlock = some w.heap.size) → wpList P ops Q rest (a.put o.dst (.slice A nn c)) w') : wpList P ops Q (o :: rest) a w := by
  refine wpList_plain hgd fun K hK => ?_
  obtain ⟨v', w', hr, h2, h3, h5⟩ := run_append_seen (P := P) w base t o.type e i z size bytes ht hi hz hsize hby hzs hsz v n xs hown u m ys hx hl h1 h63 hbytes hbase
  obtain ⟨A, c, rfl⟩ : ∃ A c, v' = .slice A (n + m) c := by
    rcases h2.2 with ⟨rfl, h0⟩ | ⟨g, cap, cur, rfl, _⟩
    · exact ⟨none, 0, by rw [h0]⟩
    · exact ⟨_, _, rfl⟩
  unfold Oper.wp execOp
  simp only [ho, resolve, invoke, builtin, Sem.run_bind, Sem.run_pure, Result.andThen_ok, List.map_toArray, List.map_cons, List.map_nil, hs, hu, hr]
  exact hK _ _ (h A c _ w' rfl h2 h3 h5)

/-- The block g begins with these cells; none of it is frozen. -/
def Full (w : World) (g : Nat) (t : TypeId) (xs : List Value) : Prop := ∃ cs : Array Value, Blk w g t cs ∧ cs.toList.take xs.length = xs
theorem Full.lt {w : World} {g : Nat} {t : TypeId} {xs : List Value} (h : Full w g t xs) : g < w.heap.size := by obtain ⟨cs, hb, _⟩ := h; exact hb.lt
theorem Full.cell {w : World} {g : Nat} {t : TypeId} {xs : List Value} (h : Full w g t xs) {j : Nat} {u : Value} (hu : xs[j]? = some u) : w.cell? ⟨g, j, none⟩ = some u := by
  obtain ⟨cs, hb, ht⟩ := h
  rw [hb.cell j]
  have hj := (List.getElem?_eq_some_iff.1 hu).1
  rw [← ht, List.getElem?_take] at hu
  rw [if_pos hj] at hu
  simpa using hu
theorem Full.frozen {w : World} {g : Nat} {t : TypeId} {xs : List Value} (h : Full w g t xs) (j : Nat) : w.frozen? ⟨g, j, none⟩ = false := by
  obtain ⟨cs, hb, _⟩ := h
  exact hb.frozen j
theorem Full.mod {S : List Nat} {w w' : World} {g : Nat} {t : TypeId} {xs : List Value} (h : Full w g t xs) (hm : Mod S w w') (hn : g ∉ S) : Full w' g t xs := by
  obtain ⟨cs, hb, ht⟩ := h
  exact ⟨cs, hm.blk hb hn, ht⟩
theorem Full.set_ {w : World} {g : Nat} {t : TypeId} {xs : List Value} (h : Full w g t xs) (j : Nat) (u : Value) : Full (w.setCell ⟨g, j, none⟩ u) g t (xs.set j u) := by
  obtain ⟨cs, hb, ht⟩ := h
  refine ⟨_, hb.set_ j u, ?_⟩
  rw [Array.toList_setIfInBounds, List.length_set, List.take_set, ht]
theorem Full.far {w : World} {g : Nat} {t : TypeId} {xs : List Value} (h : Full w g t xs) {p : Addr} (hp : g ≠ p.block) (u : Value) : Full (w.setCell p u) g t xs := by
  obtain ⟨cs, hb, ht⟩ := h
  exact ⟨cs, hb.far hp u, ht⟩
theorem Full.front {w : World} {g : Nat} {t : TypeId} {xs ys : List Value} (h : Full w g t (xs ++ ys)) : Full w g t xs := by
  obtain ⟨cs, hb, ht⟩ := h
  refine ⟨cs, hb, ?_⟩
  have := congrArg (List.take xs.length) ht
  rw [List.take_take, List.take_left' rfl] at this
  rwa [Nat.min_eq_left (by simp)] at this
theorem Full.seen {w : World} {g : Nat} {t : TypeId} {xs : List Value} (h : Full w g t xs) (n c : Nat) : SeenRow w (.slice (some ⟨g, 0, none⟩) n c) n xs :=
  ⟨_, c, rfl, fun j u hu => ⟨g, 0, rfl, by rw [Nat.zero_add]; exact h.cell hu⟩⟩
/-- An owned row of some length lies in a block of its own. -/
theorem own_full {w : World} {lo : Nat} {e : TypeId} {size n : Nat} {v : Value} {xs : List Value} (h : w.ownsRow lo e size v n xs) (hn : 0 < n) :
    ∃ g c, v = .slice (some ⟨g, 0, none⟩) n c ∧ lo ≤ g ∧ n ≤ c ∧ Full w g e xs := by
  rcases h.2 with ⟨_, h0⟩ | ⟨g, cap, cur, rfl, hlo, hh, hc, _, _, ht⟩
  · omega
  · exact ⟨g, cap, rfl, hlo, hc, cur, hh, by rw [h.1]; exact ht⟩

/-- What may have turned: of the blocks from lo on those of these element types alone. -/
def Turn (lo : Nat) (T : List TypeId) (w w' : World) : Prop := ∃ S, Mod S w w' ∧ ∀ k ∈ S, lo ≤ k ∧ ∃ t cs, Blk w k t cs ∧ t ∈ T
theorem Turn.refl (lo : Nat) (T : List TypeId) (w : World) : Turn lo T w w := ⟨[], Mod.refl _ _, by simp⟩
theorem Turn.of_mod {lo : Nat} {T : List TypeId} {w w' : World} (h : Mod [] w w') : Turn lo T w w' := ⟨[], h, by simp⟩
theorem Turn.size {lo : Nat} {T : List TypeId} {w w' : World} (h : Turn lo T w w') : w.heap.size ≤ w'.heap.size := by obtain ⟨S, h, _⟩ := h; exact h.size
theorem Turn.blk {lo : Nat} {T : List TypeId} {w w' : World} (h : Turn lo T w w') {g : Nat} {t : TypeId} {cs : Array Value} (hb : Blk w g t cs) (ht : t ∉ T) : Blk w' g t cs := by
  obtain ⟨S, hm, hS⟩ := h
  refine hm.blk hb fun hg => ?_
  obtain ⟨_, t', cs', hb', ht'⟩ := hS g hg
  exact Blk.ne_ hb hb' (fun e => ht (e ▸ ht')) rfl
theorem Turn.low {lo : Nat} {T : List TypeId} {w w' : World} (h : Turn lo T w w') {g : Nat} {t : TypeId} {cs : Array Value} (hb : Blk w g t cs) (ht : g < lo) : Blk w' g t cs := by
  obtain ⟨S, hm, hS⟩ := h
  exact hm.blk hb fun hg => by have := (hS g hg).1; omega
theorem Turn.full {lo : Nat} {T : List TypeId} {w w' : World} (h : Turn lo T w w') {g : Nat} {t : TypeId} {xs : List Value} (hb : Full w g t xs) (ht : t ∉ T) : Full w' g t xs := by
  obtain ⟨cs, hb, hx⟩ := hb
  exact ⟨cs, h.blk hb ht, hx⟩
theorem Turn.owns {lo lo2 : Nat} {T : List TypeId} {w w' : World} (h : Turn lo T w w') {e : TypeId} {size n : Nat} {v : Value} {xs : List Value} (ho : w.ownsRow lo2 e size v n xs) (ht : e ∉ T) : w'.ownsRow lo2 e size v n xs := by
  obtain ⟨S, hm, hS⟩ := h
  refine owns_typed ho hm fun g hg => ?_
  obtain ⟨_, t', cs', hb', ht'⟩ := hS g hg
  exact ⟨t', cs', hb', fun e2 => ht (e2 ▸ ht')⟩
theorem Turn.trans {lo : Nat} {T : List TypeId} {w w1 w2 : World} (h : Turn lo T w w1) (k : Turn lo T w1 w2) : Turn lo T w w2 := by
  obtain ⟨S, hm, hS⟩ := h
  obtain ⟨S2, hm2, hS2⟩ := k
  refine ⟨S ++ S2.filter (· < w.heap.size), Mod.then (hm.mono (by intro k hk; simp [hk])) hm2 (fun i hi => ?_), fun k hk => ?_⟩
  · by_cases h : i < w.heap.size
    · exact .inl (List.mem_append.2 (.inr (List.mem_filter.2 ⟨hi, by simpa using h⟩)))
    · exact .inr (by omega)
  · rcases List.mem_append.1 hk with hk | hk
    · exact hS k hk
    · obtain ⟨hk2, hlt⟩ := List.mem_filter.1 hk
      have hlt : k < w.heap.size := by simpa using hlt
      by_cases hkS : k ∈ S
      · exact hS k hkS
      · obtain ⟨hlo, t, cs, hb, ht⟩ := hS2 k hk2
        exact ⟨hlo, t, cs, (hm.block k hlt hkS).symm.trans hb, ht⟩
theorem Turn.mono {lo : Nat} {T T2 : List TypeId} {w w' : World} (h : Turn lo T w w') (ht : ∀ t ∈ T, t ∈ T2) : Turn lo T2 w w' := by
  obtain ⟨S, hm, hS⟩ := h
  exact ⟨S, hm, fun k hk => let ⟨a, t, cs, b, c⟩ := hS k hk; ⟨a, t, cs, b, ht t c⟩⟩
theorem Turn.new {lo : Nat} {T : List TypeId} {w0 w w' : World} (h : Turn lo T w w') (hm : Mod [] w0 w) (hl : w0.heap.size ≤ lo) : Mod [] w0 w' := by
  obtain ⟨S, h, hS⟩ := h
  exact hm.then h fun i hi => .inr (by have := (hS i hi).1; omega)
theorem Turn.grown {lo lo2 : Nat} {w w' : World} {e : TypeId} {size n : Nat} {v : Value} {xs : List Value} (ho : w.ownsRow lo2 e size v n xs) (hl : lo ≤ lo2) (hg : w.grownBy w' v.ownBlock) : Turn lo [e] w w' := by
  refine ⟨v.ownBlock.toList, ⟨hg.os, hg.tape, hg.output, hg.size, fun k hk hn => hg.block k hk (fun e => hn (by rw [← e]; simp))⟩, fun k hk => ?_⟩
  have hk2 : v.ownBlock = some k := by simpa using hk
  obtain ⟨cs, hb⟩ := owns_type ho hk2
  exact ⟨Nat.le_trans hl (own_ge ho hk2), e, cs, hb, by simp⟩
theorem Turn.set_ {lo : Nat} {w : World} {g : Nat} {t : TypeId} {cs : Array Value} (hb : Blk w g t cs) (hl : lo ≤ g) (j : Nat) (u : Value) : Turn lo [t] w (w.setCell ⟨g, j, none⟩ u) :=
  ⟨[g], (Mod.refl [g] w).setCell (by simp) u, fun k hk => by simp at hk; subst hk; exact ⟨hl, t, cs, hb, by simp⟩⟩
end Go.Proofs.YtjieelmbgfnllaaGreatDoor

namespace Go.Proofs.YtjieelmbgfnllaaGreatDoor
open Go.RowKit Scr

/-- The mark of a place. -/
def lotV (i : Nat) : Int := if i % 2 = 0 then -7701 else -7702
def wordV (i : Nat) : Bs := if i % 2 = 0 then [60, 111, 110, 101, 62] else [60, 116, 119, 111, 62]
def markI (i : Nat) : Value := .int .i64 (lotV i)
def markWr (i : Nat) : Wr := ⟨wordV i, false, []⟩
def markSt (i : Nat) : RStep := (⟨lotV i, 0, 0, 0, OpS.zero, []⟩, .slice none 0 0, .slice none 0 0)
def marksI (n : Nat) : List Value := (List.range n).map markI
def marksW (n : Nat) : List Wr := (List.range n).map markWr
def marksS (n : Nat) : List RStep := (List.range n).map markSt
theorem marksI_succ (n : Nat) : marksI (n + 1) = marksI n ++ [markI n] := by unfold marksI; rw [List.range_succ, List.map_append]; rfl
theorem marksW_succ (n : Nat) : marksW (n + 1) = marksW n ++ [markWr n] := by unfold marksW; rw [List.range_succ, List.map_append]; rfl
theorem marksS_succ (n : Nat) : marksS (n + 1) = marksS n ++ [markSt n] := by unfold marksS; rw [List.range_succ, List.map_append]; rfl
theorem marksI_len (n : Nat) : (marksI n).length = n := by simp [marksI]
theorem marksW_len (n : Nat) : (marksW n).length = n := by simp [marksW]
theorem marksS_len (n : Nat) : (marksS n).length = n := by simp [marksS]

/-- A list of numbers that was laid: what it holds, its block, its capacity. -/
structure KB where
  l : List Int
  g : Nat
  c : Nat
structure WB where
  l : List Wr
  g : Nat
  c : Nat
structure TB where
  l : List RStep
  g : Nat
  c : Nat
def KB.val (x : KB) : Value := .slice (some ⟨x.g, 0, none⟩) (x.l.length + 4) x.c
def WB.val (x : WB) : Value := .slice (some ⟨x.g, 0, none⟩) (x.l.length + 4) x.c
def TB.val (x : TB) : Value := .slice (some ⟨x.g, 0, none⟩) (x.l.length + 40) x.c
def KB.in_ (w : World) (lo : Nat) (x : KB) : Prop := lo ≤ x.g ∧ Full w x.g 3 (x.l.map (Value.int .i64) ++ marksI 4)
def WB.in_ (w : World) (lo : Nat) (x : WB) : Prop := lo ≤ x.g ∧ Full w x.g 71 ((x.l ++ marksW 4).flatMap encWr)
def TB.in_ (w : World) (lo : Nat) (x : TB) : Prop := lo ≤ x.g ∧ Full w x.g 69 ((x.l ++ marksS 40).flatMap rowOf)
/-- The room's fields that are touched. -/
structure RoomV where
  vi : Value
  va : Value
  vw : Value
  vb : Value
  vs : Value
  vt : Value
abbrev nilS : Value := .slice none 0 0
def roomC (R : RoomV) : Array Value := #[.slice none 0 0, .slice none 0 0, R.vi, R.va, .slice none 0 0, .slice none 0 0, .slice none 0 0, .slice none 0 0, .slice none 0 0, .slice none 0 0, .slice none 0 0, .slice none 0 0, R.vw, R.vb, .slice none 0 0, .slice none 0 0, .slice none 0 0, .slice none 0 0, .slice none 0 0, .slice none 0 0, .slice none 0 0, .slice none 0 0, .slice none 0 0, .slice none 0 0, .slice none 0 0, .slice none 0 0, R.vs, R.vt]
/-- The blocks of numbers. -/
def RoomV.nums (R : RoomV) : List Nat := R.va.ownBlock.toList ++ (R.vb.ownBlock.toList ++ R.vt.ownBlock.toList)
/-- The room: the lists that were laid, and the lengths that were noted. -/
structure RoomAt (w : World) (lo p : Nat) (R : RoomV) (I : List KB) (A : List Int) (W : List WB) (B : List Int) (T : List TB) (C : List Int) : Prop where
  low : lo ≤ p
  blk : Blk w p 63 (roomC R)
  vi : w.ownsRow lo 36 1 R.vi I.length (I.map KB.val)
  va : w.ownsRow lo 3 1 R.va A.length (A.map (Value.int .i64))
  vw : w.ownsRow lo 65 1 R.vw W.length (W.map WB.val)
  vb : w.ownsRow lo 3 1 R.vb B.length (B.map (Value.int .i64))
  vs : w.ownsRow lo 22 1 R.vs T.length (T.map TB.val)
  vt : w.ownsRow lo 3 1 R.vt C.length (C.map (Value.int .i64))
  ints : ∀ x ∈ I, x.in_ w lo
  wrs : ∀ x ∈ W, x.in_ w lo
  sts : ∀ x ∈ T, x.in_ w lo
  nodI : (R.nums ++ I.map KB.g).Nodup
  nodW : (W.map WB.g).Nodup
theorem room_new (w : World) (lo : Nat) (hl : lo ≤ w.heap.size) : RoomAt (w.alloc (.cells (roomC ⟨nilS, nilS, nilS, nilS, nilS, nilS⟩) 63)) lo w.heap.size ⟨nilS, nilS, nilS, nilS, nilS, nilS⟩ [] [] [] [] [] [] :=
  ⟨hl, Blk.new _ _ _, ⟨rfl, .inl ⟨rfl, rfl⟩⟩, ⟨rfl, .inl ⟨rfl, rfl⟩⟩, ⟨rfl, .inl ⟨rfl, rfl⟩⟩, ⟨rfl, .inl ⟨rfl, rfl⟩⟩, ⟨rfl, .inl ⟨rfl, rfl⟩⟩, ⟨rfl, .inl ⟨rfl, rfl⟩⟩, by simp, by simp, by simp, by simp [RoomV.nums, Value.ownBlock], by simp⟩
theorem Full.grown {w w' : World} {g : Nat} {t : TypeId} {xs : List Value} (h : Full w g t xs) {b : Option Nat} (hg : w.grownBy w' b) (hb : b ≠ some g) : Full w' g t xs := by
  obtain ⟨cs, h1, h2⟩ := h
  exact ⟨cs, (hg.block g h1.lt (fun e => hb e.symm)).trans h1, h2⟩
theorem blk_grown {w w' : World} {g : Nat} {t e : TypeId} {lo size n : Nat} {cs : Array Value} {ys : List Value} {v : Value} (h : Blk w g t cs) (ho : w.ownsRow lo e size v n ys) (hne : e ≠ t) (hg : w.grownBy w' v.ownBlock) : Blk w' g t cs :=
  (hg.block g h.lt (fun e2 => own_blk_ne ho h hne e2.symm)).trans h
section
variable {w w' : World} {lo p : Nat} {R : RoomV} {I : List KB} {A B C : List Int} {W : List WB} {T : List TB}
theorem RoomAt.new (h : RoomAt w lo p R I A W B T C) (hm : Mod [] w w') : RoomAt w' lo p R I A W B T C :=
  ⟨h.low, hm.blk h.blk (by simp), owns_mod h.vi hm (by simp), owns_mod h.va hm (by simp), owns_mod h.vw hm (by simp), owns_mod h.vb hm (by simp), owns_mod h.vs hm (by simp), owns_mod h.vt hm (by simp),
   fun x hx => ⟨(h.ints x hx).1, (h.ints x hx).2.mod hm (by simp)⟩, fun x hx => ⟨(h.wrs x hx).1, (h.wrs x hx).2.mod hm (by simp)⟩, fun x hx => ⟨(h.sts x hx).1, (h.sts x hx).2.mod hm (by simp)⟩, h.nodI, h.nodW⟩
theorem own_block_lt {w : World} {lo : Nat} {e : TypeId} {size n : Nat} {v : Value} {xs : List Value} (h : w.ownsRow lo e size v n xs) : ∀ g ∈ v.ownBlock.toList, g < w.heap.size := fun g hg => own_lt h (by simpa using hg)
theorem RoomAt.numsLt (h : RoomAt w lo p R I A W B T C) : ∀ g ∈ R.nums ++ I.map KB.g, g < w.heap.size := by
  intro g hg
  unfold RoomV.nums at hg
  simp only [List.mem_append] at hg
  rcases hg with (hg | hg | hg) | hg
  · exact own_block_lt h.va g hg
  · exact own_block_lt h.vb g hg
  · exact own_block_lt h.vt g hg
  · obtain ⟨x, hx, rfl⟩ := List.mem_map.1 hg
    exact (h.ints x hx).2.lt
theorem RoomAt.wrsLt (h : RoomAt w lo p R I A W B T C) : ∀ g ∈ W.map WB.g, g < w.heap.size := by
  intro g hg
  obtain ⟨x, hx, rfl⟩ := List.mem_map.1 hg
  exact (h.wrs x hx).2.lt
theorem nodup_snoc1 {l : List Nat} {g : Nat} (h : l.Nodup) (hg : g ∉ l) : (l ++ [g]).Nodup := nodup_snoc (o := some g) h (fun _ e => by cases e; exact hg)
theorem RoomAt.stored (i : Nat) (v : Value) (h : Blk w p 63 (roomC R)) (hl : lo ≤ p) {R' : RoomV} (hr : (roomC R).setIfInBounds i v = roomC R') : Blk (w.setCell ⟨p, i, none⟩ v) p 63 (roomC R') ∧ Turn lo [63] w (w.setCell ⟨p, i, none⟩ v) :=
  ⟨hr ▸ h.set_ i v, Turn.set_ h hl i v⟩
theorem RoomAt.grow_vi (h : RoomAt w lo p R I A W B T C) {v : Value} {x : KB} (hx : x.in_ w lo) (hf : x.g ∉ R.nums ++ I.map KB.g) (ho : w'.ownsRow lo 36 1 v (I.length + 1) (I.map KB.val ++ [x.val])) (hg : w.grownBy w' R.vi.ownBlock) :
    RoomAt (w'.setCell ⟨p, 2, none⟩ v) lo p { R with vi := v } (I ++ [x]) A W B T C ∧ Turn lo [36, 63] w (w'.setCell ⟨p, 2, none⟩ v) := by
  have hb := blk_grown h.blk h.vi (by decide) hg
  obtain ⟨hb2, ht⟩ := RoomAt.stored (R := R) 2 v hb h.low (R' := { R with vi := v }) rfl
  have hT : Turn lo [36, 63] w (w'.setCell ⟨p, 2, none⟩ v) := ((Turn.grown h.vi (Nat.le_refl _) hg).mono (by simp)).trans (ht.mono (by simp))
  refine ⟨⟨h.low, hb2, ht.owns (by simpa using ho) (by decide), hT.owns h.va (by decide), hT.owns h.vw (by decide), hT.owns h.vb (by decide), hT.owns h.vs (by decide), hT.owns h.vt (by decide), ?_, fun y hy => ⟨(h.wrs y hy).1, hT.full (h.wrs y hy).2 (by decide)⟩, fun y hy => ⟨(h.sts y hy).1, hT.full (h.sts y hy).2 (by decide)⟩, by rw [List.map_append, ← List.append_assoc]; exact nodup_snoc1 h.nodI hf, h.nodW⟩, hT⟩
  intro y hy
  rcases List.mem_append.1 hy with hy | hy
  · exact ⟨(h.ints y hy).1, hT.full (h.ints y hy).2 (by decide)⟩
  · simp at hy; subst hy
    exact ⟨hx.1, hT.full hx.2 (by decide)⟩
theorem RoomAt.grow_vw (h : RoomAt w lo p R I A W B T C) {v : Value} {x : WB} (hx : x.in_ w lo) (hf : x.g ∉ W.map WB.g) (ho : w'.ownsRow lo 65 1 v (W.length + 1) (W.map WB.val ++ [x.val])) (hg : w.grownBy w' R.vw.ownBlock) :
    RoomAt (w'.setCell ⟨p, 12, none⟩ v) lo p { R with vw := v } I A (W ++ [x]) B T C ∧ Turn lo [65, 63] w (w'.setCell ⟨p, 12, none⟩ v) := by
  have hb := blk_grown h.blk h.vw (by decide) hg
  obtain ⟨hb2, ht⟩ := RoomAt.stored (R := R) 12 v hb h.low (R' := { R with vw := v }) rfl
  have hT : Turn lo [65, 63] w (w'.setCell ⟨p, 12, none⟩ v) := ((Turn.grown h.vw (Nat.le_refl _) hg).mono (by simp)).trans (ht.mono (by simp))
  refine ⟨⟨h.low, hb2, hT.owns h.vi (by decide), hT.owns h.va (by decide), ht.owns (by simpa using ho) (by decide), hT.owns h.vb (by decide), hT.owns h.vs (by decide), hT.owns h.vt (by decide), fun y hy => ⟨(h.ints y hy).1, hT.full (h.ints y hy).2 (by decide)⟩, ?_, fun y hy => ⟨(h.sts y hy).1, hT.full (h.sts y hy).2 (by decide)⟩, h.nodI, by rw [List.map_append]; exact nodup_snoc1 h.nodW hf⟩, hT⟩
  intro y hy
  rcases List.mem_append.1 hy with hy | hy
  · exact ⟨(h.wrs y hy).1, hT.full (h.wrs y hy).2 (by decide)⟩
  · simp at hy; subst hy
    exact ⟨hx.1, hT.full hx.2 (by decide)⟩
theorem RoomAt.grow_vs (h : RoomAt w lo p R I A W B T C) {v : Value} {x : TB} (hx : x.in_ w lo) (ho : w'.ownsRow lo 22 1 v (T.length + 1) (T.map TB.val ++ [x.val])) (hg : w.grownBy w' R.vs.ownBlock) :
    RoomAt (w'.setCell ⟨p, 26, none⟩ v) lo p { R with vs := v } I A W B (T ++ [x]) C ∧ Turn lo [22, 63] w (w'.setCell ⟨p, 26, none⟩ v) := by
  have hb := blk_grown h.blk h.vs (by decide) hg
  obtain ⟨hb2, ht⟩ := RoomAt.stored (R := R) 26 v hb h.low (R' := { R with vs := v }) rfl
  have hT : Turn lo [22, 63] w (w'.setCell ⟨p, 26, none⟩ v) := ((Turn.grown h.vs (Nat.le_refl _) hg).mono (by simp)).trans (ht.mono (by simp))
  refine ⟨⟨h.low, hb2, hT.owns h.vi (by decide), hT.owns h.va (by decide), hT.owns h.vw (by decide), hT.owns h.vb (by decide), ht.owns (by simpa using ho) (by decide), hT.owns h.vt (by decide), fun y hy => ⟨(h.ints y hy).1, hT.full (h.ints y hy).2 (by decide)⟩, fun y hy => ⟨(h.wrs y hy).1, hT.full (h.wrs y hy).2 (by decide)⟩, ?_, h.nodI, h.nodW⟩, hT⟩
  intro y hy
  rcases List.mem_append.1 hy with hy | hy
  · exact ⟨(h.sts y hy).1, hT.full (h.sts y hy).2 (by decide)⟩
  · simp at hy; subst hy
    exact ⟨hx.1, hT.full hx.2 (by decide)⟩
theorem RoomAt.grow_va (h : RoomAt w lo p R I A W B T C) {v : Value} {x : Int} (ho : w'.ownsRow lo 3 1 v (A.length + 1) (A.map (Value.int .i64) ++ [.int .i64 x])) (hg : w.grownBy w' R.va.ownBlock) (hat : v.ownBlock = R.va.ownBlock ∨ v.ownBlock = some w.heap.size) :
    RoomAt (w'.setCell ⟨p, 3, none⟩ v) lo p { R with va := v } I (A ++ [x]) W B T C ∧ Turn lo [3, 63] w (w'.setCell ⟨p, 3, none⟩ v) := by
  have hb := blk_grown h.blk h.va (by decide) hg
  obtain ⟨hb2, ht⟩ := RoomAt.stored (R := R) 3 v hb h.low (R' := { R with va := v }) rfl
  have hT : Turn lo [3, 63] w (w'.setCell ⟨p, 3, none⟩ v) := ((Turn.grown h.va (Nat.le_refl _) hg).mono (by simp)).trans (ht.mono (by simp))
  have hN := h.nodI
  have hlt := h.numsLt
  unfold RoomV.nums at hN hlt
  rw [List.append_assoc, List.append_assoc] at hN
  have hap : ∀ g ∈ R.va.ownBlock.toList, g ∉ R.vb.ownBlock.toList ∧ g ∉ R.vt.ownBlock.toList ∧ g ∉ I.map KB.g := fun g hg => by
    have := (List.nodup_append.1 hN).2.2 g hg
    refine ⟨fun h1 => this g (by simp only [List.mem_append]; exact .inl h1) rfl, fun h1 => this g (by simp only [List.mem_append]; exact .inr (.inl h1)) rfl, fun h1 => this g (by simp only [List.mem_append]; exact .inr (.inr h1)) rfl⟩
  refine ⟨⟨h.low, hb2, hT.owns h.vi (by decide), ht.owns (by simpa using ho) (by decide), hT.owns h.vw (by decide), ht.owns (owns_apart h.vb hg (fun g hg2 e => (hap g (by simp [hg2])).1 (by simp [e]))) (by decide), hT.owns h.vs (by decide), ht.owns (owns_apart h.vt hg (fun g hg2 e => (hap g (by simp [hg2])).2.1 (by simp [e]))) (by decide), fun y hy => ⟨(h.ints y hy).1, ht.full ((h.ints y hy).2.grown hg (fun e => (hap y.g (by simp [e])).2.2 (List.mem_map_of_mem hy))) (by decide)⟩, fun y hy => ⟨(h.wrs y hy).1, hT.full (h.wrs y hy).2 (by decide)⟩, fun y hy => ⟨(h.sts y hy).1, hT.full (h.sts y hy).2 (by decide)⟩, ?_, h.nodW⟩, hT⟩
  unfold RoomV.nums
  rw [List.append_assoc, List.append_assoc]
  rcases hat with e | e
  · simp only [e]; exact hN
  · simp only [e, Option.toList_some]
    have hfr : ∀ g ∈ (R.va.ownBlock.toList ++ (R.vb.ownBlock.toList ++ R.vt.ownBlock.toList)) ++ I.map KB.g, g ≠ w.heap.size := fun g hg e => by have := hlt g hg; omega
    simp only [List.nodup_append, List.mem_append, List.mem_singleton, List.mem_map] at hN hfr ⊢
    grind
theorem RoomAt.grow_vb (h : RoomAt w lo p R I A W B T C) {v : Value} {x : Int} (ho : w'.ownsRow lo 3 1 v (B.length + 1) (B.map (Value.int .i64) ++ [.int .i64 x])) (hg : w.grownBy w' R.vb.ownBlock) (hat : v.ownBlock = R.vb.ownBlock ∨ v.ownBlock = some w.heap.size) :
    RoomAt (w'.setCell ⟨p, 13, none⟩ v) lo p { R with vb := v } I A W (B ++ [x]) T C ∧ Turn lo [3, 63] w (w'.setCell ⟨p, 13, none⟩ v) := by
  have hb := blk_grown h.blk h.vb (by decide) hg
  obtain ⟨hb2, ht⟩ := RoomAt.stored (R := R) 13 v hb h.low (R' := { R with vb := v }) rfl
  have hT : Turn lo [3, 63] w (w'.setCell ⟨p, 13, none⟩ v) := ((Turn.grown h.vb (Nat.le_refl _) hg).mono (by simp)).trans (ht.mono (by simp))
  have hN := h.nodI
  have hlt := h.numsLt
  unfold RoomV.nums at hN hlt
  rw [List.append_assoc, List.append_assoc] at hN
  have hap : ∀ g ∈ R.vb.ownBlock.toList, g ∉ R.va.ownBlock.toList ∧ g ∉ R.vt.ownBlock.toList ∧ g ∉ I.map KB.g := fun g hg => by
    have h0 := (List.nodup_append.1 hN).2.2
    have := (List.nodup_append.1 (List.nodup_append.1 hN).2.1).2.2 g hg
    refine ⟨fun h1 => h0 g h1 g (by simp only [List.mem_append]; exact .inl hg) rfl, fun h1 => this g (by simp only [List.mem_append]; exact .inl h1) rfl, fun h1 => this g (by simp only [List.mem_append]; exact .inr h1) rfl⟩
  refine ⟨⟨h.low, hb2, hT.owns h.vi (by decide), ht.owns (owns_apart h.va hg (fun g hg2 e => (hap g (by simp [hg2])).1 (by simp [e]))) (by decide), hT.owns h.vw (by decide), ht.owns (by simpa using ho) (by decide), hT.owns h.vs (by decide), ht.owns (owns_apart h.vt hg (fun g hg2 e => (hap g (by simp [hg2])).2.1 (by simp [e]))) (by decide), fun y hy => ⟨(h.ints y hy).1, ht.full ((h.ints y hy).2.grown hg (fun e => (hap y.g (by simp [e])).2.2 (List.mem_map_of_mem hy))) (by decide)⟩, fun y hy => ⟨(h.wrs y hy).1, hT.full (h.wrs y hy).2 (by decide)⟩, fun y hy => ⟨(h.sts y hy).1, hT.full (h.sts y hy).2 (by decide)⟩, ?_, h.nodW⟩, hT⟩
  unfold RoomV.nums
  rw [List.append_assoc, List.append_assoc]
  rcases hat with e | e
  · simp only [e]; exact hN
  · simp only [e, Option.toList_some]
    have hfr : ∀ g ∈ (R.va.ownBlock.toList ++ (R.vb.ownBlock.toList ++ R.vt.ownBlock.toList)) ++ I.map KB.g, g ≠ w.heap.size := fun g hg e => by have := hlt g hg; omega
    simp only [List.nodup_append, List.mem_append, List.mem_singleton, List.mem_map] at hN hfr ⊢
    grind
theorem RoomAt.grow_vt (h : RoomAt w lo p R I A W B T C) {v : Value} {x : Int} (ho : w'.ownsRow lo 3 1 v (C.length + 1) (C.map (Value.int .i64) ++ [.int .i64 x])) (hg : w.grownBy w' R.vt.ownBlock) (hat : v.ownBlock = R.vt.ownBlock ∨ v.ownBlock = some w.heap.size) :
    RoomAt (w'.setCell ⟨p, 27, none⟩ v) lo p { R with vt := v } I A W B T (C ++ [x]) ∧ Turn lo [3, 63] w (w'.setCell ⟨p, 27, none⟩ v) := by
  have hb := blk_grown h.blk h.vt (by decide) hg
  obtain ⟨hb2, ht⟩ := RoomAt.stored (R := R) 27 v hb h.low (R' := { R with vt := v }) rfl
  have hT : Turn lo [3, 63] w (w'.setCell ⟨p, 27, none⟩ v) := ((Turn.grown h.vt (Nat.le_refl _) hg).mono (by simp)).trans (ht.mono (by simp))
  have hN := h.nodI
  have hlt := h.numsLt
  unfold RoomV.nums at hN hlt
  rw [List.append_assoc, List.append_assoc] at hN
  have hap : ∀ g ∈ R.vt.ownBlock.toList, g ∉ R.va.ownBlock.toList ∧ g ∉ R.vb.ownBlock.toList ∧ g ∉ I.map KB.g := fun g hg => by
    have h0 := (List.nodup_append.1 hN).2.2
    have h1 := (List.nodup_append.1 (List.nodup_append.1 hN).2.1).2.2
    have := (List.nodup_append.1 (List.nodup_append.1 (List.nodup_append.1 hN).2.1).2.1).2.2 g hg
    refine ⟨fun h2 => h0 g h2 g (by simp only [List.mem_append]; exact .inr (.inl hg)) rfl, fun h2 => h1 g h2 g (by simp only [List.mem_append]; exact .inl hg) rfl, fun h2 => this g h2 rfl⟩
  refine ⟨⟨h.low, hb2, hT.owns h.vi (by decide), ht.owns (owns_apart h.va hg (fun g hg2 e => (hap g (by simp [hg2])).1 (by simp [e]))) (by decide), hT.owns h.vw (by decide), ht.owns (owns_apart h.vb hg (fun g hg2 e => (hap g (by simp [hg2])).2.1 (by simp [e]))) (by decide), hT.owns h.vs (by decide), ht.owns (by simpa using ho) (by decide), fun y hy => ⟨(h.ints y hy).1, ht.full ((h.ints y hy).2.grown hg (fun e => (hap y.g (by simp [e])).2.2 (List.mem_map_of_mem hy))) (by decide)⟩, fun y hy => ⟨(h.wrs y hy).1, hT.full (h.wrs y hy).2 (by decide)⟩, fun y hy => ⟨(h.sts y hy).1, hT.full (h.sts y hy).2 (by decide)⟩, ?_, h.nodW⟩, hT⟩
  unfold RoomV.nums
  rw [List.append_assoc, List.append_assoc]
  rcases hat with e | e
  · simp only [e]; exact hN
  · simp only [e, Option.toList_some]
    have hfr : ∀ g ∈ (R.va.ownBlock.toList ++ (R.vb.ownBlock.toList ++ R.vt.ownBlock.toList)) ++ I.map KB.g, g ≠ w.heap.size := fun g hg e => by have := hlt g hg; omega
    simp only [List.nodup_append, List.mem_append, List.mem_singleton, List.mem_map] at hN hfr ⊢
    grind
end
end Go.Proofs.YtjieelmbgfnllaaGreatDoor

namespace Go.Proofs.YtjieelmbgfnllaaGreatDoor
open Go.RowKit Scr

theorem lot_walk (w : World) (x : Int) (i : Nat) (hx : x = i) (hi : i ≤ 1000000) : Calls Tryz.prog 144 #[.int .i64 x] w fun e w' => e = .returned (.int .i64 (lotV i)) ∧ w' = w := by
  subst hx
  unfold lotV
  by_cases h : i % 2 = 0
  · rw [if_pos h]
    have h2 : (i : Int) % 2 = 0 := by omega
    go_enter Tryz.func144, Tryz.ntmps144
    go_wp2
    go_ret
    exact ⟨rfl, rfl⟩
  · rw [if_neg h]
    have h2 : ((i : Int) % 2 == 0) = false := by rw [beq_eq_false_iff_ne]; omega
    go_enter Tryz.func144, Tryz.ntmps144
    go_wp2
    go_ret
    exact ⟨rfl, rfl⟩
theorem word_walk (w : World) (x : Int) (i : Nat) (hx : x = i) (hi : i ≤ 1000000) : Calls Tryz.prog 146 #[.int .i64 x] w fun e w' => e = .returned (.string ⟨(wordV i).toArray⟩) ∧ w' = w := by
  subst hx
  unfold wordV
  by_cases h : i % 2 = 0
  · rw [if_pos h]
    have h2 : (i : Int) % 2 = 0 := by omega
    go_enter Tryz.func146, Tryz.ntmps146
    go_wp2
    go_ret
    exact ⟨rfl, rfl⟩
  · rw [if_neg h]
    have h2 : ((i : Int) % 2 == 0) = false := by rw [beq_eq_false_iff_ne]; omega
    go_enter Tryz.func146, Tryz.ntmps146
    go_wp2
    go_ret
    exact ⟨rfl, rfl⟩

theorem seen_new (w : World) (cs : Array Value) (t : TypeId) (n c : Nat) : SeenRow (w.alloc (.cells cs t)) (.slice (some ⟨w.heap.size, 0, none⟩) n c) n cs.toList :=
  ⟨_, c, rfl, fun j u hu => ⟨w.heap.size, 0, rfl, by rw [Nat.zero_add, (Blk.new w t cs).cell j]; simpa using hu⟩⟩
theorem seen_new2 (w : World) (cs : Array Value) (t : TypeId) (n c a : Nat) (ha : a = w.heap.size) : SeenRow (w.alloc (.cells cs t)) (.slice (some ⟨a, 0, none⟩) n c) n cs.toList := by subst ha; exact seen_new w cs t n c
theorem info_ints : (Tryz.prog.info? 36).map (fun i => (i.zero, i.size, i.bytes)) = some (some (.slice none 0 0), 1, 24) := by kernel_rfl
theorem info_writes : (Tryz.prog.info? 65).map (fun i => (i.zero, i.size, i.bytes)) = some (some (.slice none 0 0), 1, 24) := by kernel_rfl
theorem info_steps : (Tryz.prog.info? 22).map (fun i => (i.zero, i.size, i.bytes)) = some (some (.slice none 0 0), 1, 24) := by kernel_rfl

theorem encs_len1 (l : List Wr) : (l.flatMap encWr).length = l.length * 3 := by
  induction l with
  | nil => rfl
  | cons a l ih => rw [List.flatMap_cons, List.length_append, ih]; simp [encWr]; omega
theorem encs_one1 (l : List Wr) : ∀ u ∈ l.flatMap encWr, u.oneCell' = true := by
  intro u hu
  obtain ⟨x, _, hx⟩ := List.mem_flatMap.1 hu
  simp only [encWr, List.mem_cons, List.not_mem_nil, or_false] at hx
  rcases hx with rfl | rfl | rfl <;> rfl
def LayI (w : World) (l : List Int) (j : Nat) (v : Value) (wr : World) : Prop := wr.ownsRow w.heap.size 3 1 v (l.length + j) (l.map (Value.int .i64) ++ marksI j) ∧ Mod [] w wr
def LayIPost (w : World) (lo p : Nat) (R : RoomV) (I : List KB) (A : List Int) (W : List WB) (B : List Int) (T : List TB) (C : List Int) (l : List Int) (e : Ending) (w' : World) : Prop :=
  ∃ g c v1 v2, e = .returned (.slice (some ⟨g, 0, none⟩) l.length (l.length + 4)) ∧ RoomAt w' lo p { R with vi := v1, va := v2 } (I ++ [⟨l, g, c⟩]) (A ++ [(l.length : Int)]) W B T C ∧ Turn lo [3, 36, 63] w w' ∧ w.heap.size ≤ g
theorem layInts_next {w wr w2 : World} {l : List Int} {j : Nat} {v v2 : Value} {O : Obj} (h : LayI w l j v wr) (ho : w2.ownsRow w.heap.size 3 1 v2 (l.length + j + 1) ((l.map (Value.int .i64) ++ marksI j) ++ [.int .i64 (lotV j)])) (hg : (wr.alloc O).grownBy w2 v.ownBlock) : LayI w l (j + 1) v2 w2 := by
  refine ⟨?_, (h.2.alloc O).grown hg (fun k hk => .inr (own_ge h.1 hk))⟩
  have : l.map (Value.int .i64) ++ marksI (j + 1) = (l.map (Value.int .i64) ++ marksI j) ++ [.int .i64 (lotV j)] := by rw [marksI_succ, List.append_assoc]; rfl
  rw [this]
  exact ho
theorem layInts_full {w wr : World} {l : List Int} {v : Value} (h : LayI w l 4 v wr) : ∃ g c, v = .slice (some ⟨g, 0, none⟩) (l.length + 4) c ∧ w.heap.size ≤ g ∧ l.length + 4 ≤ c ∧ Full wr g 3 (l.map (Value.int .i64) ++ marksI 4) := by
  obtain ⟨g, c, h1, h2, h3, h4⟩ := own_full h.1 (by omega)
  exact ⟨g, c, h1, h2, h3, h4⟩

set_option maxRecDepth 100000 in
set_option maxHeartbeats 4000000 in
theorem layInts_walk (w : World) (lo p : Nat) (R : RoomV) (I : List KB) (A : List Int) (W : List WB) (B : List Int) (T : List TB) (C : List Int) (v : Value) (l : List Int) (h : RoomAt w lo p R I A W B T C) (hv : SeenInts w v l) (hl : l.length ≤ 70000) (hI : I.length ≤ 70000) (hA : A.length ≤ 70000) (hlo : lo ≤ w.heap.size) :
    Calls Tryz.prog 211 #[.pointer (some ⟨p, 0, none⟩), v, .int .i64 4] w (LayIPost w lo p R I A W B T C l) := by
  have HS := Lib.hid (And.intro h (And.intro hv (And.intro hI (And.intro hA hlo))))
  have hpw := h.blk.lt
  obtain ⟨Av, cv, rfl, _⟩ := hv
  obtain ⟨n, hn⟩ : ∃ n, n = l.length := ⟨_, rfl⟩
  rw [← hn] at hl ⊢
  have HN := Lib.hid hn
  obtain ⟨i0, hi, hz0, hz1, hz2⟩ := info_parts info_int
  obtain ⟨i1, gi, gz0, gz1, gz2⟩ := info_parts info_ints
  obtain ⟨i2, ki, kz0, kz1, kz2⟩ := info_parts info_int
  have HI := Lib.hid (And.intro hi (And.intro hz0 (And.intro hz1 hz2)))
  have HJ := Lib.hid (And.intro gi (And.intro gz0 (And.intro gz1 gz2)))
  have HK := Lib.hid (And.intro ki (And.intro kz0 (And.intro kz1 kz2)))
  clear hi hz0 hz1 hz2 gi gz0 gz1 gz2 ki kz0 kz1 kz2 hn h hI hA hlo
  go_enter Tryz.func211, Tryz.ntmps211
  go_wp2_with (at_builtin; refine wpList_append_seen rfl _ _ 36 rfl w.heap.size 3 i0 (.int .i64 0) 1 8 Tryz.underlying36 HI.out.1 HI.out.2.1 HI.out.2.2.1 HI.out.2.2.2 rfl (by decide) (.slice (some ⟨w.heap.size, 0, none⟩) 0 0) 0 [] rfl (World.ownsRow_lit w #[] 0 (Nat.le_refl _) (by unfold maxLen; omega) (by simp)) _ n (l.map (Value.int .i64)) rfl (by rw [HN.out]; exact HS.out.2.1.new ((Mod.refl _ _).alloc _)) (by rw [HN.out]; simp) (by intro u hu; obtain ⟨_, _, rfl⟩ := List.mem_map.1 hu; rfl) (by unfold maxLen; omega) (by omega) (by simp) ?_; intro A1 c1 nn w1 hnn hown hg hat; replace hnn := hnn.trans (Nat.zero_add n); have e : n = nn := hnn.symm; subst e; have H1 := Lib.hid (show LayI w l 0 (.slice A1 n c1) w1 from ⟨by rw [← HN.out]; simpa [marksI] using hown, ((Mod.refl [] w).alloc _).grown hg (fun k hk => by simp [Value.ownBlock] at hk; subst hk; exact .inr (Nat.le_refl _))⟩); clear hown hg hat hnn)
  go_loopw [7, 8] (fun s7 s8 wr => ∃ (j : Nat) (A2 : Option Addr) (c2 : Nat), s8 = .int .i64 j ∧ s7 = .slice A2 (n + j) c2 ∧ j ≤ 4 ∧ LayI w l j (.slice A2 (n + j) c2) wr) (fun _ s8 _ => 4 - (RowKit.intOf s8).toNat)
  case atStart => exact ⟨0, A1, c1, by go_num, rfl, by omega, H1.out⟩
  case round =>
    obtain ⟨j, A2, c2, rfl, rfl, hj, hlay⟩ := hrel
    have H := Lib.hid hlay
    have hwz := hlay.2.size
    clear hlay H1
    by_cases hj4 : j < 4
    · have hj4i : (j : Int) < 4 := by omega
      go_wp2_with fail
      refine (lot_walk wr j j rfl (by omega)).mono ?_
      rintro e X ⟨rfl, rfl⟩
      go_wp2_with (at_builtin; refine wpList_append_seen rfl _ _ 36 rfl w.heap.size 3 i0 (.int .i64 0) 1 8 Tryz.underlying36 HI.out.1 HI.out.2.1 HI.out.2.2.1 HI.out.2.2.2 rfl (by decide) (.slice A2 (n + j) c2) (l.length + j) (l.map (Value.int .i64) ++ marksI j) rfl (H.out.1.alloc _) _ 1 [.int .i64 (lotV j)] rfl (seen_new _ _ _ _ _) rfl (by intro u hu; simp at hu; subst hu; rfl) (by rw [← HN.out]; unfold maxLen; omega) (by rw [← HN.out]; omega) (by simp; omega) ?_; intro A3 c3 nn w3 hnn hown hg hat; rw [← HN.out] at hnn; subst hnn; have H3 := Lib.hid (layInts_next H.out hown hg); clear hown hg hat)
      go_wp2
      go_roundw
      case rel => exact ⟨j + 1, A3, c3, by go_num, rfl, by omega, H3.out⟩
      case measure => simp [RowKit.intOf]; omega
    · have hj5 : j = 4 := by omega
      subst hj5
      clear hj4 hj
      obtain ⟨g, c, he, hgz, hnc, hfull⟩ := layInts_full H.out
      rw [← HN.out] at he hnc
      cases he
      have HR := Lib.hid (HS.out.1.new H.out.2)
      have HG := Lib.hid hfull
      have q1 := HR.out.blk.cell 2
      have q1f := HR.out.blk.frozen 2
      have q2 := HR.out.blk.cell 3
      have q2f := HR.out.blk.frozen 3
      simp [roomC] at q1 q2
      clear hfull
      have hlw : lo ≤ wr.heap.size := by have := HS.out.2.2.2.2; omega
      have hI7 : I.length ≤ 70000 := HS.out.2.2.1
      have hA7 : A.length ≤ 70000 := HS.out.2.2.2.1
      go_wp2_with (at_builtin; first | (refine wpList_append_seen rfl _ _ 37 rfl lo 36 i1 (.slice none 0 0) 1 24 Tryz.underlying37 HJ.out.1 HJ.out.2.1 HJ.out.2.2.1 HJ.out.2.2.2 rfl (by decide) R.vi I.length (I.map KB.val) rfl (HR.out.vi.alloc _) _ 1 [.slice (some ⟨g, 0, none⟩) (n + 4) c2] rfl (seen_new _ _ _ _ _) rfl (by intro u hu; simp at hu; subst hu; rfl) (by unfold maxLen; omega) (by omega) (by simp; omega) ?_; intro A5 c5 nn5 w5 hnn5 hown5 hg5 hat5; have hb5 := blk_grown (HR.out.blk.alloc _) (HR.out.vi.alloc _) (by decide) hg5; have H5 := Lib.hid (RoomAt.grow_vi (x := ⟨l, g, c2⟩) (HR.out.new ((Mod.refl [] wr).alloc _)) ⟨by have := HS.out.2.2.2.2; show lo ≤ g; omega, HG.out.mod ((Mod.refl [] wr).alloc _) (by simp)⟩ (fun hm => by have h9 : g < w.heap.size := HS.out.1.numsLt _ hm; omega) (by have h0 := hown5; rw [HN.out] at h0; exact h0) hg5); have q3 := hb5.cell 2; have q3f := hb5.frozen 2; have q4 := hb5.cell 3; have q4f := hb5.frozen 3; simp [roomC] at q3 q4; clear hown5 hg5 hat5 hb5 hnn5 q1 q1f q2 q2f; have hz5 := H5.out.2.size; simp at hz5) | (refine wpList_append_seen rfl _ _ 36 rfl lo 3 i2 (.int .i64 0) 1 8 Tryz.underlying36 HK.out.1 HK.out.2.1 HK.out.2.2.1 HK.out.2.2.2 rfl (by decide) R.va A.length (A.map (Value.int .i64)) rfl (H5.out.1.va.alloc _) (.slice (some ⟨w5.heap.size, 0, none⟩) 1 1) 1 [.int .i64 n] rfl (seen_new2 _ _ _ _ _ _ (by simp [World.setCell])) rfl (by intro u hu; simp at hu; subst hu; rfl) (by unfold maxLen; omega) (by omega) (by simp; omega) ?_; intro A6 c6 nn6 w6 hnn6 hown6 hg6 hat6; have hb6 := blk_grown (H5.out.1.blk.alloc _) (H5.out.1.va.alloc _) (by decide) hg6; have H6 := Lib.hid (RoomAt.grow_va (x := (n : Int)) (H5.out.1.new ((Mod.refl [] _).alloc _)) hown6 hg6 hat6); have q5 := hb6.cell 3; have q5f := hb6.frozen 3; simp [roomC] at q5; clear hown6 hg6 hat6 hb6 hnn6))
      go_ret
      exact ⟨g, c2, _, _, by rw [← HN.out]; rfl, by rw [← HN.out]; exact H6.out.1, (((Turn.of_mod H.out.2).trans (Turn.of_mod ((Mod.refl [] _).alloc _))).trans (H5.out.2.mono (by simp))).trans ((Turn.of_mod ((Mod.refl [] _).alloc _)).trans (H6.out.2.mono (by simp))), hgz⟩
def LayW (w : World) (l : List Wr) (j : Nat) (v : Value) (wr : World) : Prop := wr.ownsRow w.heap.size 71 3 v (l.length + j) (l.flatMap encWr ++ (marksW j).flatMap encWr) ∧ Mod [] w wr
def LayWPost (w : World) (lo p : Nat) (R : RoomV) (I : List KB) (A : List Int) (W : List WB) (B : List Int) (T : List TB) (C : List Int) (l : List Wr) (e : Ending) (w' : World) : Prop :=
  ∃ g c v1 v2, e = .returned (.slice (some ⟨g, 0, none⟩) l.length (l.length + 4)) ∧ RoomAt w' lo p { R with vw := v1, vb := v2 } I A (W ++ [⟨l, g, c⟩]) (B ++ [(l.length : Int)]) T C ∧ Turn lo [3, 65, 63] w w' ∧ w.heap.size ≤ g
theorem layWrites_next {w wr w2 : World} {l : List Wr} {j : Nat} {v v2 : Value} {O : Obj} (h : LayW w l j v wr) (ho : w2.ownsRow w.heap.size 71 3 v2 (l.length + j + 1) ((l.flatMap encWr ++ (marksW j).flatMap encWr) ++ (encWr (markWr j)))) (hg : (wr.alloc O).grownBy w2 v.ownBlock) : LayW w l (j + 1) v2 w2 := by
  refine ⟨?_, (h.2.alloc O).grown hg (fun k hk => .inr (own_ge h.1 hk))⟩
  have : l.flatMap encWr ++ (marksW (j + 1)).flatMap encWr = (l.flatMap encWr ++ (marksW j).flatMap encWr) ++ (encWr (markWr j)) := by rw [marksW_succ, List.flatMap_append, List.append_assoc]; simp
  rw [this]
  exact ho
theorem layWrites_full {w wr : World} {l : List Wr} {v : Value} (h : LayW w l 4 v wr) : ∃ g c, v = .slice (some ⟨g, 0, none⟩) (l.length + 4) c ∧ w.heap.size ≤ g ∧ l.length + 4 ≤ c ∧ Full wr g 71 ((l ++ marksW 4).flatMap encWr) := by
  obtain ⟨g, c, h1, h2, h3, h4⟩ := own_full h.1 (by omega)
  exact ⟨g, c, h1, h2, h3, by rw [List.flatMap_append]; exact h4⟩

set_option maxRecDepth 100000 in
set_option maxHeartbeats 4000000 in
theorem layWrites_walk (w : World) (lo p : Nat) (R : RoomV) (I : List KB) (A : List Int) (W : List WB) (B : List Int) (T : List TB) (C : List Int) (v : Value) (l : List Wr) (h : RoomAt w lo p R I A W B T C) (hv : SeenWrs w v l) (hl : l.length ≤ 70000) (hI : W.length ≤ 70000) (hA : B.length ≤ 70000) (hlo : lo ≤ w.heap.size) :
    Calls Tryz.prog 210 #[.pointer (some ⟨p, 0, none⟩), v, .int .i64 4] w (LayWPost w lo p R I A W B T C l) := by
  have HS := Lib.hid (And.intro h (And.intro hv (And.intro hI (And.intro hA hlo))))
  have hpw := h.blk.lt
  obtain ⟨Av, cv, rfl, _⟩ := hv
  obtain ⟨n, hn⟩ : ∃ n, n = l.length := ⟨_, rfl⟩
  rw [← hn] at hl ⊢
  have HN := Lib.hid hn
  obtain ⟨i0, hi, hz0, hz1, hz2⟩ := info_parts info_write
  obtain ⟨i1, gi, gz0, gz1, gz2⟩ := info_parts info_writes
  obtain ⟨i2, ki, kz0, kz1, kz2⟩ := info_parts info_int
  have HI := Lib.hid (And.intro hi (And.intro hz0 (And.intro hz1 hz2)))
  have HJ := Lib.hid (And.intro gi (And.intro gz0 (And.intro gz1 gz2)))
  have HK := Lib.hid (And.intro ki (And.intro kz0 (And.intro kz1 kz2)))
  clear hi hz0 hz1 hz2 gi gz0 gz1 gz2 ki kz0 kz1 kz2 hn h hI hA hlo
  go_enter Tryz.func210, Tryz.ntmps210
  go_wp2_with (at_builtin; refine wpList_append_seen rfl _ _ 65 rfl w.heap.size 71 i0 (.agg #[.string ⟨#[]⟩, .bool false, .string ⟨#[]⟩]) 3 40 Tryz.underlying65 HI.out.1 HI.out.2.1 HI.out.2.2.1 HI.out.2.2.2 rfl (by decide) (.slice (some ⟨w.heap.size, 0, none⟩) 0 0) 0 [] rfl (World.ownsRow_lit w #[] 0 (Nat.le_refl _) (by unfold maxLen; omega) (by simp)) _ n (l.flatMap encWr) rfl (by rw [HN.out]; exact HS.out.2.1.new ((Mod.refl _ _).alloc _)) (by rw [HN.out]; exact encs_len1 l) (by exact encs_one1 l) (by unfold maxLen; omega) (by omega) (by simp) ?_; intro A1 c1 nn w1 hnn hown hg hat; replace hnn := hnn.trans (Nat.zero_add n); have e : n = nn := hnn.symm; subst e; have H1 := Lib.hid (show LayW w l 0 (.slice A1 n c1) w1 from ⟨by rw [← HN.out]; simpa [marksW] using hown, ((Mod.refl [] w).alloc _).grown hg (fun k hk => by simp [Value.ownBlock] at hk; subst hk; exact .inr (Nat.le_refl _))⟩); clear hown hg hat hnn)
  go_loopw [7, 8] (fun s7 s8 wr => ∃ (j : Nat) (A2 : Option Addr) (c2 : Nat), s8 = .int .i64 j ∧ s7 = .slice A2 (n + j) c2 ∧ j ≤ 4 ∧ LayW w l j (.slice A2 (n + j) c2) wr) (fun _ s8 _ => 4 - (RowKit.intOf s8).toNat)
  case atStart => exact ⟨0, A1, c1, by go_num, rfl, by omega, H1.out⟩
  case round =>
    obtain ⟨j, A2, c2, rfl, rfl, hj, hlay⟩ := hrel
    have H := Lib.hid hlay
    have hwz := hlay.2.size
    clear hlay H1
    by_cases hj4 : j < 4
    · have hj4i : (j : Int) < 4 := by omega
      go_wp2_with fail
      refine (word_walk wr j j rfl (by omega)).mono ?_
      rintro e X ⟨rfl, rfl⟩
      go_wp2_with (at_builtin; refine wpList_append_seen rfl _ _ 65 rfl w.heap.size 71 i0 (.agg #[.string ⟨#[]⟩, .bool false, .string ⟨#[]⟩]) 3 40 Tryz.underlying65 HI.out.1 HI.out.2.1 HI.out.2.2.1 HI.out.2.2.2 rfl (by decide) (.slice A2 (n + j) c2) (l.length + j) (l.flatMap encWr ++ (marksW j).flatMap encWr) rfl (H.out.1.alloc _) _ 1 (encWr (markWr j)) rfl (seen_new _ _ _ _ _) rfl (by intro u hu; simp [encWr] at hu; rcases hu with rfl | rfl | rfl <;> rfl) (by rw [← HN.out]; unfold maxLen; omega) (by rw [← HN.out]; omega) (by simp; omega) ?_; intro A3 c3 nn w3 hnn hown hg hat; rw [← HN.out] at hnn; subst hnn; have H3 := Lib.hid (layWrites_next H.out hown hg); clear hown hg hat)
      go_wp2
      go_roundw
      case rel => exact ⟨j + 1, A3, c3, by go_num, rfl, by omega, H3.out⟩
      case measure => simp [RowKit.intOf]; omega
    · have hj5 : j = 4 := by omega
      subst hj5
      clear hj4 hj
      obtain ⟨g, c, he, hgz, hnc, hfull⟩ := layWrites_full H.out
      rw [← HN.out] at he hnc
      cases he
      have HR := Lib.hid (HS.out.1.new H.out.2)
      have HG := Lib.hid hfull
      have q1 := HR.out.blk.cell 12
      have q1f := HR.out.blk.frozen 12
      have q2 := HR.out.blk.cell 13
      have q2f := HR.out.blk.frozen 13
      simp [roomC] at q1 q2
      clear hfull
      have hlw : lo ≤ wr.heap.size := by have := HS.out.2.2.2.2; omega
      have hI7 : W.length ≤ 70000 := HS.out.2.2.1
      have hA7 : B.length ≤ 70000 := HS.out.2.2.2.1
      go_wp2_with (at_builtin; first | (refine wpList_append_seen rfl _ _ 42 rfl lo 65 i1 (.slice none 0 0) 1 24 Tryz.underlying42 HJ.out.1 HJ.out.2.1 HJ.out.2.2.1 HJ.out.2.2.2 rfl (by decide) R.vw W.length (W.map WB.val) rfl (HR.out.vw.alloc _) _ 1 [.slice (some ⟨g, 0, none⟩) (n + 4) c2] rfl (seen_new _ _ _ _ _) rfl (by intro u hu; simp at hu; subst hu; rfl) (by unfold maxLen; omega) (by omega) (by simp; omega) ?_; intro A5 c5 nn5 w5 hnn5 hown5 hg5 hat5; have hb5 := blk_grown (HR.out.blk.alloc _) (HR.out.vw.alloc _) (by decide) hg5; have H5 := Lib.hid (RoomAt.grow_vw (x := ⟨l, g, c2⟩) (HR.out.new ((Mod.refl [] wr).alloc _)) ⟨by have := HS.out.2.2.2.2; show lo ≤ g; omega, HG.out.mod ((Mod.refl [] wr).alloc _) (by simp)⟩ (fun hm => by have h9 : g < w.heap.size := HS.out.1.wrsLt _ hm; omega) (by have h0 := hown5; rw [HN.out] at h0; exact h0) hg5); have q3 := hb5.cell 12; have q3f := hb5.frozen 12; have q4 := hb5.cell 13; have q4f := hb5.frozen 13; simp [roomC] at q3 q4; clear hown5 hg5 hat5 hb5 hnn5 q1 q1f q2 q2f; have hz5 := H5.out.2.size; simp at hz5) | (refine wpList_append_seen rfl _ _ 36 rfl lo 3 i2 (.int .i64 0) 1 8 Tryz.underlying36 HK.out.1 HK.out.2.1 HK.out.2.2.1 HK.out.2.2.2 rfl (by decide) R.vb B.length (B.map (Value.int .i64)) rfl (H5.out.1.vb.alloc _) (.slice (some ⟨w5.heap.size, 0, none⟩) 1 1) 1 [.int .i64 n] rfl (seen_new2 _ _ _ _ _ _ (by simp [World.setCell])) rfl (by intro u hu; simp at hu; subst hu; rfl) (by unfold maxLen; omega) (by omega) (by simp; omega) ?_; intro A6 c6 nn6 w6 hnn6 hown6 hg6 hat6; have hb6 := blk_grown (H5.out.1.blk.alloc _) (H5.out.1.vb.alloc _) (by decide) hg6; have H6 := Lib.hid (RoomAt.grow_vb (x := (n : Int)) (H5.out.1.new ((Mod.refl [] _).alloc _)) hown6 hg6 hat6); have q5 := hb6.cell 13; have q5f := hb6.frozen 13; simp [roomC] at q5; clear hown6 hg6 hat6 hb6 hnn6))
      go_ret
      exact ⟨g, c2, _, _, by rw [← HN.out]; rfl, by rw [← HN.out]; exact H6.out.1, (((Turn.of_mod H.out.2).trans (Turn.of_mod ((Mod.refl [] _).alloc _))).trans (H5.out.2.mono (by simp))).trans ((Turn.of_mod ((Mod.refl [] _).alloc _)).trans (H6.out.2.mono (by simp))), hgz⟩
end Go.Proofs.YtjieelmbgfnllaaGreatDoor

namespace Go.Proofs.YtjieelmbgfnllaaGreatDoor
open Go.RowKit Scr

section
variable {w : World} {lo p : Nat} {R : RoomV} {I : List KB} {A B C : List Int} {W : List WB} {T : List TB}
theorem hold_Bytes (h : RoomAt w lo p R I A W B T C) : Calls Tryz.prog 67 #[.pointer (some ⟨p, 0, none⟩)] w fun e w' => e = .returned (.bool true) ∧ w' = w := by
  have c0 := h.blk.cell 0
  simp [roomC] at c0
  clear h
  go_enter Tryz.func67, Tryz.ntmps67
  go_wp2
  go_loop [3] (fun s => s = .int .i64 0) (fun _ => 0)
  case atStart => rfl
  case round =>
    obtain rfl := hrel
    go_wp2
    go_ret
    exact ⟨rfl, rfl⟩
theorem hold_Nums (h : RoomAt w lo p R I A W B T C) : Calls Tryz.prog 69 #[.pointer (some ⟨p, 0, none⟩)] w fun e w' => e = .returned (.bool true) ∧ w' = w := by
  have c0 := h.blk.cell 4
  simp [roomC] at c0
  clear h
  go_enter Tryz.func69, Tryz.ntmps69
  go_wp2
  go_loop [3] (fun s => s = .int .i64 0) (fun _ => 0)
  case atStart => rfl
  case round =>
    obtain rfl := hrel
    go_wp2
    go_ret
    exact ⟨rfl, rfl⟩
theorem hold_Texts (h : RoomAt w lo p R I A W B T C) : Calls Tryz.prog 70 #[.pointer (some ⟨p, 0, none⟩)] w fun e w' => e = .returned (.bool true) ∧ w' = w := by
  have c0 := h.blk.cell 6
  simp [roomC] at c0
  clear h
  go_enter Tryz.func70, Tryz.ntmps70
  go_wp2
  go_loop [3] (fun s => s = .int .i64 0) (fun _ => 0)
  case atStart => rfl
  case round =>
    obtain rfl := hrel
    go_wp2
    go_ret
    exact ⟨rfl, rfl⟩
theorem hold_Entries (h : RoomAt w lo p R I A W B T C) : Calls Tryz.prog 71 #[.pointer (some ⟨p, 0, none⟩)] w fun e w' => e = .returned (.bool true) ∧ w' = w := by
  have c0 := h.blk.cell 8
  simp [roomC] at c0
  clear h
  go_enter Tryz.func71, Tryz.ntmps71
  go_wp2
  go_loop [3] (fun s => s = .int .i64 0) (fun _ => 0)
  case atStart => rfl
  case round =>
    obtain rfl := hrel
    go_wp2
    go_ret
    exact ⟨rfl, rfl⟩
theorem hold_Pairs (h : RoomAt w lo p R I A W B T C) : Calls Tryz.prog 72 #[.pointer (some ⟨p, 0, none⟩)] w fun e w' => e = .returned (.bool true) ∧ w' = w := by
  have c0 := h.blk.cell 10
  simp [roomC] at c0
  clear h
  go_enter Tryz.func72, Tryz.ntmps72
  go_wp2
  go_loop [3] (fun s => s = .int .i64 0) (fun _ => 0)
  case atStart => rfl
  case round =>
    obtain rfl := hrel
    go_wp2
    go_ret
    exact ⟨rfl, rfl⟩
theorem hold_Tables (h : RoomAt w lo p R I A W B T C) : Calls Tryz.prog 74 #[.pointer (some ⟨p, 0, none⟩)] w fun e w' => e = .returned (.bool true) ∧ w' = w := by
  have c0 := h.blk.cell 14
  simp [roomC] at c0
  clear h
  go_enter Tryz.func74, Tryz.ntmps74
  go_wp2
  go_loop [3] (fun s => s = .int .i64 0) (fun _ => 0)
  case atStart => rfl
  case round =>
    obtain rfl := hrel
    go_wp2
    go_ret
    exact ⟨rfl, rfl⟩
theorem hold_Places (h : RoomAt w lo p R I A W B T C) : Calls Tryz.prog 75 #[.pointer (some ⟨p, 0, none⟩)] w fun e w' => e = .returned (.bool true) ∧ w' = w := by
  have c0 := h.blk.cell 16
  simp [roomC] at c0
  clear h
  go_enter Tryz.func75, Tryz.ntmps75
  go_wp2
  go_loop [3] (fun s => s = .int .i64 0) (fun _ => 0)
  case atStart => rfl
  case round =>
    obtain rfl := hrel
    go_wp2
    go_ret
    exact ⟨rfl, rfl⟩
theorem hold_Placeds (h : RoomAt w lo p R I A W B T C) : Calls Tryz.prog 76 #[.pointer (some ⟨p, 0, none⟩)] w fun e w' => e = .returned (.bool true) ∧ w' = w := by
  have c0 := h.blk.cell 18
  simp [roomC] at c0
  clear h
  go_enter Tryz.func76, Tryz.ntmps76
  go_wp2
  go_loop [3] (fun s => s = .int .i64 0) (fun _ => 0)
  case atStart => rfl
  case round =>
    obtain rfl := hrel
    go_wp2
    go_ret
    exact ⟨rfl, rfl⟩
theorem hold_Chunks (h : RoomAt w lo p R I A W B T C) : Calls Tryz.prog 77 #[.pointer (some ⟨p, 0, none⟩)] w fun e w' => e = .returned (.bool true) ∧ w' = w := by
  have c0 := h.blk.cell 20
  simp [roomC] at c0
  clear h
  go_enter Tryz.func77, Tryz.ntmps77
  go_wp2
  go_loop [3] (fun s => s = .int .i64 0) (fun _ => 0)
  case atStart => rfl
  case round =>
    obtain rfl := hrel
    go_wp2
    go_ret
    exact ⟨rfl, rfl⟩
theorem hold_Groups (h : RoomAt w lo p R I A W B T C) : Calls Tryz.prog 78 #[.pointer (some ⟨p, 0, none⟩)] w fun e w' => e = .returned (.bool true) ∧ w' = w := by
  have c0 := h.blk.cell 22
  simp [roomC] at c0
  clear h
  go_enter Tryz.func78, Tryz.ntmps78
  go_wp2
  go_loop [3] (fun s => s = .int .i64 0) (fun _ => 0)
  case atStart => rfl
  case round =>
    obtain rfl := hrel
    go_wp2
    go_ret
    exact ⟨rfl, rfl⟩
theorem hold_Files (h : RoomAt w lo p R I A W B T C) : Calls Tryz.prog 79 #[.pointer (some ⟨p, 0, none⟩)] w fun e w' => e = .returned (.bool true) ∧ w' = w := by
  have c0 := h.blk.cell 24
  simp [roomC] at c0
  clear h
  go_enter Tryz.func79, Tryz.ntmps79
  go_wp2
  go_loop [3] (fun s => s = .int .i64 0) (fun _ => 0)
  case atStart => rfl
  case round =>
    obtain rfl := hrel
    go_wp2
    go_ret
    exact ⟨rfl, rfl⟩
end
theorem own_form {w : World} {lo : Nat} {e : TypeId} {size n : Nat} {v : Value} {xs : List Value} (h : w.ownsRow lo e size v n xs) : ∃ A c, v = .slice A n c := by
  rcases h.2 with ⟨rfl, h0⟩ | ⟨g, cap, cur, rfl, _⟩
  · exact ⟨none, 0, by rw [h0]⟩
  · exact ⟨_, _, rfl⟩
theorem own_at {w : World} {lo : Nat} {e : TypeId} {n c : Nat} {A : Option Addr} {xs : List Value} (h : w.ownsRow lo e 1 (.slice A n c) n xs) {i : Nat} {u : Value} (hu : xs[i]? = some u) : ∃ g, A = some ⟨g, 0, none⟩ ∧ w.cell? ⟨g, i, none⟩ = some u ∧ n ≤ c := by
  have hi := (List.getElem?_eq_some_iff.1 hu).1
  obtain ⟨g, c2, he, _, hc, hf⟩ := own_full h (by rw [h.1] at hi; omega)
  cases he
  exact ⟨g, rfl, hf.cell hu, hc⟩
set_option maxRecDepth 100000 in
set_option maxHeartbeats 4000000 in
theorem holdInts_walk (w : World) (lo p : Nat) (R : RoomV) (I : List KB) (A : List Int) (W : List WB) (B : List Int) (T : List TB) (C : List Int) (h : RoomAt w lo p R I A W B T C) (hA : A = I.map fun x => (x.l.length : Int)) (hI : I.length ≤ 70000) (hn : ∀ x ∈ I, x.l.length ≤ 70000) :
    Calls Tryz.prog 68 #[.pointer (some ⟨p, 0, none⟩)] w fun e w' => e = .returned (.bool true) ∧ w' = w := by
  have H := Lib.hid (And.intro h (And.intro hA hn))
  have c2 := h.blk.cell 2
  have c3 := h.blk.cell 3
  simp [roomC] at c2 c3
  obtain ⟨Ai, ci, hvi⟩ := own_form h.vi
  obtain ⟨Aa, ca, hva⟩ := own_form h.va
  have hAl : A.length = I.length := by rw [hA, List.length_map]
  rw [hvi] at c2
  rw [hva] at c3
  have hoi := h.vi
  have hoa := h.va
  rw [hvi] at hoi
  rw [hva] at hoa
  rw [hAl] at c3 hoa
  obtain ⟨n, hnn⟩ : ∃ n, n = I.length := ⟨_, rfl⟩
  rw [← hnn] at c2 c3 hI hoi hoa
  have HO := Lib.hid (And.intro hoi (And.intro hoa hnn))
  clear h hA hn hvi hva hAl hoi hoa hnn
  go_enter Tryz.func68, Tryz.ntmps68
  go_wp2
  go_loop [3] (fun s3 => ∃ i : Nat, s3 = .int .i64 i ∧ i ≤ n) (fun s3 => n - (RowKit.intOf s3).toNat)
  case atStart => exact ⟨0, by go_num, Nat.zero_le _⟩
  case round =>
    obtain ⟨i, rfl, hi⟩ := hrel
    by_cases hin : i < n
    · obtain ⟨x, hx⟩ : ∃ x, I[i]? = some x := ⟨_, List.getElem?_eq_getElem (by rw [← HO.out.2.2]; exact hin)⟩
      obtain ⟨gi, hAi, d1, hci⟩ := own_at HO.out.1 (i := i) (u := x.val) (by rw [List.getElem?_map, hx]; rfl)
      obtain ⟨ga, hAa, d2, hca⟩ := own_at HO.out.2.1 (i := i) (u := .int .i64 (x.l.length : Int)) (by rw [H.out.2.1, List.getElem?_map, List.getElem?_map, hx]; rfl)
      subst hAi
      subst hAa
      have hxb := (H.out.1.ints x (List.mem_of_getElem? hx)).2
      have hx7 := H.out.2.2 x (List.mem_of_getElem? hx)
      obtain ⟨l, g, cx⟩ := x
      unfold KB.val at d1
      simp only [] at d1 d2 hxb hx7
      obtain ⟨nx, hnx⟩ : ∃ nx, nx = l.length := ⟨_, rfl⟩
      rw [← hnx] at d1 d2 hx7
      have HX := Lib.hid (And.intro hxb hnx)
      have hini : (i : Int) < (n : Int) := by omega
      clear hx hxb hnx
      go_wp2
      go_loop [5] (fun s5 => ∃ k : Nat, s5 = .int .i64 ((nx + k : Nat) : Int) ∧ k ≤ 4) (fun s5 => nx + 4 - (RowKit.intOf s5).toNat)
      case atStart => exact ⟨0, by go_num, by omega⟩
      case round =>
        obtain ⟨k, rfl, hk⟩ := hrel
        by_cases hk4 : k < 4
        · have d3 : w.cell? ⟨g, nx + k, none⟩ = some (.int .i64 (lotV k)) := by
            refine HX.out.1.cell ?_
            rw [List.getElem?_append_right (by rw [List.length_map, ← HX.out.2]; omega), List.length_map, ← HX.out.2, show nx + k - nx = k from by omega]
            unfold marksI
            rw [List.getElem?_map, List.getElem?_range hk4]
            rfl
          have hki : ((nx + k : Nat) : Int) < (nx : Int) + 4 := by omega
          go_wp2_with fail
          refine (lot_walk w _ k (by omega) (by omega)).mono ?_
          rintro e X ⟨rfl, rfl⟩
          go_wp2
          go_round
          case rel => exact ⟨k + 1, by go_num, by omega⟩
          case measure => simp [RowKit.intOf]; omega
        · have hki : ¬ ((nx + k : Nat) : Int) < (nx : Int) + 4 := by omega
          go_wp2
          go_round
          case rel => exact ⟨i + 1, by go_num, by omega⟩
          case measure => simp [RowKit.intOf]; omega
    · go_wp2
      go_ret
      exact ⟨rfl, rfl⟩
end Go.Proofs.YtjieelmbgfnllaaGreatDoor

namespace Go.Proofs.YtjieelmbgfnllaaGreatDoor
open Go.RowKit Scr

set_option maxRecDepth 100000 in
set_option maxHeartbeats 4000000 in
theorem holdWrites_walk (w : World) (lo p : Nat) (R : RoomV) (I : List KB) (A : List Int) (W : List WB) (B : List Int) (T : List TB) (C : List Int) (h : RoomAt w lo p R I A W B T C) (hA : B = W.map fun x => (x.l.length : Int)) (hI : W.length ≤ 70000) (hn : ∀ x ∈ W, x.l.length ≤ 70000) :
    Calls Tryz.prog 73 #[.pointer (some ⟨p, 0, none⟩)] w fun e w' => e = .returned (.bool true) ∧ Mod [] w w' := by
  have H := Lib.hid (And.intro h (And.intro hA hn))
  have c2 := h.blk.cell 12
  have c3 := h.blk.cell 13
  simp [roomC] at c2 c3
  obtain ⟨Ai, ci, hvi⟩ := own_form h.vw
  obtain ⟨Aa, ca, hva⟩ := own_form h.vb
  have hAl : B.length = W.length := by rw [hA, List.length_map]
  rw [hvi] at c2
  rw [hva] at c3
  have hoi := h.vw
  have hoa := h.vb
  rw [hvi] at hoi
  rw [hva] at hoa
  rw [hAl] at c3 hoa
  obtain ⟨n, hnn⟩ : ∃ n, n = W.length := ⟨_, rfl⟩
  rw [← hnn] at c2 c3 hI hoi hoa
  have HO := Lib.hid (And.intro hoi (And.intro hoa hnn))
  clear h hA hn hvi hva hAl hoi hoa hnn
  go_enter Tryz.func73, Tryz.ntmps73
  go_wp2
  go_loopw [3] (fun s3 wr => ∃ i : Nat, s3 = .int .i64 i ∧ i ≤ n ∧ Mod [] w wr) (fun s3 _ => n - (RowKit.intOf s3).toNat)
  case atStart => exact ⟨0, by go_num, Nat.zero_le _, Mod.refl _ _⟩
  case round =>
    obtain ⟨i, rfl, hi, hm⟩ := hrel
    have c2r := hm.cell c2 (by simp)
    have c3r := hm.cell c3 (by simp)
    have HM := Lib.hid hm
    clear hm
    by_cases hin : i < n
    · obtain ⟨x, hx⟩ : ∃ x, W[i]? = some x := ⟨_, List.getElem?_eq_getElem (by rw [← HO.out.2.2]; exact hin)⟩
      obtain ⟨gi, hAi, d1, hci⟩ := own_at HO.out.1 (i := i) (u := x.val) (by rw [List.getElem?_map, hx]; rfl)
      obtain ⟨ga, hAa, d2, hca⟩ := own_at HO.out.2.1 (i := i) (u := .int .i64 (x.l.length : Int)) (by rw [H.out.2.1, List.getElem?_map, List.getElem?_map, hx]; rfl)
      subst hAi
      subst hAa
      have hxb := (H.out.1.wrs x (List.mem_of_getElem? hx)).2
      have hx7 := H.out.2.2 x (List.mem_of_getElem? hx)
      obtain ⟨l, g, cx⟩ := x
      unfold WB.val at d1
      simp only [] at d1 d2 hxb hx7
      obtain ⟨nx, hnx⟩ : ∃ nx, nx = l.length := ⟨_, rfl⟩
      rw [← hnx] at d1 d2 hx7
      have HX := Lib.hid (And.intro hxb hnx)
      have hini : (i : Int) < (n : Int) := by omega
      have d1r := HM.out.cell d1 (by simp)
      have d2r := HM.out.cell d2 (by simp)
      clear hx hxb hnx
      go_wp2
      clear c2r c3r d1r d2r
      go_loopw [5] (fun s5 wx => ∃ k : Nat, s5 = .int .i64 ((nx + k : Nat) : Int) ∧ k ≤ 4 ∧ Mod [] w wx) (fun s5 _ => nx + 4 - (RowKit.intOf s5).toNat)
      case atStart => exact ⟨0, by go_num, by omega, HM.out⟩
      case round =>
        obtain ⟨k, rfl, hk, hm⟩ := hrel
        have c2r := hm.cell c2 (by simp)
        have c3r := hm.cell c3 (by simp)
        have d1r := hm.cell d1 (by simp)
        have d2r := hm.cell d2 (by simp)
        have HM2 := Lib.hid hm
        clear hm
        by_cases hk4 : k < 4
        · have hrange : w.rangeAt g ((nx + k) * 3) (encWr (markWr k)) := fun j u hu => by
            have hj3 : j < 3 := (List.getElem?_eq_some_iff.1 hu).1
            refine HX.out.1.cell ?_
            rw [encs_get _ (nx + k) j (markWr k) ?_ hj3]
            · exact hu
            · rw [List.getElem?_append_right (by rw [← HX.out.2]; omega), ← HX.out.2, show nx + k - nx = k from by omega]
              unfold marksW
              rw [List.getElem?_map, List.getElem?_range hk4]
              rfl
          have HR := Lib.hid (show wr.rangeAt g ((nx + k) * 3) [.string ⟨(wordV k).toArray⟩, .bool false, .string ⟨#[]⟩] from range_new hrange HM2.out)
          have hwl : wr.heap.size < wr.heap.size + 1 := by omega
          clear hrange
          have hki : ((nx + k : Nat) : Int) < (nx : Int) + 4 := by omega
          go_wp2_with (refine wpList_load_mid rfl 71 _ rfl g ((nx + k) * 3) rfl [.string ⟨(wordV k).toArray⟩, .bool false, .string ⟨#[]⟩] _ HR.out Tryz.underlying71 rfl (by kernel_rfl) ?_)
          have e : ((nx + k : Nat) : Int) - (nx : Int) = (k : Int) := by omega
          go_quiet ((go_at_call 146; exact Calls.quiet_of_same (word_walk _ _ k (by omega) (by omega))))
          clear e
          go_wp2
          go_roundw
          case rel => exact ⟨k + 1, by go_num, by omega, (HM2.out.alloc _).drewN _⟩
          case measure => simp [RowKit.intOf]; omega
        · have hki : ¬ ((nx + k : Nat) : Int) < (nx : Int) + 4 := by omega
          go_wp2
          go_roundw
          case rel => exact ⟨i + 1, by go_num, by omega, HM2.out⟩
          case measure => simp [RowKit.intOf]; omega
    · go_wp2
      go_ret
      exact ⟨rfl, HM.out⟩
set_option maxRecDepth 100000 in
set_option maxHeartbeats 4000000 in
theorem holdSteps_walk (w : World) (lo p : Nat) (R : RoomV) (I : List KB) (A : List Int) (W : List WB) (B : List Int) (T : List TB) (C : List Int) (h : RoomAt w lo p R I A W B T C) (hA : C = T.map fun x => (x.l.length : Int)) (hI : T.length ≤ 70000) (hn : ∀ x ∈ T, x.l.length ≤ 70000) :
    Calls Tryz.prog 80 #[.pointer (some ⟨p, 0, none⟩)] w fun e w' => e = .returned (.bool true) ∧ Mod [] w w' := by
  have H := Lib.hid (And.intro h (And.intro hA hn))
  have c2 := h.blk.cell 26
  have c3 := h.blk.cell 27
  simp [roomC] at c2 c3
  obtain ⟨Ai, ci, hvi⟩ := own_form h.vs
  obtain ⟨Aa, ca, hva⟩ := own_form h.vt
  have hAl : C.length = T.length := by rw [hA, List.length_map]
  rw [hvi] at c2
  rw [hva] at c3
  have hoi := h.vs
  have hoa := h.vt
  rw [hvi] at hoi
  rw [hva] at hoa
  rw [hAl] at c3 hoa
  obtain ⟨n, hnn⟩ : ∃ n, n = T.length := ⟨_, rfl⟩
  rw [← hnn] at c2 c3 hI hoi hoa
  have HO := Lib.hid (And.intro hoi (And.intro hoa hnn))
  clear h hA hn hvi hva hAl hoi hoa hnn
  go_enter Tryz.func80, Tryz.ntmps80
  go_wp2
  go_loopw [3] (fun s3 wr => ∃ i : Nat, s3 = .int .i64 i ∧ i ≤ n ∧ Mod [] w wr) (fun s3 _ => n - (RowKit.intOf s3).toNat)
  case atStart => exact ⟨0, by go_num, Nat.zero_le _, Mod.refl _ _⟩
  case round =>
    obtain ⟨i, rfl, hi, hm⟩ := hrel
    have c2r := hm.cell c2 (by simp)
    have c3r := hm.cell c3 (by simp)
    have HM := Lib.hid hm
    clear hm
    by_cases hin : i < n
    · obtain ⟨x, hx⟩ : ∃ x, T[i]? = some x := ⟨_, List.getElem?_eq_getElem (by rw [← HO.out.2.2]; exact hin)⟩
      obtain ⟨gi, hAi, d1, hci⟩ := own_at HO.out.1 (i := i) (u := x.val) (by rw [List.getElem?_map, hx]; rfl)
      obtain ⟨ga, hAa, d2, hca⟩ := own_at HO.out.2.1 (i := i) (u := .int .i64 (x.l.length : Int)) (by rw [H.out.2.1, List.getElem?_map, List.getElem?_map, hx]; rfl)
      subst hAi
      subst hAa
      have hxb := (H.out.1.sts x (List.mem_of_getElem? hx)).2
      have hx7 := H.out.2.2 x (List.mem_of_getElem? hx)
      obtain ⟨l, g, cx⟩ := x
      unfold TB.val at d1
      simp only [] at d1 d2 hxb hx7
      obtain ⟨nx, hnx⟩ : ∃ nx, nx = l.length := ⟨_, rfl⟩
      rw [← hnx] at d1 d2 hx7
      have HX := Lib.hid (And.intro hxb hnx)
      have hini : (i : Int) < (n : Int) := by omega
      have d1r := HM.out.cell d1 (by simp)
      have d2r := HM.out.cell d2 (by simp)
      clear hx hxb hnx
      go_wp2
      clear c2r c3r d1r d2r
      go_loopw [5] (fun s5 wx => ∃ k : Nat, s5 = .int .i64 ((nx + k : Nat) : Int) ∧ k ≤ 40 ∧ Mod [] w wx) (fun s5 _ => nx + 40 - (RowKit.intOf s5).toNat)
      case atStart => exact ⟨0, by go_num, by omega, HM.out⟩
      case round =>
        obtain ⟨k, rfl, hk, hm⟩ := hrel
        have c2r := hm.cell c2 (by simp)
        have c3r := hm.cell c3 (by simp)
        have d1r := hm.cell d1 (by simp)
        have d2r := hm.cell d2 (by simp)
        have HM2 := Lib.hid hm
        clear hm
        by_cases hk4 : k < 40
        · have hrange : w.rangeAt g ((nx + k) * 12) (rowOf (markSt k)) := fun j u hu => by
            have hj12 : j < 12 := (List.getElem?_eq_some_iff.1 hu).1
            refine HX.out.1.cell ?_
            rw [rows_get _ (nx + k) j (markSt k) ?_ hj12]
            · exact hu
            · rw [List.getElem?_append_right (by rw [← HX.out.2]; omega), ← HX.out.2, show nx + k - nx = k from by omega]
              unfold marksS
              rw [List.getElem?_map, List.getElem?_range hk4]
              rfl
          have HR := Lib.hid (show wr.rangeAt g ((nx + k) * 12) [.int .i64 (lotV k), .int .i64 0, .int .i64 0, .int .i64 0, .int .i64 0, .slice none 0 0, .bool false, .string ⟨#[]⟩, .string ⟨#[]⟩, .int .i64 0, .int .i64 0, .slice none 0 0] from range_new hrange HM2.out)
          have hwl : wr.heap.size < wr.heap.size + 1 := by omega
          clear hrange
          have hki : ((nx + k : Nat) : Int) < (nx : Int) + 40 := by omega
          go_wp2_with (refine wpList_load_mid rfl 69 _ rfl g ((nx + k) * 12) rfl [.int .i64 (lotV k), .int .i64 0, .int .i64 0, .int .i64 0, .int .i64 0, .slice none 0 0, .bool false, .string ⟨#[]⟩, .string ⟨#[]⟩, .int .i64 0, .int .i64 0, .slice none 0 0] _ HR.out Tryz.underlying69 rfl (by kernel_rfl) ?_)
          have e : ((nx + k : Nat) : Int) - (nx : Int) = (k : Int) := by omega
          go_quiet ((go_at_call 144; exact Calls.quiet_of_same (lot_walk _ _ k (by omega) (by omega))))
          clear e
          go_wp2
          go_roundw
          case rel => exact ⟨k + 1, by go_num, by omega, (HM2.out.alloc _).drewN _⟩
          case measure => simp [RowKit.intOf]; omega
        · have hki : ¬ ((nx + k : Nat) : Int) < (nx : Int) + 40 := by omega
          go_wp2
          go_roundw
          case rel => exact ⟨i + 1, by go_num, by omega, HM2.out⟩
          case measure => simp [RowKit.intOf]; omega
    · go_wp2
      go_ret
      exact ⟨rfl, HM.out⟩

set_option maxRecDepth 100000 in
set_option maxHeartbeats 4000000 in
theorem hold_walk (w : World) (lo p : Nat) (R : RoomV) (I : List KB) (A : List Int) (W : List WB) (B : List Int) (T : List TB) (C : List Int) (h : RoomAt w lo p R I A W B T C) (hA : A = I.map fun x => (x.l.length : Int)) (hB : B = W.map fun x => (x.l.length : Int)) (hC : C = T.map fun x => (x.l.length : Int)) (hI : I.length ≤ 70000) (hW : W.length ≤ 70000) (hT : T.length ≤ 70000) (hnI : ∀ x ∈ I, x.l.length ≤ 70000) (hnW : ∀ x ∈ W, x.l.length ≤ 70000) (hnT : ∀ x ∈ T, x.l.length ≤ 70000) :
    Calls Tryz.prog 21 #[.pointer (some ⟨p, 0, none⟩)] w fun e w' => e = .returned (.bool true) ∧ Mod [] w w' := by
  have H := Lib.hid h
  have HI := Lib.hid (And.intro hA (And.intro hI hnI))
  have HW := Lib.hid (And.intro hB (And.intro hW hnW))
  have HT := Lib.hid (And.intro hC (And.intro hT hnT))
  clear h hA hB hC hI hW hT hnI hnW hnT
  go_enter Tryz.func21, Tryz.ntmps21
  go_wp2_with fail
  refine (hold_Bytes H.out).mono ?_
  rintro e X ⟨rfl, rfl⟩
  go_wp2_with fail
  refine (holdInts_walk _ lo p R I A W B T C H.out HI.out.1 HI.out.2.1 HI.out.2.2).mono ?_
  rintro e X ⟨rfl, rfl⟩
  go_wp2_with fail
  refine (hold_Nums H.out).mono ?_
  rintro e X ⟨rfl, rfl⟩
  go_wp2_with fail
  refine (hold_Texts H.out).mono ?_
  rintro e X ⟨rfl, rfl⟩
  go_wp2_with fail
  refine (hold_Entries H.out).mono ?_
  rintro e X ⟨rfl, rfl⟩
  go_wp2_with fail
  refine (hold_Pairs H.out).mono ?_
  rintro e X ⟨rfl, rfl⟩
  go_wp2_with fail
  refine (holdWrites_walk _ lo p R I A W B T C H.out HW.out.1 HW.out.2.1 HW.out.2.2).mono ?_
  rintro e w1 ⟨rfl, hm1⟩
  have H1 := Lib.hid (And.intro hm1 (H.out.new hm1))
  clear hm1
  go_wp2_with fail
  refine (hold_Tables H1.out.2).mono ?_
  rintro e X ⟨rfl, rfl⟩
  go_wp2_with fail
  refine (hold_Places H1.out.2).mono ?_
  rintro e X ⟨rfl, rfl⟩
  go_wp2_with fail
  refine (hold_Placeds H1.out.2).mono ?_
  rintro e X ⟨rfl, rfl⟩
  go_wp2_with fail
  refine (hold_Chunks H1.out.2).mono ?_
  rintro e X ⟨rfl, rfl⟩
  go_wp2_with fail
  refine (hold_Groups H1.out.2).mono ?_
  rintro e X ⟨rfl, rfl⟩
  go_wp2_with fail
  refine (hold_Files H1.out.2).mono ?_
  rintro e X ⟨rfl, rfl⟩
  go_wp2_with fail
  refine (holdSteps_walk _ lo p R I A W B T C H1.out.2 HT.out.1 HT.out.2.1 HT.out.2.2).mono ?_
  rintro e w2 ⟨rfl, hm2⟩
  have H2 := Lib.hid (H1.out.1.trans hm2)
  clear hm2
  go_wp2
  go_ret
  exact ⟨rfl, H2.out⟩
end Go.Proofs.YtjieelmbgfnllaaGreatDoor

namespace Go.Proofs.YtjieelmbgfnllaaGreatDoor
open Go.RowKit Scr

/-- A lent step: what it holds now, and where its lists lie. -/
structure LS where
  s : StepS
  gk : Nat
  ck : Nat
  gw : Nat
  cw : Nat
def LS.row (x : LS) : RStep := (x.s, .slice (some ⟨x.gw, 0, none⟩) x.s.op.writes.length (x.s.op.writes.length + 4), .slice (some ⟨x.gk, 0, none⟩) x.s.keep.length (x.s.keep.length + 4))
def LS.kb (x : LS) : KB := ⟨x.s.keep, x.gk, x.ck⟩
def LS.wb (x : LS) : WB := ⟨x.s.op.writes, x.gw, x.cw⟩
def LS.nk (x : LS) : Int := x.s.keep.length
def LS.nw (x : LS) : Int := x.s.op.writes.length
def LentAt (w : World) (lo p : Nat) (R : RoomV) (X : List LS) (g c : Nat) : Prop :=
  RoomAt w lo p R (X.map LS.kb) (X.map LS.nk) (X.map LS.wb) (X.map LS.nw) [⟨X.map LS.row, g, c⟩] [(X.length : Int)]
theorem map_set_same {α β : Type} {l : List α} {i : Nat} {x y : α} (f : α → β) (hx : l[i]? = some x) (hf : f y = f x) : (l.set i y).map f = l.map f := by
  rw [List.map_set, hf]
  obtain ⟨hi, rfl⟩ := List.getElem?_eq_some_iff.1 hx
  apply List.ext_getElem?
  intro j
  rw [List.getElem?_set]
  by_cases h : i = j
  · subst h; simp [hi]
  · simp [h]
theorem map_set_to {α β : Type} {l : List α} {i : Nat} {y : α} (f : α → β) : (l.set i y).map f = (l.map f).set i (f y) := List.map_set
theorem flat_set {α : Type} (f : α → List Value) (n : Nat) (hn : ∀ x, (f x).length = n) : ∀ (l : List α) (i j : Nat) (x y : α) (u : Value), l[i]? = some x → j < n → f y = (f x).set j u → (l.flatMap f).set (i * n + j) u = (l.set i y).flatMap f
  | [], i, j, x, y, u, h, _, _ => by simp at h
  | z :: t, 0, j, x, y, u, h, hj, hf => by
    simp at h; subst h
    rw [List.set_cons_zero, List.flatMap_cons, List.flatMap_cons, Nat.zero_mul, Nat.zero_add, List.set_append_left _ _ (by rw [hn]; exact hj), hf]
  | z :: t, i + 1, j, x, y, u, h, hj, hf => by
    rw [List.set_cons_succ, List.flatMap_cons, List.flatMap_cons, List.set_append_right _ _ (by rw [hn, Nat.succ_mul]; omega), hn, show (i + 1) * n + j - n = i * n + j from by rw [Nat.succ_mul]; omega]
    rw [flat_set f n hn t i j x y u (by simpa using h) hj hf]
theorem mem_set_cases {α : Type} {l : List α} {i : Nat} {a b : α} (h : b ∈ l.set i a) : b = a ∨ ∃ j, j ≠ i ∧ l[j]? = some b := by
  obtain ⟨j, hj⟩ := List.getElem?_of_mem h
  rw [List.getElem?_set] at hj
  split at hj
  · split at hj
    · exact .inl (Option.some.inj hj).symm
    · cases hj
  · rename_i he
    exact .inr ⟨j, fun e => he e.symm, hj⟩
theorem nodup_get_ne {l : List Nat} (h : l.Nodup) {i j : Nat} {a b : Nat} (hi : l[i]? = some a) (hj : l[j]? = some b) (hne : i ≠ j) : a ≠ b := by
  rintro rfl
  obtain ⟨hi1, hi2⟩ := List.getElem?_eq_some_iff.1 hi
  obtain ⟨hj1, hj2⟩ := List.getElem?_eq_some_iff.1 hj
  exact hne ((List.getElem_inj h).1 (hi2.trans hj2.symm))
theorem Turn.setOf {lo : Nat} {w : World} {g : Nat} {t : TypeId} {xs : List Value} (h : Full w g t xs) (hl : lo ≤ g) (j : Nat) (u : Value) : Turn lo [t] w (w.setCell ⟨g, j, none⟩ u) := by
  obtain ⟨cs, hb, _⟩ := h
  exact Turn.set_ hb hl j u
section
variable {w w' : World} {lo p : Nat} {R : RoomV} {X : List LS} {g c : Nat}
theorem LentAt.top (h : LentAt w lo p R X g c) : lo ≤ g ∧ Full w g 69 ((X.map LS.row ++ marksS 40).flatMap rowOf) := by
  have := RoomAt.sts h ⟨X.map LS.row, g, c⟩ (by simp)
  exact this
theorem LentAt.kb (h : LentAt w lo p R X g c) {i : Nat} {x : LS} (hx : X[i]? = some x) : lo ≤ x.gk ∧ Full w x.gk 3 (x.s.keep.map (Value.int .i64) ++ marksI 4) := RoomAt.ints h x.kb (List.mem_map_of_mem (List.mem_of_getElem? hx))
theorem LentAt.wb (h : LentAt w lo p R X g c) {i : Nat} {x : LS} (hx : X[i]? = some x) : lo ≤ x.gw ∧ Full w x.gw 71 ((x.s.op.writes ++ marksW 4).flatMap encWr) := RoomAt.wrs h x.wb (List.mem_map_of_mem (List.mem_of_getElem? hx))
theorem LentAt.new (h : LentAt w lo p R X g c) (hm : Mod [] w w') : LentAt w' lo p R X g c := RoomAt.new h hm
theorem LentAt.seen (h : LentAt w lo p R X g c) : Seen w (.slice (some ⟨g, 0, none⟩) X.length (X.length + 40)) (X.map LS.row) := by
  have ht := h.top.2
  rw [List.flatMap_append] at ht
  refine ⟨?_, fun y hy => ?_⟩
  · have := ht.front.seen X.length (X.length + 40)
    rwa [List.length_map]
  · obtain ⟨x, hx, rfl⟩ := List.mem_map.1 hy
    obtain ⟨i, hi⟩ := List.getElem?_of_mem hx
    have hw := (h.wb hi).2
    rw [List.flatMap_append] at hw
    exact ⟨hw.front.seen _ _, (h.kb hi).2.front.seen x.s.keep.length (x.s.keep.length + 4) |> fun z => by simpa [SeenInts, LS.row] using z⟩
theorem top_same {i : Nat} {x y : LS} (hx : X[i]? = some x) (hr : rowOf y.row = rowOf x.row) : ((X.set i y).map LS.row ++ marksS 40).flatMap rowOf = (X.map LS.row ++ marksS 40).flatMap rowOf := by
  rw [List.flatMap_append, List.flatMap_append]
  congr 1
  rw [List.flatMap_map, List.flatMap_map, List.flatMap_def, List.flatMap_def, map_set_same (fun z => rowOf (LS.row z)) hx hr]
theorem LentAt.setA (h : LentAt w lo p R X g c) {i : Nat} {x : LS} (hx : X[i]? = some x) (a : Int) :
    LentAt (w.setCell ⟨g, i * 12 + 1, none⟩ (.int .i64 a)) lo p R (X.set i { x with s := { x.s with a := a } }) g c := by
  have hT := Turn.setOf (lo := lo) h.top.2 h.top.1 (i * 12 + 1) (.int .i64 a)
  unfold LentAt
  rw [show (X.set i { x with s := { x.s with a := a } }).map LS.kb = X.map LS.kb from map_set_same LS.kb hx (rfl), show (X.set i { x with s := { x.s with a := a } }).map LS.nk = X.map LS.nk from map_set_same LS.nk hx (rfl), show (X.set i { x with s := { x.s with a := a } }).map LS.wb = X.map LS.wb from map_set_same LS.wb hx (rfl), show (X.set i { x with s := { x.s with a := a } }).map LS.nw = X.map LS.nw from map_set_same LS.nw hx (rfl), List.length_set]
  refine ⟨h.low, hT.blk h.blk (by decide), hT.owns h.vi (by decide), hT.owns h.va (by decide), hT.owns h.vw (by decide), hT.owns h.vb (by decide), ?_, hT.owns h.vt (by decide),
    fun y hy => ⟨(h.ints y hy).1, hT.full (h.ints y hy).2 (by decide)⟩, fun y hy => ⟨(h.wrs y hy).1, hT.full (h.wrs y hy).2 (by decide)⟩, fun y hy => ?_, h.nodI, h.nodW⟩
  · have := hT.owns h.vs (by decide)
    simpa [TB.val] using this
  · obtain rfl := List.mem_singleton.1 hy
    refine ⟨h.top.1, ?_⟩
    have hlen : i * 12 + 1 < ((X.map LS.row).flatMap rowOf).length := by
      rw [rows_len, List.length_map]
      have := (List.getElem?_eq_some_iff.1 hx).1
      omega
    have := h.top.2.set_ (i * 12 + 1) (.int .i64 a)
    rw [List.flatMap_append, List.set_append_left _ _ hlen, flat_set rowOf 12 (fun _ => rfl) (X.map LS.row) i 1 x.row (LS.row { x with s := { x.s with a := a } }) (.int .i64 a) (by rw [List.getElem?_map, hx]; rfl) (by decide) rfl, ← map_set_to, ← List.flatMap_append] at this
    exact this
theorem LentAt.setKey (h : LentAt w lo p R X g c) {i k : Nat} {x : LS} {y : Wr} (hx : X[i]? = some x) (hy : x.s.op.writes[k]? = some y) (t : Bs) :
    LentAt (w.setCell ⟨x.gw, k * 3, none⟩ (.string ⟨t.toArray⟩)) lo p R (X.set i { x with s := { x.s with op := { x.s.op with writes := x.s.op.writes.set k { y with key := t } } } }) g c := by
  have hT := Turn.setOf (lo := lo) (h.wb hx).2 (h.wb hx).1 (k * 3) (.string ⟨t.toArray⟩)
  unfold LentAt
  rw [show (X.set i { x with s := { x.s with op := { x.s.op with writes := x.s.op.writes.set k { y with key := t } } } }).map LS.kb = X.map LS.kb from map_set_same LS.kb hx (rfl), show (X.set i { x with s := { x.s with op := { x.s.op with writes := x.s.op.writes.set k { y with key := t } } } }).map LS.nk = X.map LS.nk from map_set_same LS.nk hx (rfl), show (X.set i { x with s := { x.s with op := { x.s.op with writes := x.s.op.writes.set k { y with key := t } } } }).map LS.nw = X.map LS.nw from map_set_same LS.nw hx (by simp [LS.nw]), List.length_set]
  have hvw : ((X.set i { x with s := { x.s with op := { x.s.op with writes := x.s.op.writes.set k { y with key := t } } } }).map LS.wb).map WB.val = (X.map LS.wb).map WB.val := by
    rw [List.map_map, List.map_map]
    exact map_set_same _ hx (by simp [WB.val, LS.wb])
  have hgs : ((X.set i { x with s := { x.s with op := { x.s.op with writes := x.s.op.writes.set k { y with key := t } } } }).map LS.wb).map WB.g = (X.map LS.wb).map WB.g := by
    rw [List.map_map, List.map_map]
    exact map_set_same _ hx rfl
  refine ⟨h.low, hT.blk h.blk (by decide), hT.owns h.vi (by decide), hT.owns h.va (by decide), ?_, hT.owns h.vb (by decide), ?_, hT.owns h.vt (by decide),
    fun y hy => ⟨(h.ints y hy).1, hT.full (h.ints y hy).2 (by decide)⟩, fun z hz => ?_, fun z hz => ?_, h.nodI, by rw [hgs]; exact h.nodW⟩
  · rw [hvw]
    have := hT.owns h.vw (by decide)
    simpa using this
  · have := hT.owns h.vs (by decide)
    simpa [TB.val] using this
  · rw [map_set_to] at hz
    rcases mem_set_cases hz with rfl | ⟨j, hj, hz⟩
    · refine ⟨(h.wb hx).1, ?_⟩
      have := (h.wb hx).2.set_ (k * 3 + 0) (.string ⟨t.toArray⟩)
      rw [List.flatMap_append, List.set_append_left _ _ (by
        have h1 := (List.getElem?_eq_some_iff.1 hy).1
        have h2 : (x.s.op.writes.flatMap encWr).length = x.s.op.writes.length * 3 := by
          clear h1 hy this
          induction x.s.op.writes with
          | nil => rfl
          | cons a l ih => rw [List.flatMap_cons, List.length_append, ih]; simp [encWr]; omega
        omega), flat_set encWr 3 (fun _ => rfl) x.s.op.writes k 0 y { y with key := t } (.string ⟨t.toArray⟩) hy (by decide) rfl, ← List.flatMap_append] at this
      exact this
    · have hzm := List.mem_of_getElem? hz
      refine ⟨(h.wrs z hzm).1, (h.wrs z hzm).2.far ?_ _⟩
      have hN := h.nodW
      exact nodup_get_ne hN (i := j) (j := i) (by rw [List.getElem?_map, hz]; rfl) (by rw [List.getElem?_map, List.getElem?_map, hx]; rfl) hj
  · obtain rfl := List.mem_singleton.1 hz
    exact ⟨h.top.1, by rw [top_same hx (by simp [rowOf, LS.row])]; exact hT.full h.top.2 (by decide)⟩
theorem LentAt.setKeep (h : LentAt w lo p R X g c) {i k : Nat} {x : LS} (hx : X[i]? = some x) (hk : k < x.s.keep.length) (a : Int) :
    LentAt (w.setCell ⟨x.gk, k, none⟩ (.int .i64 a)) lo p R (X.set i { x with s := { x.s with keep := x.s.keep.set k a } }) g c := by
  have hT := Turn.setOf (lo := lo) (h.kb hx).2 (h.kb hx).1 k (.int .i64 a)
  unfold LentAt
  rw [show (X.set i { x with s := { x.s with keep := x.s.keep.set k a } }).map LS.wb = X.map LS.wb from map_set_same LS.wb hx (rfl), show (X.set i { x with s := { x.s with keep := x.s.keep.set k a } }).map LS.nw = X.map LS.nw from map_set_same LS.nw hx (rfl), show (X.set i { x with s := { x.s with keep := x.s.keep.set k a } }).map LS.nk = X.map LS.nk from map_set_same LS.nk hx (by simp [LS.nk]), List.length_set]
  have hvi : ((X.set i { x with s := { x.s with keep := x.s.keep.set k a } }).map LS.kb).map KB.val = (X.map LS.kb).map KB.val := by
    rw [List.map_map, List.map_map]
    exact map_set_same _ hx (by simp [KB.val, LS.kb])
  have hgs : ((X.set i { x with s := { x.s with keep := x.s.keep.set k a } }).map LS.kb).map KB.g = (X.map LS.kb).map KB.g := by
    rw [List.map_map, List.map_map]
    exact map_set_same _ hx rfl
  have hgm : x.gk ∈ (X.map LS.kb).map KB.g := by
    rw [List.map_map]
    exact List.mem_map_of_mem (f := KB.g ∘ LS.kb) (List.mem_of_getElem? hx)
  have hap : x.gk ∉ R.nums := fun hin => (List.nodup_append.1 h.nodI).2.2 _ hin _ hgm rfl
  unfold RoomV.nums at hap
  simp only [List.mem_append, not_or] at hap
  have hM : Mod [x.gk] w (w.setCell ⟨x.gk, k, none⟩ (.int .i64 a)) := (Mod.refl _ _).setCell (by simp) _
  refine ⟨h.low, hT.blk h.blk (by decide), ?_, owns_mod h.va hM (fun g hg => by simp; rintro rfl; exact hap.1 (by simp [hg])), hT.owns h.vw (by decide), owns_mod h.vb hM (fun g hg => by simp; rintro rfl; exact hap.2.1 (by simp [hg])), ?_, owns_mod h.vt hM (fun g hg => by simp; rintro rfl; exact hap.2.2 (by simp [hg])),
    fun z hz => ?_, fun y hy => ⟨(h.wrs y hy).1, hT.full (h.wrs y hy).2 (by decide)⟩, fun z hz => ?_, by rw [hgs]; exact h.nodI, h.nodW⟩
  · rw [hvi]
    have := hT.owns h.vi (by decide)
    simpa using this
  · have := hT.owns h.vs (by decide)
    simpa [TB.val] using this
  · rw [map_set_to] at hz
    rcases mem_set_cases hz with rfl | ⟨j, hj, hz⟩
    · refine ⟨(h.kb hx).1, ?_⟩
      have := (h.kb hx).2.set_ k (.int .i64 a)
      rw [List.set_append_left _ _ (by rw [List.length_map]; exact hk), ← List.map_set] at this
      exact this
    · have hzm := List.mem_of_getElem? hz
      refine ⟨(h.ints z hzm).1, (h.ints z hzm).2.far ?_ _⟩
      have hN := (List.nodup_append.1 h.nodI).2.1
      exact nodup_get_ne hN (i := j) (j := i) (by rw [List.getElem?_map, hz]; rfl) (by rw [List.getElem?_map, List.getElem?_map, hx]; rfl) hj
  · obtain rfl := List.mem_singleton.1 hz
    exact ⟨h.top.1, by rw [top_same hx (by simp [rowOf, LS.row])]; exact hT.full h.top.2 (by decide)⟩
end
end Go.Proofs.YtjieelmbgfnllaaGreatDoor

namespace Go.Proofs.YtjieelmbgfnllaaGreatDoor
open Go.RowKit Scr

theorem Turn.own {lo : Nat} {T : List TypeId} {S : List Nat} {w w1 w2 : World} (h : Turn lo T w w1) (k : Mod S w1 w2) (hS : ∀ i ∈ S, w.heap.size ≤ i) : Turn lo T w w2 := by
  obtain ⟨S0, hm, h0⟩ := h
  exact ⟨S0, hm.then k (fun i hi => .inr (hS i hi)), h0⟩
theorem RoomAt.step_ {w w' : World} {lo lo2 p : Nat} {R : RoomV} {I : List KB} {A B C : List Int} {W : List WB} (h : RoomAt w lo p R I A W B [] C) (ht : Turn lo2 [69] w w') : RoomAt w' lo p R I A W B [] C :=
  ⟨h.low, ht.blk h.blk (by decide), ht.owns h.vi (by decide), ht.owns h.va (by decide), ht.owns h.vw (by decide), ht.owns h.vb (by decide), ht.owns h.vs (by decide), ht.owns h.vt (by decide),
   fun x hx => ⟨(h.ints x hx).1, ht.full (h.ints x hx).2 (by decide)⟩, fun x hx => ⟨(h.wrs x hx).1, ht.full (h.wrs x hx).2 (by decide)⟩, fun x hx => by simp at hx, h.nodI, h.nodW⟩
theorem Turn.ofStep {lo g : Nat} {w w' : World} {cs : Array Value} (hm : Mod [g] w w') (hb : Blk w g 69 cs) (hl : lo ≤ g) : Turn lo [69] w w' :=
  ⟨[g], hm, fun k hk => by simp at hk; subst hk; exact ⟨hl, _, cs, hb, by simp⟩⟩
theorem row_all (s : StepS) (A B : Option Addr) (n m c d : Nat) : (rowOf (s, .slice A n c, .slice B m d)).toArray.all (·.oneCell') = true :=
  all_oneCell_toArray (by intro u hu; simp only [rowOf, List.mem_cons, List.not_mem_nil, or_false] at hu; rcases hu with rfl | rfl | rfl | rfl | rfl | rfl | rfl | rfl | rfl | rfl | rfl | rfl <;> rfl)
def LayT : List TypeId := [3, 36, 65, 63]
def RStepPost (w : World) (lo p : Nat) (X : List LS) (s : StepS) (e : Ending) (w' : World) : Prop :=
  ∃ x R', x.s = s ∧ e = .returned (.agg (rowOf x.row).toArray) ∧ RoomAt w' lo p R' ((X ++ [x]).map LS.kb) ((X ++ [x]).map LS.nk) ((X ++ [x]).map LS.wb) ((X ++ [x]).map LS.nw) [] [] ∧ Turn lo LayT w w'
set_option maxRecDepth 100000 in
set_option maxHeartbeats 4000000 in
theorem rstep_walk (w0 w : World) (lo p : Nat) (R : RoomV) (X : List LS) (s : StepS) (wv kv : Value) (h : RoomAt w lo p R (X.map LS.kb) (X.map LS.nk) (X.map LS.wb) (X.map LS.nw) [] []) (hm0 : Mod [] w0 w) (hl0 : w0.heap.size ≤ lo) (h1 : SeenWrs w0 wv s.op.writes) (h2 : SeenInts w0 kv s.keep) (hw7 : s.op.writes.length ≤ 70000) (hk7 : s.keep.length ≤ 70000) (hX : X.length ≤ 70000) (hlo : lo ≤ w.heap.size) :
    Calls Tryz.prog 143 #[.pointer (some ⟨p, 0, none⟩), .agg (rowOf (s, wv, kv)).toArray] w (RStepPost w lo p X s) := by
  have HS := Lib.hid (And.intro h (And.intro hm0 (And.intro hl0 (And.intro h1 (And.intro h2 (And.intro hw7 (And.intro hk7 (And.intro hX hlo))))))))
  have hwv : wv.oneCell' = true := by obtain ⟨_, _, rfl, _⟩ := h1; rfl
  have hkv : kv.oneCell' = true := by obtain ⟨_, _, rfl, _⟩ := h2; rfl
  have hpw := h.blk.lt
  obtain ⟨A1, c1, rfl, _⟩ := h1
  obtain ⟨A2, c2, rfl, _⟩ := h2
  have HB := Lib.hid (show Blk ((w.alloc (.cells #[.int .i64 s.kind, .int .i64 s.a, .int .i64 s.b, .int .i64 s.c, .int .i64 s.op.kind, (.slice A1 s.op.writes.length c1), .bool s.op.sync, .string ⟨s.op.key.toArray⟩, .string ⟨s.op.til.toArray⟩, .int .i64 s.op.n, .int .i64 s.op.snap, (.slice A2 s.keep.length c2)] 69)).alloc (.cells zeroStep 69)) w.heap.size 69 #[.int .i64 s.kind, .int .i64 s.a, .int .i64 s.b, .int .i64 s.c, .int .i64 s.op.kind, (.slice A1 s.op.writes.length c1), .bool s.op.sync, .string ⟨s.op.key.toArray⟩, .string ⟨s.op.til.toArray⟩, .int .i64 s.op.n, .int .i64 s.op.snap, (.slice A2 s.keep.length c2)] ∧ Blk ((w.alloc (.cells #[.int .i64 s.kind, .int .i64 s.a, .int .i64 s.b, .int .i64 s.c, .int .i64 s.op.kind, (.slice A1 s.op.writes.length c1), .bool s.op.sync, .string ⟨s.op.key.toArray⟩, .string ⟨s.op.til.toArray⟩, .int .i64 s.op.n, .int .i64 s.op.snap, (.slice A2 s.keep.length c2)] 69)).alloc (.cells zeroStep 69)) (w.heap.size + 1) 69 zeroStep from ⟨(Blk.new _ _ _).alloc _, Blk.newAt _ _ _ (by simp)⟩)
  clear h hm0 hl0 hw7 hk7 hX hlo
  unfold rowOf
  unfold zeroStep at HB
  simp only [] at HB ⊢
  go_enter Tryz.func143, Tryz.ntmps143
  go_wp2_with fail
  refine (layWrites_walk _ lo p R _ _ _ _ _ _ _ s.op.writes (HS.out.1.new (((Mod.refl [] w).alloc _).alloc _)) (HS.out.2.2.2.1.new (((HS.out.2.1).alloc _).alloc _)) HS.out.2.2.2.2.2.1 (by rw [List.length_map]; exact HS.out.2.2.2.2.2.2.2.1) (by rw [List.length_map]; exact HS.out.2.2.2.2.2.2.2.1) (by have := HS.out.2.2.2.2.2.2.2.2; simp; omega)).mono ?_
  rintro e w1 ⟨g1, c3, v1, v2, rfl, hR1, hT1, hg1⟩
  have hbx := (hT1.blk HB.out.1 (by decide)).set_ 5 (.slice (some ⟨g1, 0, none⟩) s.op.writes.length (s.op.writes.length + 4))
  simp at hbx
  have HB1 := Lib.hid (And.intro hbx (hT1.blk HB.out.2 (by decide)))
  have hq := hT1.blk HB.out.1 (by decide)
  have hq5 := hq.cell 5
  have hq5f := hq.frozen 5
  have hq11 := hq.cell 11
  simp at hq5 hq11
  have hz1 := hT1.size
  simp at hz1
  have hM1 : Mod [] w0 w1 := hT1.new (((HS.out.2.1).alloc _).alloc _) HS.out.2.2.1
  have hM1s : Mod [] w0 (w1.setCell ⟨w.heap.size, 5, none⟩ (.slice (some ⟨g1, 0, none⟩) s.op.writes.length (s.op.writes.length + 4))) := hM1.setCell (.inr HS.out.2.1.size) _
  have hTs : Turn lo [69] w1 (w1.setCell ⟨w.heap.size, 5, none⟩ (.slice (some ⟨g1, 0, none⟩) s.op.writes.length (s.op.writes.length + 4))) := Turn.set_ hq HS.out.2.2.2.2.2.2.2.2 _ _
  have hTA : Turn lo LayT w (w1.setCell ⟨w.heap.size, 5, none⟩ (.slice (some ⟨g1, 0, none⟩) s.op.writes.length (s.op.writes.length + 4))) := ((Turn.of_mod (((Mod.refl [] w).alloc _).alloc _)).trans (hT1.mono (by decide))).own (S := [w.heap.size]) ((Mod.refl _ _).setCell (by simp) _) (by simp)
  have H1 := Lib.hid (And.intro (hR1.step_ hTs) (And.intro hM1s hTA))
  clear hR1 hT1 hg1 hbx hq hM1 hM1s hTs hTA
  go_wp2_with fail
  refine (layInts_walk _ lo p _ _ _ _ _ _ _ _ s.keep H1.out.1 (HS.out.2.2.2.2.1.new H1.out.2.1) HS.out.2.2.2.2.2.2.1 (by rw [List.length_map]; exact HS.out.2.2.2.2.2.2.2.1) (by rw [List.length_map]; exact HS.out.2.2.2.2.2.2.2.1) (by have := HS.out.2.2.2.2.2.2.2.2; simp; omega)).mono ?_
  rintro e w2 ⟨g2, c4, v3, v4, rfl, hR2, hT2, hg2⟩
  have hb2 := hT2.blk HB1.out.1 (by decide)
  have hz2 := hT2.blk (HB1.out.2.far (p := ⟨w.heap.size, 5, none⟩) (by simp) (.slice (some ⟨g1, 0, none⟩) s.op.writes.length (s.op.writes.length + 4))) (by decide)
  clear hq5 hq5f hq11
  have q0 := hb2.cell 0
  have q1 := hb2.cell 1
  have q2 := hb2.cell 2
  have q3 := hb2.cell 3
  have q4 := hb2.cell 4
  have q5 := hb2.cell 5
  have q6 := hb2.cell 6
  have q7 := hb2.cell 7
  have q8 := hb2.cell 8
  have q9 := hb2.cell 9
  have q10 := hb2.cell 10
  have q11 := hb2.cell 11
  have qf0 := hb2.frozen 0
  have qf1 := hb2.frozen 1
  have qf2 := hb2.frozen 2
  have qf3 := hb2.frozen 3
  have qf4 := hb2.frozen 4
  have qf5 := hb2.frozen 5
  have qf6 := hb2.frozen 6
  have qf7 := hb2.frozen 7
  have qf8 := hb2.frozen 8
  have qf9 := hb2.frozen 9
  have qf10 := hb2.frozen 10
  have qf11 := hb2.frozen 11
  simp at q0 q1 q2 q3 q4 q5 q6 q7 q8 q9 q10 q11
  have hzz := hT2.size
  simp at hzz
  have hbs := hb2.set_ 11 (.slice (some ⟨g2, 0, none⟩) s.keep.length (s.keep.length + 4))
  simp at hbs
  have hTs : Turn lo [69] w2 (w2.setCell ⟨w.heap.size, 11, none⟩ (.slice (some ⟨g2, 0, none⟩) s.keep.length (s.keep.length + 4))) := Turn.set_ hb2 HS.out.2.2.2.2.2.2.2.2 _ _
  have hTA : Turn lo LayT w (w2.setCell ⟨w.heap.size, 11, none⟩ (.slice (some ⟨g2, 0, none⟩) s.keep.length (s.keep.length + 4))) := (H1.out.2.2.trans (hT2.mono (by decide))).own (S := [w.heap.size]) ((Mod.refl _ _).setCell (by simp) _) (by simp)
  have H2 := Lib.hid (And.intro (hR2.step_ hTs) (And.intro hTA (hz2.far (p := ⟨w.heap.size, 11, none⟩) (by simp) (.slice (some ⟨g2, 0, none⟩) s.keep.length (s.keep.length + 4)))))
  clear hR2 hT2 hg2 hb2 hz2 hTs hTA hbs
  go_wp2_with (refine wpList_store_step rfl _ _ rfl (w.heap.size + 1) #[.int .i64 s.kind, .int .i64 s.a, .int .i64 s.b, .int .i64 s.c, .int .i64 s.op.kind, (.slice (some ⟨g1, 0, none⟩) s.op.writes.length (s.op.writes.length + 4)), .bool s.op.sync, .string ⟨s.op.key.toArray⟩, .string ⟨s.op.til.toArray⟩, .int .i64 s.op.n, .int .i64 s.op.snap, (.slice (some ⟨g2, 0, none⟩) s.keep.length (s.keep.length + 4))] rfl rfl zeroStep H2.out.2.2 rfl rfl (row_all s (some ⟨g1, 0, none⟩) (some ⟨g2, 0, none⟩) _ _ _ _) ?_; intro W4 hs4 hB4 hM4; have H4 := Lib.hid (And.intro hB4 hM4); clear hs4 hB4 hM4)
  go_wp2
  refine ret_cell Tryz.results143 rfl H4.out.1 Tryz.underlying69 rfl (by kernel_rfl) rfl ?_
  have hlz := HS.out.2.2.2.2.2.2.2.2
  have hRf := H2.out.1.step_ (Turn.ofStep (lo := lo) H4.out.2 H2.out.2.2 (by omega))
  exact ⟨⟨s, g2, c4, g1, c3⟩, _, rfl, rfl, by simpa [LS.kb, LS.nk, LS.wb, LS.nw] using hRf, H2.out.2.1.own H4.out.2 (by simp)⟩

theorem Turn.ownGrown {lo lo2 : Nat} {T : List TypeId} {w w1 w2 : World} {e : TypeId} {size n : Nat} {v : Value} {xs : List Value} (h : Turn lo T w w1) (ho : w1.ownsRow lo2 e size v n xs) (hl : w.heap.size ≤ lo2) (hg : w1.grownBy w2 v.ownBlock) : Turn lo T w w2 :=
  h.own (S := v.ownBlock.toList) ⟨hg.os, hg.tape, hg.output, hg.size, fun k hk hn => hg.block k hk (fun e => hn (by rw [← e]; simp))⟩ (fun i hi => Nat.le_trans hl (own_ge ho (by simpa using hi)))
/-- While the steps are laid. -/
def LaySt (w : World) (lo p : Nat) (rs : List RStep) (X : List LS) (R : RoomV) (m : Nat) (v : Value) (wr : World) : Prop :=
  X.map (·.s) = (rs.take X.length).map (·.1) ∧ RoomAt wr lo p R (X.map LS.kb) (X.map LS.nk) (X.map LS.wb) (X.map LS.nw) [] [] ∧ wr.ownsRow w.heap.size 69 12 v (X.length + m) ((X.map LS.row ++ marksS m).flatMap rowOf) ∧ Turn lo LayT w wr
theorem laySt_next {w wr w3 w4 : World} {lo p : Nat} {rs : List RStep} {X : List LS} {R R3 : RoomV} {v v4 : Value} {x : LS} {y : RStep} {O : Obj} (h : LaySt w lo p rs X R 0 v wr) (hy : rs[X.length]? = some y) (hxs : x.s = y.1)
    (hR : RoomAt w3 lo p R3 ((X ++ [x]).map LS.kb) ((X ++ [x]).map LS.nk) ((X ++ [x]).map LS.wb) ((X ++ [x]).map LS.nw) [] []) (hT : Turn lo LayT wr w3) (hl : lo ≤ w.heap.size)
    (ho : w4.ownsRow w.heap.size 69 12 v4 (X.length + 0 + 1) ((X.map LS.row ++ marksS 0).flatMap rowOf ++ rowOf x.row)) (hg : (w3.alloc O).grownBy w4 v.ownBlock) : LaySt w lo p rs (X ++ [x]) R3 0 v4 w4 := by
  have hown3 := (hT.owns h.2.2.1 (by decide)).alloc O
  refine ⟨?_, ?_, ?_, ?_⟩
  · rw [List.map_append, h.1, List.length_append, show X.length + [x].length = X.length + 1 from rfl, take_snoc rs X.length y hy, List.map_append]
    simp [hxs]
  · exact (hR.new ((Mod.refl [] _).alloc O)).step_ (Turn.grown hown3 hl hg)
  · rw [List.length_append]
    simp [marksS] at ho ⊢
    exact ho
  · exact ((h.2.2.2.trans hT).trans (Turn.of_mod ((Mod.refl [] _).alloc O))).ownGrown hown3 (Nat.le_refl _) hg
theorem laySt_mark {w wr w4 : World} {lo p m : Nat} {rs : List RStep} {X : List LS} {R : RoomV} {v v4 : Value} {O : Obj} (h : LaySt w lo p rs X R m v wr) (hl : lo ≤ w.heap.size)
    (ho : w4.ownsRow w.heap.size 69 12 v4 (X.length + m + 1) ((X.map LS.row ++ marksS m).flatMap rowOf ++ rowOf (markSt m))) (hg : (wr.alloc O).grownBy w4 v.ownBlock) : LaySt w lo p rs X R (m + 1) v4 w4 := by
  have hown3 := h.2.2.1.alloc O
  refine ⟨h.1, ?_, ?_, ?_⟩
  · exact (h.2.1.new ((Mod.refl [] _).alloc O)).step_ (Turn.grown hown3 hl hg)
  · rw [marksS_succ, ← List.append_assoc, List.flatMap_append]
    simp at ho ⊢
    exact ho
  · exact (h.2.2.2.trans (Turn.of_mod ((Mod.refl [] _).alloc O))).ownGrown hown3 (Nat.le_refl _) hg
def LayStepsPost (w : World) (lo p : Nat) (rs : List RStep) (e : Ending) (w' : World) : Prop :=
  ∃ X R g c, e = .returned (.slice (some ⟨g, 0, none⟩) rs.length (rs.length + 40)) ∧ X.map (·.s) = rs.map (·.1) ∧ LentAt w' lo p R X g c ∧ Turn lo (22 :: LayT) w w'
theorem rows_one12 (s : StepS) (A B : Option Addr) (n m c d : Nat) : ∀ u ∈ rowOf (s, .slice A n c, .slice B m d), u.oneCell' = true := by
  intro u hu; simp only [rowOf, List.mem_cons, List.not_mem_nil, or_false] at hu; rcases hu with rfl | rfl | rfl | rfl | rfl | rfl | rfl | rfl | rfl | rfl | rfl | rfl <;> rfl

set_option maxRecDepth 100000 in
set_option maxHeartbeats 8000000 in
theorem laySteps_walk (w0 w : World) (lo p : Nat) (R : RoomV) (v : Value) (rs : List RStep) (h : RoomAt w lo p R [] [] [] [] [] []) (hm0 : Mod [] w0 w) (hl0 : w0.heap.size ≤ lo) (hs : Seen w0 v rs) (hn : ∀ x ∈ rs, x.1.op.writes.length ≤ 70000 ∧ x.1.keep.length ≤ 70000) (hl : rs.length ≤ 70000) (hlo : lo ≤ w.heap.size) :
    Calls Tryz.prog 65 #[.pointer (some ⟨p, 0, none⟩), v, .int .i64 40] w (LayStepsPost w lo p rs) := by
  have HS := Lib.hid (And.intro h (And.intro hm0 (And.intro hl0 (And.intro hs (And.intro hn hlo)))))
  have hpw := h.blk.lt
  obtain ⟨Av, cv, rfl, _⟩ := hs.1
  obtain ⟨n, hnn⟩ : ∃ n, n = rs.length := ⟨_, rfl⟩
  rw [← hnn] at hl ⊢
  have HN := Lib.hid hnn
  obtain ⟨i0, hi, hz0, hz1, hz2⟩ := info_parts info_step
  obtain ⟨i1, gi, gz0, gz1, gz2⟩ := info_parts info_steps
  obtain ⟨i2, ki, kz0, kz1, kz2⟩ := info_parts info_int
  have HI := Lib.hid (And.intro hi (And.intro hz0 (And.intro hz1 hz2)))
  have HJ := Lib.hid (And.intro gi (And.intro gz0 (And.intro gz1 gz2)))
  have HK := Lib.hid (And.intro ki (And.intro kz0 (And.intro kz1 kz2)))
  clear hi hz0 hz1 hz2 gi gz0 gz1 gz2 ki kz0 kz1 kz2 hnn h hm0 hl0 hs hn hlo
  go_enter Tryz.func65, Tryz.ntmps65
  go_wp2
  go_loopw [7, 8] (fun s7 s8 wr => ∃ (j : Nat) (A2 : Option Addr) (c2 : Nat) (X : List LS) (R2 : RoomV), s8 = .int .i64 j ∧ s7 = .slice A2 j c2 ∧ j ≤ n ∧ j = X.length ∧ LaySt w lo p rs X R2 0 (.slice A2 j c2) wr) (fun _ s8 _ => n - (RowKit.intOf s8).toNat)
  case atStart => exact ⟨0, some ⟨w.heap.size, 0, none⟩, 0, [], R, by go_num, rfl, Nat.zero_le _, rfl, by simp, HS.out.1.new ((Mod.refl [] w).alloc _), by simpa [marksS] using World.ownsRow_lit (base := w.heap.size) (size := 12) w #[] 0 (Nat.le_refl _) (by unfold maxLen; omega) (by simp), Turn.of_mod ((Mod.refl [] w).alloc _)⟩
  case round =>
    obtain ⟨j, A2, c2, X, R2, rfl, rfl, hj, hjX, hlay⟩ := hrel
    have H := Lib.hid hlay
    have HX := Lib.hid hjX
    have hwz := hlay.2.2.2.size
    clear hlay hjX
    by_cases hjn : j < n
    · obtain ⟨x, hx⟩ : ∃ x, rs[j]? = some x := ⟨_, List.getElem?_eq_getElem (by rw [← HN.out]; exact hjn)⟩
      obtain ⟨s, wv, kv⟩ := x
      obtain ⟨b1, o1, c1, e1, r1⟩ := HS.out.2.2.2.1.range hx
      have q1 := HS.out.2.2.2.1.2 _ (List.mem_of_getElem? hx)
      have q2 := HS.out.2.2.2.2.1 _ (List.mem_of_getElem? hx)
      have hMw : Mod [] w0 wr := H.out.2.2.2.new HS.out.2.1 HS.out.2.2.1
      have HR := Lib.hid (range_new r1 hMw)
      have HW := Lib.hid hMw
      have HXX := Lib.hid hx
      have HQ := Lib.hid (And.intro q1 q2)
      cases e1
      clear r1 hx q1 q2 hMw
      have hjni : (j : Int) < (n : Int) := by omega
      go_wp2_with (refine wpList_load_mid rfl 69 _ rfl b1 (o1 + j * 12) rfl (rowOf (s, wv, kv)) _ HR.out Tryz.underlying69 rfl (row_size _) ?_)
      refine (rstep_walk w0 wr lo p R2 X s wv kv H.out.2.1 HW.out HS.out.2.2.1 HQ.out.1.1 HQ.out.1.2 HQ.out.2.1 HQ.out.2.2 (by rw [← HX.out]; omega) (by have := HS.out.2.2.2.2.2; omega)).mono ?_
      rintro e w3 ⟨⟨s3, gk, ck, gw, cw⟩, R3, hxs, he, hR3, hT3⟩
      obtain rfl : e = .returned (.agg #[.int .i64 s3.kind, .int .i64 s3.a, .int .i64 s3.b, .int .i64 s3.c, .int .i64 s3.op.kind, (.slice (some ⟨gw, 0, none⟩) s3.op.writes.length (s3.op.writes.length + 4)), .bool s3.op.sync, .string ⟨s3.op.key.toArray⟩, .string ⟨s3.op.til.toArray⟩, .int .i64 s3.op.n, .int .i64 s3.op.snap, (.slice (some ⟨gk, 0, none⟩) s3.keep.length (s3.keep.length + 4))]) := he
      have H3 := Lib.hid (And.intro hxs (And.intro hR3 hT3))
      have hz3 := hT3.size
      clear hxs hR3 hT3
      go_wp2_with (at_builtin; refine wpList_append_seen rfl _ _ 22 rfl w.heap.size 69 i0 (.agg zeroStep) 12 144 Tryz.underlying22 HI.out.1 HI.out.2.1 HI.out.2.2.1 HI.out.2.2.2 rfl (by decide) (.slice A2 j c2) (X.length + 0) ((X.map LS.row ++ marksS 0).flatMap rowOf) rfl ((H3.out.2.2.owns H.out.2.2.1 (by decide)).alloc _) _ 1 (rowOf (LS.row ⟨s3, gk, ck, gw, cw⟩)) rfl (seen_new _ _ _ _ _) rfl (rows_one12 _ _ _ _ _ _ _) (by rw [← HX.out]; unfold maxLen; omega) (by rw [← HX.out]; omega) (by simp <;> omega) ?_; intro A4 c4 nn w4 hnn hown hg hat; rw [← HX.out] at hnn; replace hnn : nn = j + 1 := (by omega); subst hnn; have H4 := Lib.hid (laySt_next (x := ⟨s3, gk, ck, gw, cw⟩) (y := (s, wv, kv)) H.out (HX.out ▸ HXX.out) H3.out.1 H3.out.2.1 H3.out.2.2 HS.out.2.2.2.2.2 hown hg); clear hown hg hat)
      go_wp2
      go_roundw
      case rel => exact ⟨j + 1, A4, c4, _, _, by go_num, rfl, by omega, by rw [List.length_append, ← HX.out]; rfl, H4.out⟩
      case measure => simp [RowKit.intOf]; omega
    · have e : n = j := by omega
      subst e
      clear hjn hj
      go_wp2
      go_loopw [7, 9] (fun s7 s9 wr => ∃ (k : Nat) (A5 : Option Addr) (c5 : Nat), s9 = .int .i64 k ∧ s7 = .slice A5 (n + k) c5 ∧ k ≤ 40 ∧ LaySt w lo p rs X R2 k (.slice A5 (n + k) c5) wr) (fun _ s9 _ => 40 - (RowKit.intOf s9).toNat)
      case atStart => exact ⟨0, A2, c2, by go_num, rfl, by omega, H.out⟩
      case round =>
        obtain ⟨k, A5, c5, rfl, rfl, hk, hlay⟩ := hrel
        have H5 := Lib.hid hlay
        have hwz2 := hlay.2.2.2.size
        clear hlay
        by_cases hk40 : k < 40
        · have hki : (k : Int) < 40 := by omega
          go_wp2_with fail
          refine (lot_walk wr k k rfl (by omega)).mono ?_
          rintro e X0 ⟨rfl, rfl⟩
          go_wp2_with (at_builtin; refine wpList_append_seen rfl _ _ 22 rfl w.heap.size 69 i0 (.agg zeroStep) 12 144 Tryz.underlying22 HI.out.1 HI.out.2.1 HI.out.2.2.1 HI.out.2.2.2 rfl (by decide) (.slice A5 (n + k) c5) (X.length + k) ((X.map LS.row ++ marksS k).flatMap rowOf) rfl (H5.out.2.2.1.alloc _) _ 1 (rowOf (markSt k)) rfl (seen_new _ _ _ _ _) rfl (rows_one12 _ none none 0 0 0 0) (by rw [← HX.out]; unfold maxLen; omega) (by rw [← HX.out]; omega) (by simp <;> omega) ?_; intro A6 c6 nn w6 hnn hown hg hat; rw [← HX.out] at hnn; subst hnn; have H6 := Lib.hid (laySt_mark H5.out HS.out.2.2.2.2.2 hown hg); clear hown hg hat)
          go_wp2
          go_roundw
          case rel => exact ⟨k + 1, A6, c6, by go_num, rfl, by omega, H6.out⟩
          case measure => simp [RowKit.intOf]; omega
        · have e : k = 40 := by omega
          subst e
          clear hk40 hk
          obtain ⟨g, c, he, hgz, hnc, hfull⟩ := own_full H5.out.2.2.1 (by omega)
          rw [← HX.out] at he hnc
          cases he
          have HG := Lib.hid hfull
          have q1 := H5.out.2.1.blk.cell 26
          have q1f := H5.out.2.1.blk.frozen 26
          have q2 := H5.out.2.1.blk.cell 27
          have q2f := H5.out.2.1.blk.frozen 27
          simp [roomC] at q1 q2
          have hpz := H5.out.2.1.blk.lt
          clear hfull
          have hlw : lo ≤ wr.heap.size := by have := HS.out.2.2.2.2.2; omega
          go_wp2_with (at_builtin; first | (refine wpList_append_seen rfl _ _ 54 rfl lo 22 i1 (.slice none 0 0) 1 24 Tryz.underlying54 HJ.out.1 HJ.out.2.1 HJ.out.2.2.1 HJ.out.2.2.2 rfl (by decide) R2.vs 0 [] rfl (H5.out.2.1.vs.alloc _) _ 1 [.slice (some ⟨g, 0, none⟩) (n + 40) c5] rfl (seen_new _ _ _ _ _) rfl (by intro u hu; simp at hu; subst hu; rfl) (by unfold maxLen; omega) (by omega) (by simp <;> omega) ?_; intro A7 c7 nn7 w7 hnn7 hown7 hg7 hat7; have hb7 := blk_grown (H5.out.2.1.blk.alloc _) (H5.out.2.1.vs.alloc _) (by decide) hg7; have H7 := Lib.hid (RoomAt.grow_vs (x := ⟨X.map LS.row, g, c5⟩) (H5.out.2.1.new ((Mod.refl [] wr).alloc _)) ⟨by have := HS.out.2.2.2.2.2; show lo ≤ g; omega, HG.out.mod ((Mod.refl [] wr).alloc _) (by simp)⟩ (by simpa [TB.val, ← HX.out] using hown7) hg7); have q3 := hb7.cell 26; have q3f := hb7.frozen 26; have q4 := hb7.cell 27; have q4f := hb7.frozen 27; simp [roomC] at q3 q4; clear hown7 hg7 hat7 hb7 hnn7 q1 q1f q2 q2f; have hz7 := H7.out.2.size; simp at hz7) | (refine wpList_append_seen rfl _ _ 36 rfl lo 3 i2 (.int .i64 0) 1 8 Tryz.underlying36 HK.out.1 HK.out.2.1 HK.out.2.2.1 HK.out.2.2.2 rfl (by decide) R2.vt 0 [] rfl (H7.out.1.vt.alloc _) (.slice (some ⟨w7.heap.size, 0, none⟩) 1 1) 1 [.int .i64 n] rfl (seen_new2 _ _ _ _ _ _ (by simp [World.setCell])) rfl (by intro u hu; simp at hu; subst hu; rfl) (by unfold maxLen; omega) (by omega) (by simp <;> omega) ?_; intro A8 c8 nn8 w8 hnn8 hown8 hg8 hat8; have hb8 := blk_grown (H7.out.1.blk.alloc _) (H7.out.1.vt.alloc _) (by decide) hg8; have H8 := Lib.hid (RoomAt.grow_vt (x := (n : Int)) (H7.out.1.new ((Mod.refl [] _).alloc _)) hown8 hg8 hat8); have q5 := hb8.cell 27; have q5f := hb8.frozen 27; simp [roomC] at q5; clear hown8 hg8 hat8 hb8 hnn8))
          go_ret
          have hmap : X.map (·.s) = rs.map (·.1) := by rw [H5.out.1, ← HX.out, List.take_of_length_le (by rw [← HN.out]; exact Nat.le_refl _)]
          exact ⟨X, _, g, c5, by rw [← HN.out]; rfl, hmap, by unfold LentAt; rw [← HX.out]; exact H8.out.1, (((H5.out.2.2.2.mono (by decide)).trans (Turn.of_mod ((Mod.refl [] _).alloc _))).trans (H7.out.2.mono (by decide))).trans ((Turn.of_mod ((Mod.refl [] _).alloc _)).trans (H8.out.2.mono (by decide)))⟩
theorem rsteps_walk (w0 w : World) (lo p : Nat) (R : RoomV) (v : Value) (rs : List RStep) (h : RoomAt w lo p R [] [] [] [] [] []) (hm0 : Mod [] w0 w) (hl0 : w0.heap.size ≤ lo) (hs : Seen w0 v rs) (hn : ∀ x ∈ rs, x.1.op.writes.length ≤ 70000 ∧ x.1.keep.length ≤ 70000) (hl : rs.length ≤ 70000) (hlo : lo ≤ w.heap.size) :
    Calls Tryz.prog 18 #[.pointer (some ⟨p, 0, none⟩), v] w (LayStepsPost w lo p rs) := by
  have HC := Lib.hid (laySteps_walk w0 w lo p R v rs h hm0 hl0 hs hn hl hlo)
  obtain ⟨Av, cv, rfl, _⟩ := hs.1
  obtain ⟨n, hnn⟩ : ∃ n, n = rs.length := ⟨_, rfl⟩
  rw [← hnn] at HC ⊢
  clear h hm0 hl0 hs hn hl hlo hnn
  go_enter Tryz.func18, Tryz.ntmps18
  go_wp2_with fail
  refine HC.out.mono ?_
  rintro e w1 ⟨X, R2, g, c, rfl, h1, h2, h3⟩
  have H := Lib.hid (And.intro h1 (And.intro h2 h3))
  clear h1 h2 h3
  go_wp2
  go_ret
  exact ⟨X, R2, g, c, rfl, H.out.1, H.out.2.1, H.out.2.2⟩
end Go.Proofs.YtjieelmbgfnllaaGreatDoor

namespace Go.Proofs.YtjieelmbgfnllaaGreatDoor
open Go.RowKit Scr

def TwinPost (w : World) (s : StepS) (e : Ending) (w' : World) : Prop :=
  ∃ A n c B m d, e = .returned (.agg (rowOf (s, .slice A n c, .slice B m d)).toArray) ∧ WritesAt w' w.heap.size (.slice A n c) s.op.writes ∧ IntsAt w' w.heap.size (.slice B m d) s.keep ∧ Mod [] w w'
theorem seen_one {w : World} {lo : Nat} {e : TypeId} {size n : Nat} {v : Value} {xs : List Value} (_h : w.ownsRow lo e size v n xs) : v.oneCell' = true := own_one _h

set_option maxRecDepth 100000 in
set_option maxHeartbeats 4000000 in
theorem twin_walk (w : World) (s : StepS) (wv kv : Value) (h1 : SeenWrs w wv s.op.writes) (h2 : SeenInts w kv s.keep) (hw7 : s.op.writes.length ≤ 70000) (hk7 : s.keep.length ≤ 70000) :
    Calls Tryz.prog 20 #[.agg (rowOf (s, wv, kv)).toArray] w (TwinPost w s) := by
  have HS := Lib.hid (And.intro h1 (And.intro h2 (And.intro hw7 hk7)))
  obtain ⟨A1, c1, rfl, _⟩ := h1
  obtain ⟨A2, c2, rfl, _⟩ := h2
  obtain ⟨i0, hi, hz0, hz1, hz2⟩ := info_parts info_write
  obtain ⟨i2, ki, kz0, kz1, kz2⟩ := info_parts info_int
  have HI := Lib.hid (And.intro hi (And.intro hz0 (And.intro hz1 hz2)))
  have HK := Lib.hid (And.intro ki (And.intro kz0 (And.intro kz1 kz2)))
  clear hi hz0 hz1 hz2 ki kz0 kz1 kz2
  obtain ⟨nw, hnw⟩ : ∃ n, n = s.op.writes.length := ⟨_, rfl⟩
  obtain ⟨nk, hnk⟩ : ∃ n, n = s.keep.length := ⟨_, rfl⟩
  rw [← hnw] at hw7
  rw [← hnk] at hk7
  have HN := Lib.hid (And.intro hnw hnk)
  have HSS := Lib.hid (show SeenRow w (.slice A1 nw c1) nw (s.op.writes.flatMap encWr) ∧ SeenRow w (.slice A2 nk c2) nk (s.keep.map (Value.int .i64)) by rw [hnw, hnk]; exact ⟨HS.out.1, HS.out.2.1⟩)
  have HB := Lib.hid (show Mod [] w ((w.alloc (.cells #[.int .i64 s.kind, .int .i64 s.a, .int .i64 s.b, .int .i64 s.c, .int .i64 s.op.kind, .slice A1 nw c1, .bool s.op.sync, .string ⟨s.op.key.toArray⟩, .string ⟨s.op.til.toArray⟩, .int .i64 s.op.n, .int .i64 s.op.snap, .slice A2 nk c2] 69)).alloc (.cells zeroStep 69)) ∧ Blk ((w.alloc (.cells #[.int .i64 s.kind, .int .i64 s.a, .int .i64 s.b, .int .i64 s.c, .int .i64 s.op.kind, .slice A1 nw c1, .bool s.op.sync, .string ⟨s.op.key.toArray⟩, .string ⟨s.op.til.toArray⟩, .int .i64 s.op.n, .int .i64 s.op.snap, .slice A2 nk c2] 69)).alloc (.cells zeroStep 69)) w.heap.size 69 #[.int .i64 s.kind, .int .i64 s.a, .int .i64 s.b, .int .i64 s.c, .int .i64 s.op.kind, .slice A1 nw c1, .bool s.op.sync, .string ⟨s.op.key.toArray⟩, .string ⟨s.op.til.toArray⟩, .int .i64 s.op.n, .int .i64 s.op.snap, .slice A2 nk c2] ∧ Blk ((w.alloc (.cells #[.int .i64 s.kind, .int .i64 s.a, .int .i64 s.b, .int .i64 s.c, .int .i64 s.op.kind, .slice A1 nw c1, .bool s.op.sync, .string ⟨s.op.key.toArray⟩, .string ⟨s.op.til.toArray⟩, .int .i64 s.op.n, .int .i64 s.op.snap, .slice A2 nk c2] 69)).alloc (.cells zeroStep 69)) (w.heap.size + 1) 69 zeroStep from ⟨((Mod.refl [] w).alloc _).alloc _, (Blk.new _ _ _).alloc _, Blk.newAt _ _ _ (by simp)⟩)
  unfold zeroStep at HB
  unfold rowOf
  simp only [] at HB ⊢
  rw [← hnw, ← hnk]
  clear hnw hnk
  go_enter Tryz.func20, Tryz.ntmps20
  go_wp2_with (first | (at_builtin; first | (refine wpList_append_seen rfl _ _ 65 rfl w.heap.size 71 i0 (.agg #[.string ⟨#[]⟩, .bool false, .string ⟨#[]⟩]) 3 40 Tryz.underlying65 HI.out.1 HI.out.2.1 HI.out.2.2.1 HI.out.2.2.2 rfl (by decide) (.slice none 0 0) 0 [] rfl (World.ownsRow_nil _ _ _ _) (.slice A1 nw c1) nw (s.op.writes.flatMap encWr) rfl (HSS.out.1.new HB.out.1) (by rw [HN.out.1]; exact encs_len1 _) (encs_one1 _) (by unfold maxLen; omega) (by omega) (by simp <;> omega) ?_; intro A5 c5 nn w5 hnn hown hg hat; replace hnn := hnn.trans (Nat.zero_add nw); have e : nw = nn := hnn.symm; subst e; have hM5 := (Mod.refl [] _).grown hg (fun k hk => by cases hk); have hx5 := hM5.blk HB.out.2.1 (by simp); have hz5 := hM5.blk HB.out.2.2 (by simp); have HB5 := Lib.hid hx5; have q5 := hx5.cell 5; have q5f := hx5.frozen 5; have q11 := hx5.cell 11; simp at q5 q11; have hs5 := hM5.size; simp at hs5; have hb5 := hx5.set_ 5 (.slice A5 nw c5); simp at hb5; have H5 := Lib.hid (And.intro (HB.out.1.trans hM5) (And.intro hb5 (And.intro hz5 hown))); clear hown hg hat hnn hM5 hx5 hz5 hb5) | (refine wpList_append_seen rfl _ _ 36 rfl w.heap.size 3 i2 (.int .i64 0) 1 8 Tryz.underlying36 HK.out.1 HK.out.2.1 HK.out.2.2.1 HK.out.2.2.2 rfl (by decide) (.slice none 0 0) 0 [] rfl (World.ownsRow_nil _ _ _ _) (.slice A2 nk c2) nk (s.keep.map (Value.int .i64)) rfl (HSS.out.2.new (H5.out.1.setCell (.inr (by simp)) _)) (by rw [HN.out.2]; simp) (by intro u hu; obtain ⟨_, _, rfl⟩ := List.mem_map.1 hu; rfl) (by unfold maxLen; omega) (by omega) (by simp <;> omega) ?_; intro A6 c6 nn w6 hnn hown hg hat; replace hnn := hnn.trans (Nat.zero_add nk); have e : nk = nn := hnn.symm; subst e; have hM6 := (Mod.refl [] _).grown hg (fun k hk => by cases hk); have hx6 := hM6.blk H5.out.2.1 (by simp); have hz6 := hM6.blk (H5.out.2.2.1.far (p := ⟨w.heap.size, 5, none⟩) (by simp) (.slice A5 nw c5)) (by simp); have r0 := hx6.cell 0; have rf0 := hx6.frozen 0; have r1 := hx6.cell 1; have rf1 := hx6.frozen 1; have r2 := hx6.cell 2; have rf2 := hx6.frozen 2; have r3 := hx6.cell 3; have rf3 := hx6.frozen 3; have r4 := hx6.cell 4; have rf4 := hx6.frozen 4; have r5 := hx6.cell 5; have rf5 := hx6.frozen 5; have r6 := hx6.cell 6; have rf6 := hx6.frozen 6; have r7 := hx6.cell 7; have rf7 := hx6.frozen 7; have r8 := hx6.cell 8; have rf8 := hx6.frozen 8; have r9 := hx6.cell 9; have rf9 := hx6.frozen 9; have r10 := hx6.cell 10; have rf10 := hx6.frozen 10; have r11 := hx6.cell 11; have rf11 := hx6.frozen 11; simp at r0 r1 r2 r3 r4 r5 r6 r7 r8 r9 r10 r11; have HB6 := Lib.hid hx6; have hs6 := hM6.size; simp at hs6; have hb6 := hx6.set_ 11 (.slice A6 nk c6); simp at hb6; have H6 := Lib.hid (And.intro ((H5.out.1.setCell (p := ⟨w.heap.size, 5, none⟩) (.inr (by simp)) (.slice A5 nw c5)).trans hM6) (And.intro hb6 (And.intro (hz6.far (p := ⟨w.heap.size, 11, none⟩) (by simp) (.slice A6 nk c6)) (And.intro (owns_mod (owns_typed (S := [w.heap.size]) H5.out.2.2.2 ((Mod.refl _ _).setCell (by simp) _) (fun g hg => by simp at hg; subst hg; exact ⟨_, _, HB5.out, by decide⟩)) hM6 (by simp)) hown)))); clear hown hg hat hnn hM6 hz6 hb6 hx6 q5 q5f q11) ) | (refine wpList_store_step rfl _ _ rfl (w.heap.size + 1) #[.int .i64 s.kind, .int .i64 s.a, .int .i64 s.b, .int .i64 s.c, .int .i64 s.op.kind, .slice A5 nw c5, .bool s.op.sync, .string ⟨s.op.key.toArray⟩, .string ⟨s.op.til.toArray⟩, .int .i64 s.op.n, .int .i64 s.op.snap, .slice A6 nk c6] rfl rfl zeroStep H6.out.2.2.1 rfl rfl (row_all s A5 A6 _ _ _ _) ?_; intro W4 hs4 hB4 hM4; have H4 := Lib.hid (And.intro hB4 hM4); clear hs4 hB4 hM4))
  refine ret_cell Tryz.results20 rfl H4.out.1 Tryz.underlying69 rfl (by kernel_rfl) rfl ?_
  have keep : ∀ {e : TypeId} {size n : Nat} {v : Value} {xs : List Value}, e ≠ 69 → w6.ownsRow w.heap.size e size v n xs → W4.ownsRow w.heap.size e size v n xs := fun hne ho =>
    owns_typed (S := [w.heap.size + 1]) (owns_typed (S := [w.heap.size]) ho ((Mod.refl _ _).setCell (p := ⟨w.heap.size, 11, none⟩) (by simp) (.slice A6 nk c6)) (fun g hg => by simp at hg; subst hg; exact ⟨_, _, HB6.out, Ne.symm hne⟩)) H4.out.2 (fun g hg => by simp at hg; subst hg; exact ⟨_, _, H6.out.2.2.1, Ne.symm hne⟩)
  have hW := keep (by decide) H6.out.2.2.2.1
  have hK := keep (by decide) H6.out.2.2.2.2
  simp only [Nat.zero_add, List.nil_append] at hW hK
  exact ⟨A5, nw, c5, A6, nk, c6, rfl, by unfold WritesAt; rw [← HN.out.1]; exact hW, by unfold IntsAt; rw [← HN.out.2]; exact hK, (H6.out.1.setCell (.inr (by simp)) _).then H4.out.2 (fun i hi => by simp at hi; subst hi; exact .inr (by omega))⟩
end Go.Proofs.YtjieelmbgfnllaaGreatDoor

/- shown: a step's line. Conditions: the table of powers is laid; the step is nice. -/
import Derived.Test.YtjieelmbgfnllaaGreatDoorScScan
import Derived.Test.YtjieelmbgfnllaaGreatDoorScBatch
namespace Go.Proofs.YtjieelmbgfnllaaGreatDoor
open Go.RowKit Scr

theorem operated_walk (w : World) (o : OpS) (wv : Value) (client : ByteArray) (hn : OpNice o) (hc : client.size ≤ 100) (ht : tabIs w) (hw : SeenWrs w wv o.writes) :
    Calls Tryz.prog 148 #[.agg (opV o wv), .string client] w (Line w (operatedL o client.data.toList)) := by
  by_cases h1 : o.kind = 1
  · exact operated_write w o wv client hn h1 hc ht hw
  · by_cases h2 : o.kind = 2
    · exact operated_plain w o wv client 2 wSync (.inl ⟨rfl, rfl⟩) hn h2 hc ht
    · by_cases h3 : o.kind = 3
      · exact operated_get w o wv client hn h3 hc ht
      · by_cases h4 : o.kind = 4
        · exact operated_scan w o wv client hn h4 hc ht
        · by_cases h5 : o.kind = 5
          · exact operated_plain w o wv client 5 wSnap (.inr ⟨rfl, rfl⟩) hn h5 hc ht
          · by_cases h6 : o.kind = 6
            · exact operated_release w o wv client hn h6 hc ht
            · exact operated_none w o wv client hn h1 h2 h3 h4 h5 h6 ht
theorem nice_op {s : StepS} (h : Nice s) : OpNice s.op := ⟨h.1.1, h.1.2.1, h.1.2.2.1, h.1.2.2.2.2, h.2.2.2.2.1, h.2.2.2.2.2.1⟩
theorem sz_fall : (⟨#[102, 97, 108, 108]⟩ : ByteArray).size = 4 := rfl

section
variable (w : World) (s : StepS) (wv kv : Value)

set_option maxRecDepth 100000 in
set_option maxHeartbeats 4000000 in
theorem shown_do (hk : s.kind = 2) (hn : Nice s) (ht : tabIs w) :
    Calls Tryz.prog 81 #[.agg (stepCells s wv kv)] w (Line w (shownL s)) := by
  have HL := Lib.hid (show shownL s = wDo ++ numS s.a by unfold shownL; rw [hk]; rfl)
  have HT := Lib.hid ht
  have HN := Lib.hid hn
  obtain ⟨I, hI, hIs⟩ := as_str (Lib.itoa s.a) 20 (itoa_le _ hn.2.1)
  unfold stepCells opCells
  rw [hk]
  clear ht hn hk
  go_enter Tryz.func81, Tryz.ntmps81
  go_wp2_with fail
  refine (itoa_str I _ hI HN.out.2.1 _ (tab_new HT.out ((Mod.refl [] w).alloc _))).mono ?_
  rintro e w2 ⟨rfl, hm2⟩
  have hB2 := hm2.blk (Blk.new w 69 #[.int .i64 2, .int .i64 s.a, .int .i64 s.b, .int .i64 s.c, .int .i64 s.op.kind, wv, .bool s.op.sync, .string ⟨s.op.key.toArray⟩, .string ⟨s.op.til.toArray⟩, .int .i64 s.op.n, .int .i64 s.op.snap, kv]) (by simp)
  have hq0 := hB2.cell 0
  have hq1 := hB2.cell 1
  have hq2 := hB2.cell 2
  have hq3 := hB2.cell 3
  have hq4 := hB2.cell 4
  have hq5 := hB2.cell 5
  have hq6 := hB2.cell 6
  have hq7 := hB2.cell 7
  have hq8 := hB2.cell 8
  have hq9 := hB2.cell 9
  have hq10 := hB2.cell 10
  have hq11 := hB2.cell 11
  have hqf0 := hB2.frozen 0
  have hqf1 := hB2.frozen 1
  have hqf2 := hB2.frozen 2
  have hqf3 := hB2.frozen 3
  have hqf4 := hB2.frozen 4
  have hqf5 := hB2.frozen 5
  have hqf6 := hB2.frozen 6
  have hqf7 := hB2.frozen 7
  have hqf8 := hB2.frozen 8
  have hqf9 := hB2.frozen 9
  have hqf10 := hB2.frozen 10
  have hqf11 := hB2.frozen 11
  simp at hq0 hq1 hq2 hq3 hq4 hq5 hq6 hq7 hq8 hq9 hq10 hq11
  have H2 := Lib.hid (And.intro (((Mod.refl [] w).alloc (.cells #[.int .i64 2, .int .i64 s.a, .int .i64 s.b, .int .i64 s.c, .int .i64 s.op.kind, wv, .bool s.op.sync, .string ⟨s.op.key.toArray⟩, .string ⟨s.op.til.toArray⟩, .int .i64 s.op.n, .int .i64 s.op.snap, kv] 69)).trans hm2) hB2)
  clear hm2 hB2
  go_wp2
  go_ret
  exact Line.of _ rfl (by rw [HL.out]; simp only [app_str, hI]; rfl) H2.out.1

set_option maxRecDepth 100000 in
set_option maxHeartbeats 4000000 in
theorem shown_arm (hk : s.kind = 5) (hn : Nice s) (ht : tabIs w) :
    Calls Tryz.prog 81 #[.agg (stepCells s wv kv)] w (Line w (shownL s)) := by
  have HL := Lib.hid (show shownL s = wArm ++ numS s.a by unfold shownL; rw [hk]; rfl)
  have HT := Lib.hid ht
  have HN := Lib.hid hn
  obtain ⟨I, hI, hIs⟩ := as_str (Lib.itoa s.a) 20 (itoa_le _ hn.2.1)
  unfold stepCells opCells
  rw [hk]
  clear ht hn hk
  go_enter Tryz.func81, Tryz.ntmps81
  go_wp2_with fail
  refine (itoa_str I _ hI HN.out.2.1 _ (tab_new HT.out ((Mod.refl [] w).alloc _))).mono ?_
  rintro e w2 ⟨rfl, hm2⟩
  have hB2 := hm2.blk (Blk.new w 69 #[.int .i64 5, .int .i64 s.a, .int .i64 s.b, .int .i64 s.c, .int .i64 s.op.kind, wv, .bool s.op.sync, .string ⟨s.op.key.toArray⟩, .string ⟨s.op.til.toArray⟩, .int .i64 s.op.n, .int .i64 s.op.snap, kv]) (by simp)
  have hq0 := hB2.cell 0
  have hq1 := hB2.cell 1
  have hq2 := hB2.cell 2
  have hq3 := hB2.cell 3
  have hq4 := hB2.cell 4
  have hq5 := hB2.cell 5
  have hq6 := hB2.cell 6
  have hq7 := hB2.cell 7
  have hq8 := hB2.cell 8
  have hq9 := hB2.cell 9
  have hq10 := hB2.cell 10
  have hq11 := hB2.cell 11
  have hqf0 := hB2.frozen 0
  have hqf1 := hB2.frozen 1
  have hqf2 := hB2.frozen 2
  have hqf3 := hB2.frozen 3
  have hqf4 := hB2.frozen 4
  have hqf5 := hB2.frozen 5
  have hqf6 := hB2.frozen 6
  have hqf7 := hB2.frozen 7
  have hqf8 := hB2.frozen 8
  have hqf9 := hB2.frozen 9
  have hqf10 := hB2.frozen 10
  have hqf11 := hB2.frozen 11
  simp at hq0 hq1 hq2 hq3 hq4 hq5 hq6 hq7 hq8 hq9 hq10 hq11
  have H2 := Lib.hid (And.intro (((Mod.refl [] w).alloc (.cells #[.int .i64 5, .int .i64 s.a, .int .i64 s.b, .int .i64 s.c, .int .i64 s.op.kind, wv, .bool s.op.sync, .string ⟨s.op.key.toArray⟩, .string ⟨s.op.til.toArray⟩, .int .i64 s.op.n, .int .i64 s.op.snap, kv] 69)).trans hm2) hB2)
  clear hm2 hB2
  go_wp2
  go_ret
  exact Line.of _ rfl (by rw [HL.out]; simp only [app_str, hI]; rfl) H2.out.1

set_option maxRecDepth 100000 in
set_option maxHeartbeats 4000000 in
theorem shown_tick (hk : s.kind = 3) (hn : Nice s) (ht : tabIs w) :
    Calls Tryz.prog 81 #[.agg (stepCells s wv kv)] w (Line w (shownL s)) := by
  have HL := Lib.hid (show shownL s = wTick by unfold shownL; rw [hk]; rfl)
  have HT := Lib.hid ht
  have HN := Lib.hid hn
  obtain ⟨I, hI, hIs⟩ := as_str (Lib.itoa s.a) 20 (itoa_le _ hn.2.1)
  unfold stepCells opCells
  rw [hk]
  clear ht hn hk
  go_enter Tryz.func81, Tryz.ntmps81
  go_wp2_with fail
  refine (itoa_str I _ hI HN.out.2.1 _ (tab_new HT.out ((Mod.refl [] w).alloc _))).mono ?_
  rintro e w2 ⟨rfl, hm2⟩
  have hB2 := hm2.blk (Blk.new w 69 #[.int .i64 3, .int .i64 s.a, .int .i64 s.b, .int .i64 s.c, .int .i64 s.op.kind, wv, .bool s.op.sync, .string ⟨s.op.key.toArray⟩, .string ⟨s.op.til.toArray⟩, .int .i64 s.op.n, .int .i64 s.op.snap, kv]) (by simp)
  have hq0 := hB2.cell 0
  have hq1 := hB2.cell 1
  have hq2 := hB2.cell 2
  have hq3 := hB2.cell 3
  have hq4 := hB2.cell 4
  have hq5 := hB2.cell 5
  have hq6 := hB2.cell 6
  have hq7 := hB2.cell 7
  have hq8 := hB2.cell 8
  have hq9 := hB2.cell 9
  have hq10 := hB2.cell 10
  have hq11 := hB2.cell 11
  have hqf0 := hB2.frozen 0
  have hqf1 := hB2.frozen 1
  have hqf2 := hB2.frozen 2
  have hqf3 := hB2.frozen 3
  have hqf4 := hB2.frozen 4
  have hqf5 := hB2.frozen 5
  have hqf6 := hB2.frozen 6
  have hqf7 := hB2.frozen 7
  have hqf8 := hB2.frozen 8
  have hqf9 := hB2.frozen 9
  have hqf10 := hB2.frozen 10
  have hqf11 := hB2.frozen 11
  simp at hq0 hq1 hq2 hq3 hq4 hq5 hq6 hq7 hq8 hq9 hq10 hq11
  have H2 := Lib.hid (And.intro (((Mod.refl [] w).alloc (.cells #[.int .i64 3, .int .i64 s.a, .int .i64 s.b, .int .i64 s.c, .int .i64 s.op.kind, wv, .bool s.op.sync, .string ⟨s.op.key.toArray⟩, .string ⟨s.op.til.toArray⟩, .int .i64 s.op.n, .int .i64 s.op.snap, kv] 69)).trans hm2) hB2)
  clear hm2 hB2
  go_wp2
  go_ret
  exact Line.of _ rfl (by rw [HL.out]; rfl) H2.out.1

set_option maxRecDepth 100000 in
set_option maxHeartbeats 4000000 in
theorem shown_none (h1 : s.kind ≠ 1) (h2 : s.kind ≠ 2) (h3 : s.kind ≠ 3) (h4 : s.kind ≠ 4) (h5 : s.kind ≠ 5) (h6 : s.kind ≠ 6) (hn : Nice s) (ht : tabIs w) :
    Calls Tryz.prog 81 #[.agg (stepCells s wv kv)] w (Line w (shownL s)) := by
  have HL := Lib.hid (show shownL s = [] by unfold shownL; rw [if_neg h1, if_neg h2, if_neg h3, if_neg h4, if_neg h5, if_neg h6])
  have HT := Lib.hid ht
  have HN := Lib.hid hn
  obtain ⟨I, hI, hIs⟩ := as_str (Lib.itoa s.a) 20 (itoa_le _ hn.2.1)
  have k1 : (s.kind == 1) = false := by simpa using h1
  have k2 : (s.kind == 2) = false := by simpa using h2
  have k3 : (s.kind == 3) = false := by simpa using h3
  have k4 : (s.kind == 4) = false := by simpa using h4
  have k5 : (s.kind == 5) = false := by simpa using h5
  have k6 : (s.kind == 6) = false := by simpa using h6
  clear h1 h2 h3 h4 h5 h6
  unfold stepCells opCells
  clear ht hn
  go_enter Tryz.func81, Tryz.ntmps81
  go_wp2_with fail
  refine (itoa_str I _ hI HN.out.2.1 _ (tab_new HT.out ((Mod.refl [] w).alloc _))).mono ?_
  rintro e w2 ⟨rfl, hm2⟩
  have hB2 := hm2.blk (Blk.new w 69 #[.int .i64 s.kind, .int .i64 s.a, .int .i64 s.b, .int .i64 s.c, .int .i64 s.op.kind, wv, .bool s.op.sync, .string ⟨s.op.key.toArray⟩, .string ⟨s.op.til.toArray⟩, .int .i64 s.op.n, .int .i64 s.op.snap, kv]) (by simp)
  have hq0 := hB2.cell 0
  have hq1 := hB2.cell 1
  have hq2 := hB2.cell 2
  have hq3 := hB2.cell 3
  have hq4 := hB2.cell 4
  have hq5 := hB2.cell 5
  have hq6 := hB2.cell 6
  have hq7 := hB2.cell 7
  have hq8 := hB2.cell 8
  have hq9 := hB2.cell 9
  have hq10 := hB2.cell 10
  have hq11 := hB2.cell 11
  have hqf0 := hB2.frozen 0
  have hqf1 := hB2.frozen 1
  have hqf2 := hB2.frozen 2
  have hqf3 := hB2.frozen 3
  have hqf4 := hB2.frozen 4
  have hqf5 := hB2.frozen 5
  have hqf6 := hB2.frozen 6
  have hqf7 := hB2.frozen 7
  have hqf8 := hB2.frozen 8
  have hqf9 := hB2.frozen 9
  have hqf10 := hB2.frozen 10
  have hqf11 := hB2.frozen 11
  simp at hq0 hq1 hq2 hq3 hq4 hq5 hq6 hq7 hq8 hq9 hq10 hq11
  have H2 := Lib.hid (And.intro (((Mod.refl [] w).alloc (.cells #[.int .i64 s.kind, .int .i64 s.a, .int .i64 s.b, .int .i64 s.c, .int .i64 s.op.kind, wv, .bool s.op.sync, .string ⟨s.op.key.toArray⟩, .string ⟨s.op.til.toArray⟩, .int .i64 s.op.n, .int .i64 s.op.snap, kv] 69)).trans hm2) hB2)
  clear hm2 hB2
  go_wp2
  go_ret
  exact Line.of _ rfl (by rw [HL.out]) H2.out.1

set_option maxRecDepth 100000 in
set_option maxHeartbeats 4000000 in
theorem shown_fail (hk : s.kind = 6) (hn : Nice s) (ht : tabIs w) :
    Calls Tryz.prog 81 #[.agg (stepCells s wv kv)] w (Line w (shownL s)) := by
  have HL := Lib.hid (show shownL s = wFail ++ numS s.a ++ [32] ++ Lib.itoa s.b ++ [32] ++ Lib.itoa s.c by unfold shownL; rw [hk]; rfl)
  have HT := Lib.hid ht
  have HN := Lib.hid hn
  obtain ⟨I, hI, hIs⟩ := as_str (Lib.itoa s.a) 20 (itoa_le _ hn.2.1)
  obtain ⟨P, hP, hPs⟩ := as_str (Lib.itoa s.b) 20 (itoa_le _ hn.2.2.1)
  obtain ⟨R, hR, hRs⟩ := as_str (Lib.itoa s.c) 20 (itoa_le _ hn.2.2.2.1)
  unfold stepCells opCells
  rw [hk]
  clear ht hn hk
  go_enter Tryz.func81, Tryz.ntmps81
  go_wp2_with fail
  refine (itoa_str I _ hI HN.out.2.1 _ (tab_new HT.out ((Mod.refl [] w).alloc _))).mono ?_
  rintro e w2 ⟨rfl, hm2⟩
  have hB2 := hm2.blk (Blk.new w 69 #[.int .i64 6, .int .i64 s.a, .int .i64 s.b, .int .i64 s.c, .int .i64 s.op.kind, wv, .bool s.op.sync, .string ⟨s.op.key.toArray⟩, .string ⟨s.op.til.toArray⟩, .int .i64 s.op.n, .int .i64 s.op.snap, kv]) (by simp)
  have hq0 := hB2.cell 0
  have hq1 := hB2.cell 1
  have hq2 := hB2.cell 2
  have hq3 := hB2.cell 3
  have hq4 := hB2.cell 4
  have hq5 := hB2.cell 5
  have hq6 := hB2.cell 6
  have hq7 := hB2.cell 7
  have hq8 := hB2.cell 8
  have hq9 := hB2.cell 9
  have hq10 := hB2.cell 10
  have hq11 := hB2.cell 11
  have hqf0 := hB2.frozen 0
  have hqf1 := hB2.frozen 1
  have hqf2 := hB2.frozen 2
  have hqf3 := hB2.frozen 3
  have hqf4 := hB2.frozen 4
  have hqf5 := hB2.frozen 5
  have hqf6 := hB2.frozen 6
  have hqf7 := hB2.frozen 7
  have hqf8 := hB2.frozen 8
  have hqf9 := hB2.frozen 9
  have hqf10 := hB2.frozen 10
  have hqf11 := hB2.frozen 11
  simp at hq0 hq1 hq2 hq3 hq4 hq5 hq6 hq7 hq8 hq9 hq10 hq11
  have H2 := Lib.hid (And.intro (((Mod.refl [] w).alloc (.cells #[.int .i64 6, .int .i64 s.a, .int .i64 s.b, .int .i64 s.c, .int .i64 s.op.kind, wv, .bool s.op.sync, .string ⟨s.op.key.toArray⟩, .string ⟨s.op.til.toArray⟩, .int .i64 s.op.n, .int .i64 s.op.snap, kv] 69)).trans hm2) hB2)
  clear hm2 hB2
  go_wp2
  refine region_C (fun X => Mod [] w X ∧ Blk X w.heap.size 69 #[.int .i64 6, .int .i64 s.a, .int .i64 s.b, .int .i64 s.c, .int .i64 s.op.kind, wv, .bool s.op.sync, .string ⟨s.op.key.toArray⟩, .string ⟨s.op.til.toArray⟩, .int .i64 s.op.n, .int .i64 s.op.snap, kv]) (by kernel_rfl) (fun _ _ _ _ _ h => h) (fun hQp => ?_)
  have HC := And.intro H2.out.1.drew H2.out.2.drew
  simp only [List.length_cons, List.length_nil]
  refine anyC_take (i := 0) (v := ?_) (a' := ?_) HC rfl rfl (by kernel_rfl) (by kernel_rfl) (by kernel_rfl) hQp (by rfl) ?_ ?_ ?_
  rotate_left 2
  · intro X hX
    go_simp
    first | rfl | (rw [if_neg (by omega)])
  · simp [Act.put]
    rfl
  refine anyC_take (i := 1) (v := ?_) (a' := ?_) HC rfl rfl (by kernel_rfl) (by kernel_rfl) (by kernel_rfl) hQp (by rfl) ?_ ?_ ?_
  rotate_left 2
  · intro X hX
    go_simp
    first | rfl | (rw [if_neg (by omega)])
  · simp [Act.put]
    rfl
  refine anyC_take (i := 2) (v := ?_) (a' := ?_) HC rfl rfl (by kernel_rfl) (by kernel_rfl) (by kernel_rfl) hQp (by rfl) ?_ ?_ ?_
  rotate_left 2
  · intro X hX
    go_simp
    first | rfl | (rw [if_neg (by omega)])
  · simp [Act.put]
    rfl
  refine anyC_take (i := 3) (v := ?_) (a' := ?_) HC rfl rfl (by kernel_rfl) (by kernel_rfl) (by kernel_rfl) hQp (by rfl) ?_ ?_ ?_
  rotate_left 2
  · intro X hX
    go_simp
    first | rfl | (rw [if_neg (by omega)])
  · simp [Act.put]
    rfl
  refine anyC_take (i := 4) (v := ?_) (a' := ?_) HC rfl rfl (by kernel_rfl) (by kernel_rfl) (by kernel_rfl) hQp (by rfl) ?_ ?_ ?_
  rotate_left 2
  · intro X hX
    have hx0 := hX.2.cell 2
    simp at hx0
    go_simp
    first | rfl | (rw [if_neg (by omega)])
  · simp [Act.put]
    rfl
  refine anyC_take (i := 8) (v := ?_) (a' := ?_) HC rfl rfl (by kernel_rfl) (by kernel_rfl) (by kernel_rfl) hQp (by rfl) ?_ ?_ ?_
  rotate_left 2
  · intro X hX
    go_simp
    first | rfl | (rw [if_neg (by omega)])
  · simp [Act.put]
    rfl
  refine anyC_take (i := 9) (v := ?_) (a' := ?_) HC rfl rfl (by kernel_rfl) (by kernel_rfl) (by kernel_rfl) hQp (by rfl) ?_ ?_ ?_
  rotate_left 2
  · intro X hX
    have hx0 := hX.2.cell 3
    simp at hx0
    go_simp
    first | rfl | (rw [if_neg (by omega)])
  · simp [Act.put]
    rfl
  refine anyC_step (i := 5) (by kernel_rfl) rfl (by rfl) ?_
  unfold Oper.wp
  go_simp
  refine (itoa_str P _ hP HN.out.2.2.1 _ (tab_new HT.out HC.1)).mono ?_
  rintro e v5 ⟨rfl, hm5⟩
  replace HC : Mod [] w v5 ∧ Blk v5 w.heap.size 69 _ := ⟨HC.1.trans hm5, hm5.blk HC.2 (by simp)⟩
  clear hm5
  refine ⟨HC, ?_⟩
  refine anyC_take (i := 6) (v := ?_) (a' := ?_) HC rfl rfl (by kernel_rfl) (by kernel_rfl) (by kernel_rfl) hQp (by rfl) ?_ ?_ ?_
  rotate_left 2
  · intro X hX
    go_simp
    first | rfl | (rw [if_neg (by omega)])
  · simp [Act.put]
    rfl
  refine anyC_take (i := 7) (v := ?_) (a' := ?_) HC rfl rfl (by kernel_rfl) (by kernel_rfl) (by kernel_rfl) hQp (by rfl) ?_ ?_ ?_
  rotate_left 2
  · intro X hX
    go_simp
    first | rfl | (rw [if_neg (by omega)])
  · simp [Act.put]
    rfl
  refine anyC_step (i := 10) (by kernel_rfl) rfl (by rfl) ?_
  unfold Oper.wp
  go_simp
  refine (itoa_str R _ hR HN.out.2.2.2.1 _ (tab_new HT.out HC.1)).mono ?_
  rintro e v10 ⟨rfl, hm10⟩
  replace HC : Mod [] w v10 ∧ Blk v10 w.heap.size 69 _ := ⟨HC.1.trans hm10, hm10.blk HC.2 (by simp)⟩
  clear hm10
  refine ⟨HC, ?_⟩
  refine anyC_take (i := 11) (v := ?_) (a' := ?_) HC rfl rfl (by kernel_rfl) (by kernel_rfl) (by kernel_rfl) hQp (by rfl) ?_ ?_ ?_
  rotate_left 2
  · intro X hX
    go_simp
    first | rfl | (rw [if_neg (by omega)])
  · simp [Act.put]
    rfl
  refine anyC_take (i := 12) (v := ?_) (a' := ?_) HC rfl rfl (by kernel_rfl) (by kernel_rfl) (by kernel_rfl) hQp (by rfl) ?_ ?_ ?_
  rotate_left 2
  · intro X hX
    go_simp
    first | rfl | (rw [if_neg (by omega)])
  · simp [Act.put]
    rfl
  refine anyC_done (by kernel_rfl) ?_ _
  clear hQp
  have HM := Lib.hid HC.1
  clear HC
  go_wp2
  go_ret
  exact Line.of _ rfl (by rw [HL.out]; simp only [app_str, hI, hP, hR]; rfl) HM.out

set_option maxRecDepth 100000 in
set_option maxHeartbeats 4000000 in
theorem shown_op (hk : s.kind = 1) (hn : Nice s) (ht : tabIs w) (hw : SeenWrs w wv s.op.writes) :
    Calls Tryz.prog 81 #[.agg (stepCells s wv kv)] w (Line w (shownL s)) := by
  have HL := Lib.hid (show shownL s = operatedL s.op (numS s.a) by unfold shownL; rw [hk]; rfl)
  have HT := Lib.hid ht
  have HN := Lib.hid hn
  obtain ⟨I, hI, hIs⟩ := as_str (Lib.itoa s.a) 20 (itoa_le _ hn.2.1)
  have HW := Lib.hid hw
  clear hw
  unfold stepCells opCells
  rw [hk]
  clear ht hn hk
  go_enter Tryz.func81, Tryz.ntmps81
  go_wp2_with fail
  refine (itoa_str I _ hI HN.out.2.1 _ (tab_new HT.out ((Mod.refl [] w).alloc _))).mono ?_
  rintro e w2 ⟨rfl, hm2⟩
  have hB2 := hm2.blk (Blk.new w 69 #[.int .i64 1, .int .i64 s.a, .int .i64 s.b, .int .i64 s.c, .int .i64 s.op.kind, wv, .bool s.op.sync, .string ⟨s.op.key.toArray⟩, .string ⟨s.op.til.toArray⟩, .int .i64 s.op.n, .int .i64 s.op.snap, kv]) (by simp)
  have hq0 := hB2.cell 0
  have hq1 := hB2.cell 1
  have hq2 := hB2.cell 2
  have hq3 := hB2.cell 3
  have hq4 := hB2.cell 4
  have hq5 := hB2.cell 5
  have hq6 := hB2.cell 6
  have hq7 := hB2.cell 7
  have hq8 := hB2.cell 8
  have hq9 := hB2.cell 9
  have hq10 := hB2.cell 10
  have hq11 := hB2.cell 11
  have hqf0 := hB2.frozen 0
  have hqf1 := hB2.frozen 1
  have hqf2 := hB2.frozen 2
  have hqf3 := hB2.frozen 3
  have hqf4 := hB2.frozen 4
  have hqf5 := hB2.frozen 5
  have hqf6 := hB2.frozen 6
  have hqf7 := hB2.frozen 7
  have hqf8 := hB2.frozen 8
  have hqf9 := hB2.frozen 9
  have hqf10 := hB2.frozen 10
  have hqf11 := hB2.frozen 11
  simp at hq0 hq1 hq2 hq3 hq4 hq5 hq6 hq7 hq8 hq9 hq10 hq11
  have H2 := Lib.hid (And.intro (((Mod.refl [] w).alloc (.cells #[.int .i64 1, .int .i64 s.a, .int .i64 s.b, .int .i64 s.c, .int .i64 s.op.kind, wv, .bool s.op.sync, .string ⟨s.op.key.toArray⟩, .string ⟨s.op.til.toArray⟩, .int .i64 s.op.n, .int .i64 s.op.snap, kv] 69)).trans hm2) hB2)
  clear hm2 hB2
  have hrange : w2.rangeAt w.heap.size 4 [.int .i64 s.op.kind, wv, .bool s.op.sync, .string ⟨s.op.key.toArray⟩, .string ⟨s.op.til.toArray⟩, .int .i64 s.op.n, .int .i64 s.op.snap] := by
    intro i u hu
    match i, hu with
    | 0, hu => simp at hu; subst hu; exact hq4
    | 1, hu => simp at hu; subst hu; exact hq5
    | 2, hu => simp at hu; subst hu; exact hq6
    | 3, hu => simp at hu; subst hu; exact hq7
    | 4, hu => simp at hu; subst hu; exact hq8
    | 5, hu => simp at hu; subst hu; exact hq9
    | 6, hu => simp at hu; subst hu; exact hq10
  have HR := Lib.hid hrange
  clear hrange
  go_wp2_with (refine wpList_load_mid rfl 67 _ rfl w.heap.size 4 rfl _ _ HR.out Tryz.underlying67 rfl (by kernel_rfl) ?_)
  go_wp2_with fail
  refine (operated_walk w2 s.op wv _ (nice_op HN.out) (by simp [sz_sp]; omega) (tab_new HT.out H2.out.1) (HW.out.new H2.out.1)).mono ?_
  rintro e w3 ⟨rfl, hm3⟩
  have H3 := Lib.hid (H2.out.1.trans hm3)
  clear hm3
  go_wp2
  go_ret
  exact ⟨by rw [HL.out]; rfl, H3.out⟩

set_option maxRecDepth 100000 in
set_option maxHeartbeats 4000000 in
theorem shown_fall (hk : s.kind = 4) (hn : Nice s) (ht : tabIs w) (hi : SeenInts w kv s.keep) :
    Calls Tryz.prog 81 #[.agg (stepCells s wv kv)] w (Line w (shownL s)) := by
  have HL := Lib.hid (show shownL s = wFall ++ numS s.a ++ s.keep.flatMap numS by unfold shownL; rw [hk]; rfl)
  have HT := Lib.hid ht
  have HN := Lib.hid hn
  obtain ⟨I, hI, hIs⟩ := as_str (Lib.itoa s.a) 20 (itoa_le _ hn.2.1)
  obtain ⟨A, c, rfl, hcell⟩ := id hi
  obtain ⟨n, hnl⟩ : ∃ n, n = s.keep.length := ⟨_, rfl⟩
  simp only [← hnl]
  have hn7 : n ≤ 70000 := by rw [hnl]; exact hn.1.2.2.2.1
  have HW := Lib.hid (show n = s.keep.length ∧ ∀ j x, s.keep[j]? = some x → ∃ b off, A = some ⟨b, off, none⟩ ∧ w.cell? ⟨b, off + j, none⟩ = some (.int .i64 x) from ⟨hnl, fun j x hx => by
    obtain ⟨b, off, c', he, h0⟩ := hi.at_ hx
    cases he
    exact ⟨b, off, rfl, h0⟩⟩)
  clear hi hcell hnl
  unfold stepCells opCells
  rw [hk]
  clear ht hn hk
  go_enter Tryz.func81, Tryz.ntmps81
  go_wp2_with fail
  refine (itoa_str I _ hI HN.out.2.1 _ (tab_new HT.out ((Mod.refl [] w).alloc _))).mono ?_
  rintro e w2 ⟨rfl, hm2⟩
  have hB2 := hm2.blk (Blk.new w 69 #[.int .i64 4, .int .i64 s.a, .int .i64 s.b, .int .i64 s.c, .int .i64 s.op.kind, wv, .bool s.op.sync, .string ⟨s.op.key.toArray⟩, .string ⟨s.op.til.toArray⟩, .int .i64 s.op.n, .int .i64 s.op.snap, .slice A n c]) (by simp)
  have hq0 := hB2.cell 0
  have hq1 := hB2.cell 1
  have hq2 := hB2.cell 2
  have hq3 := hB2.cell 3
  have hq4 := hB2.cell 4
  have hq5 := hB2.cell 5
  have hq6 := hB2.cell 6
  have hq7 := hB2.cell 7
  have hq8 := hB2.cell 8
  have hq9 := hB2.cell 9
  have hq10 := hB2.cell 10
  have hq11 := hB2.cell 11
  have hqf0 := hB2.frozen 0
  have hqf1 := hB2.frozen 1
  have hqf2 := hB2.frozen 2
  have hqf3 := hB2.frozen 3
  have hqf4 := hB2.frozen 4
  have hqf5 := hB2.frozen 5
  have hqf6 := hB2.frozen 6
  have hqf7 := hB2.frozen 7
  have hqf8 := hB2.frozen 8
  have hqf9 := hB2.frozen 9
  have hqf10 := hB2.frozen 10
  have hqf11 := hB2.frozen 11
  simp at hq0 hq1 hq2 hq3 hq4 hq5 hq6 hq7 hq8 hq9 hq10 hq11
  have H2 := Lib.hid (And.intro (((Mod.refl [] w).alloc (.cells #[.int .i64 4, .int .i64 s.a, .int .i64 s.b, .int .i64 s.c, .int .i64 s.op.kind, wv, .bool s.op.sync, .string ⟨s.op.key.toArray⟩, .string ⟨s.op.til.toArray⟩, .int .i64 s.op.n, .int .i64 s.op.snap, .slice A n c] 69)).trans hm2) hB2)
  clear hm2 hB2
  go_wp2
  go_loopw [4, 32] (fun s4 s32 wr => ∃ (j : Nat) (D : ByteArray), s32 = .int .i64 j ∧ s4 = .string D ∧ j ≤ n ∧ D.data.toList = wFall ++ numS s.a ++ (s.keep.take j).flatMap numS ∧ D.size ≤ 200 + j * 100 ∧ Mod [] w wr ∧ Blk wr w.heap.size 69 #[.int .i64 4, .int .i64 s.a, .int .i64 s.b, .int .i64 s.c, .int .i64 s.op.kind, wv, .bool s.op.sync, .string ⟨s.op.key.toArray⟩, .string ⟨s.op.til.toArray⟩, .int .i64 s.op.n, .int .i64 s.op.snap, .slice A n c]) (fun _ s32 _ => n - (RowKit.intOf s32).toNat)
  case atStart => exact ⟨0, _, by go_num, rfl, Nat.zero_le _, by simp only [app_str, hI]; simp; rfl, by simp [sz_fall, sz_sp]; omega, H2.out.1, H2.out.2⟩
  case round =>
    obtain ⟨j, D, rfl, rfl, hj, hD, hDs, hm, hB⟩ := hrel
    have H := Lib.hid (And.intro hD (And.intro hm hB))
    clear hD hm hB
    by_cases hjl : j < n
    · obtain ⟨x, hx⟩ : ∃ x, s.keep[j]? = some x := ⟨_, List.getElem?_eq_getElem (by rw [← HW.out.1]; exact hjl)⟩
      have hxb := HN.out.2.2.2.2.2.2 x (List.mem_of_getElem? hx)
      obtain ⟨b, off, hA, hc0⟩ := HW.out.2 j x hx
      subst hA
      obtain ⟨U, hU, hUs⟩ := as_str (Lib.itoa x) 20 (itoa_le _ hxb)
      have hcx := H.out.2.1.cell hc0 (by simp)
      have HX := Lib.hid hx
      clear hx hc0
      have hjn : (j : Int) < (n : Int) := by omega
      go_wp2_with fail
      refine (itoa_str U _ hU hxb _ (tab_new HT.out H.out.2.1)).mono ?_
      rintro e w3 ⟨rfl, hm3⟩
      have H3 := Lib.hid hm3
      clear hm3
      go_wp2
      go_roundw
      case rel => exact ⟨j + 1, _, by go_num, rfl, by omega, by rw [take_snoc _ _ _ HX.out, List.flatMap_append]; simp only [app_str, H.out.1, hU, List.flatMap_cons, List.flatMap_nil, List.append_assoc, List.append_nil]; rfl, by simp [sz_sp]; omega, H.out.2.1.trans H3.out, H3.out.blk H.out.2.2 (by simp)⟩
      case measure => simp [RowKit.intOf]; omega
    · have hall : s.keep.take j = s.keep := List.take_of_length_le (by rw [← HW.out.1]; omega)
      have HD := Lib.hid H.out.1
      rw [hall] at HD
      clear hall
      go_wp2
      go_ret
      exact Line.of _ rfl (by rw [HL.out, HD.out]) H.out.2.1
theorem shown_walk (hn : Nice s) (ht : tabIs w) (hw : SeenWrs w wv s.op.writes) (hi : SeenInts w kv s.keep) :
    Calls Tryz.prog 81 #[.agg (stepCells s wv kv)] w (Line w (shownL s)) := by
  by_cases h1 : s.kind = 1
  · exact shown_op w s wv kv h1 hn ht hw
  · by_cases h2 : s.kind = 2
    · exact shown_do w s wv kv h2 hn ht
    · by_cases h3 : s.kind = 3
      · exact shown_tick w s wv kv h3 hn ht
      · by_cases h4 : s.kind = 4
        · exact shown_fall w s wv kv h4 hn ht hi
        · by_cases h5 : s.kind = 5
          · exact shown_arm w s wv kv h5 hn ht
          · by_cases h6 : s.kind = 6
            · exact shown_fail w s wv kv h6 hn ht
            · exact shown_none w s wv kv h1 h2 h3 h4 h5 h6 hn ht
end
end Go.Proofs.YtjieelmbgfnllaaGreatDoor

/- operated at a scan. Conditions: the table of powers is laid; the operation is within bounds. -/
import Derived.Test.YtjieelmbgfnllaaGreatDoorScShown
namespace Go.Proofs.YtjieelmbgfnllaaGreatDoor
open Go.RowKit Scr

section
variable (w : World) (o : OpS) (wv : Value) (client : ByteArray)
set_option maxRecDepth 100000 in
set_option maxHeartbeats 4000000 in
theorem operated_scan (hn : OpNice o) (hk : o.kind = 4) (hc : client.size ≤ 100) (ht : tabIs w) :
    Calls Tryz.prog 148 #[.agg (opV o wv), .string client] w (Line w (operatedL o client.data.toList)) := by
  have HL := Lib.hid (show operatedL o client.data.toList = wScan ++ client.data.toList ++ [32] ++ quotingL o.key ++ [32] ++ quotingL o.til ++ [32] ++ Lib.itoa o.n ++ snapS o.snap by unfold operatedL; rw [hk]; rfl)
  have HT := Lib.hid ht
  have HN := Lib.hid hn
  obtain ⟨I, hI, hIs⟩ := as_str (Lib.itoa o.snap) 20 (itoa_le _ hn.2.2.2.2.2)
  obtain ⟨J, hJ, hJs⟩ := as_str (Lib.itoa o.n) 20 (itoa_le _ hn.2.2.2.2.1)
  obtain ⟨U, hU, hUs⟩ := as_str (quotingL o.key) 280002 (quoting_le2 _ hn.1)
  obtain ⟨T, hT, hTs⟩ := as_str (quotingL o.til) 280002 (quoting_le2 _ hn.2.1)
  unfold opV
  rw [hk]
  clear ht hn hk
  by_cases hs : o.snap = 0
  · have hs0 : (o.snap != 0) = false := by simp [hs]
    have HS := Lib.hid (show snapS o.snap = [] by unfold snapS; rw [if_pos hs])
    clear hs
    go_enter Tryz.func148, Tryz.ntmps148
    go_wp2
    have HC := And.intro ((Mod.refl [] w).alloc (.cells #[.int .i64 4, wv, .bool o.sync, .string ⟨o.key.toArray⟩, .string ⟨o.til.toArray⟩, .int .i64 o.n, .int .i64 o.snap] 67)) (Blk.new w 67 #[.int .i64 4, wv, .bool o.sync, .string ⟨o.key.toArray⟩, .string ⟨o.til.toArray⟩, .int .i64 o.n, .int .i64 o.snap])
    refine region_C (fun X => Mod [] w X ∧ Blk X w.heap.size 67 #[.int .i64 4, wv, .bool o.sync, .string ⟨o.key.toArray⟩, .string ⟨o.til.toArray⟩, .int .i64 o.n, .int .i64 o.snap]) (by kernel_rfl) (fun _ _ _ _ _ h => h) (fun hQp => ?_)
    replace HC := And.intro HC.1.drew HC.2.drew
    simp only [List.length_cons, List.length_nil]
    refine anyC_take (i := 0) (v := ?_) (a' := ?_) HC rfl rfl (by kernel_rfl) (by kernel_rfl) (by kernel_rfl) hQp (by rfl) ?_ ?_ ?_
    rotate_left 2
    · intro X hX
      go_simp
      first | rfl | (rw [if_neg (by omega)])
    · simp [Act.put]
      rfl
    refine anyC_take (i := 1) (v := ?_) (a' := ?_) HC rfl rfl (by kernel_rfl) (by kernel_rfl) (by kernel_rfl) hQp (by rfl) ?_ ?_ ?_
    rotate_left 2
    · intro X hX
      go_simp
      first | rfl | (rw [if_neg (by omega)])
    · simp [Act.put]
      rfl
    refine anyC_take (i := 2) (v := ?_) (a' := ?_) HC rfl rfl (by kernel_rfl) (by kernel_rfl) (by kernel_rfl) hQp (by rfl) ?_ ?_ ?_
    rotate_left 2
    · intro X hX
      go_simp
      first | rfl | (rw [if_neg (by omega)])
    · simp [Act.put]
      rfl
    refine anyC_take (i := 3) (v := ?_) (a' := ?_) HC rfl rfl (by kernel_rfl) (by kernel_rfl) (by kernel_rfl) hQp (by rfl) ?_ ?_ ?_
    rotate_left 2
    · intro X hX
      go_simp
      first | rfl | (rw [if_neg (by omega)])
    · simp [Act.put]
      rfl
    refine anyC_take (i := 4) (v := ?_) (a' := ?_) HC rfl rfl (by kernel_rfl) (by kernel_rfl) (by kernel_rfl) hQp (by rfl) ?_ ?_ ?_
    rotate_left 2
    · intro X hX
      have hx0 := hX.2.cell 3
      simp at hx0
      go_simp
      first | rfl | (rw [if_neg (by omega)])
    · simp [Act.put]
      rfl
    refine anyC_take (i := 8) (v := ?_) (a' := ?_) HC rfl rfl (by kernel_rfl) (by kernel_rfl) (by kernel_rfl) hQp (by rfl) ?_ ?_ ?_
    rotate_left 2
    · intro X hX
      go_simp
      first | rfl | (rw [if_neg (by omega)])
    · simp [Act.put]
      rfl
    refine anyC_take (i := 9) (v := ?_) (a' := ?_) HC rfl rfl (by kernel_rfl) (by kernel_rfl) (by kernel_rfl) hQp (by rfl) ?_ ?_ ?_
    rotate_left 2
    · intro X hX
      have hx0 := hX.2.cell 4
      simp at hx0
      go_simp
      first | rfl | (rw [if_neg (by omega)])
    · simp [Act.put]
      rfl
    refine anyC_take (i := 13) (v := ?_) (a' := ?_) HC rfl rfl (by kernel_rfl) (by kernel_rfl) (by kernel_rfl) hQp (by rfl) ?_ ?_ ?_
    rotate_left 2
    · intro X hX
      go_simp
      first | rfl | (rw [if_neg (by omega)])
    · simp [Act.put]
      rfl
    refine anyC_take (i := 14) (v := ?_) (a' := ?_) HC rfl rfl (by kernel_rfl) (by kernel_rfl) (by kernel_rfl) hQp (by rfl) ?_ ?_ ?_
    rotate_left 2
    · intro X hX
      have hx0 := hX.2.cell 5
      simp at hx0
      go_simp
      first | rfl | (rw [if_neg (by omega)])
    · simp [Act.put]
      rfl
    refine anyC_take (i := 17) (v := ?_) (a' := ?_) HC rfl rfl (by kernel_rfl) (by kernel_rfl) (by kernel_rfl) hQp (by rfl) ?_ ?_ ?_
    rotate_left 2
    · intro X hX
      go_simp
      first | rfl | (rw [if_neg (by omega)])
    · simp [Act.put]
      rfl
    refine anyC_step (i := 5) (by kernel_rfl) rfl (by rfl) ?_
    unfold Oper.wp
    go_simp
    refine (quoting_str U _ hU HN.out.1 _).mono ?_
    rintro e w5 ⟨rfl, hm5⟩
    replace HC : Mod [] w w5 ∧ Blk w5 w.heap.size 67 _ := ⟨HC.1.trans hm5, hm5.blk HC.2 (by simp)⟩
    clear hm5
    refine ⟨HC, ?_⟩
    refine anyC_take (i := 6) (v := ?_) (a' := ?_) HC rfl rfl (by kernel_rfl) (by kernel_rfl) (by kernel_rfl) hQp (by rfl) ?_ ?_ ?_
    rotate_left 2
    · intro X hX
      go_simp
      first | rfl | (rw [if_neg (by omega)])
    · simp [Act.put]
      rfl
    refine anyC_take (i := 7) (v := ?_) (a' := ?_) HC rfl rfl (by kernel_rfl) (by kernel_rfl) (by kernel_rfl) hQp (by rfl) ?_ ?_ ?_
    rotate_left 2
    · intro X hX
      go_simp
      first | rfl | (rw [if_neg (by omega)])
    · simp [Act.put]
      rfl
    refine anyC_step (i := 10) (by kernel_rfl) rfl (by rfl) ?_
    unfold Oper.wp
    go_simp
    refine (quoting_str T _ hT HN.out.2.1 _).mono ?_
    rintro e w10 ⟨rfl, hm10⟩
    replace HC : Mod [] w w10 ∧ Blk w10 w.heap.size 67 _ := ⟨HC.1.trans hm10, hm10.blk HC.2 (by simp)⟩
    clear hm10
    refine ⟨HC, ?_⟩
    refine anyC_take (i := 11) (v := ?_) (a' := ?_) HC rfl rfl (by kernel_rfl) (by kernel_rfl) (by kernel_rfl) hQp (by rfl) ?_ ?_ ?_
    rotate_left 2
    · intro X hX
      go_simp
      first | rfl | (rw [if_neg (by omega)])
    · simp [Act.put]
      rfl
    refine anyC_take (i := 12) (v := ?_) (a' := ?_) HC rfl rfl (by kernel_rfl) (by kernel_rfl) (by kernel_rfl) hQp (by rfl) ?_ ?_ ?_
    rotate_left 2
    · intro X hX
      go_simp
      first | rfl | (rw [if_neg (by omega)])
    · simp [Act.put]
      rfl
    refine anyC_step (i := 15) (by kernel_rfl) rfl (by rfl) ?_
    unfold Oper.wp
    go_simp
    refine (itoa_str J _ hJ HN.out.2.2.2.2.1 _ (tab_new HT.out HC.1)).mono ?_
    rintro e w15 ⟨rfl, hm15⟩
    replace HC : Mod [] w w15 ∧ Blk w15 w.heap.size 67 _ := ⟨HC.1.trans hm15, hm15.blk HC.2 (by simp)⟩
    clear hm15
    refine ⟨HC, ?_⟩
    refine anyC_take (i := 16) (v := ?_) (a' := ?_) HC rfl rfl (by kernel_rfl) (by kernel_rfl) (by kernel_rfl) hQp (by rfl) ?_ ?_ ?_
    rotate_left 2
    · intro X hX
      go_simp
      first | rfl | (rw [if_neg (by omega)])
    · simp [Act.put]
      rfl
    refine anyC_take (i := 18) (v := ?_) (a' := ?_) HC rfl rfl (by kernel_rfl) (by kernel_rfl) (by kernel_rfl) hQp (by rfl) ?_ ?_ ?_
    rotate_left 2
    · intro X hX
      go_simp
      first | rfl | (rw [if_neg (by omega)])
    · simp [Act.put]
      rfl
    refine anyC_take (i := 19) (v := ?_) (a' := ?_) HC rfl rfl (by kernel_rfl) (by kernel_rfl) (by kernel_rfl) hQp (by rfl) ?_ ?_ ?_
    rotate_left 2
    · intro X hX
      go_simp
      first | rfl | (rw [if_neg (by omega)])
    · simp [Act.put]
      rfl
    refine anyC_done (by kernel_rfl) ?_ _
    clear hQp
    have HM := Lib.hid HC.1
    clear HC
    go_wp2
    go_ret
    exact Line.of _ rfl (by rw [HL.out, HS.out]; simp only [app_str, hU, hT, hJ]; rfl) HM.out
  · have hs0 : (o.snap != 0) = true := by simp [hs]
    have HS := Lib.hid (show snapS o.snap = [32, 115, 110, 97, 112, 32] ++ Lib.itoa o.snap by unfold snapS; rw [if_neg hs])
    clear hs
    go_enter Tryz.func148, Tryz.ntmps148
    go_wp2_with fail
    refine (itoa_str I _ hI HN.out.2.2.2.2.2 _ (tab_new HT.out ((Mod.refl [] w).alloc _))).mono ?_
    rintro e w2 ⟨rfl, hm2⟩
    have hB2 := hm2.blk (Blk.new w _ _) (by simp)
    have hq0 := hB2.cell 0
    have hq1 := hB2.cell 1
    have hq2 := hB2.cell 2
    have hq3 := hB2.cell 3
    have hq4 := hB2.cell 4
    have hq5 := hB2.cell 5
    have hq6 := hB2.cell 6
    have hqf0 := hB2.frozen 0
    have hqf1 := hB2.frozen 1
    have hqf2 := hB2.frozen 2
    have hqf3 := hB2.frozen 3
    have hqf4 := hB2.frozen 4
    have hqf5 := hB2.frozen 5
    have hqf6 := hB2.frozen 6
    simp at hq0 hq1 hq2 hq3 hq4 hq5 hq6
    have H2 := Lib.hid (And.intro (((Mod.refl [] w).alloc _).trans hm2) hB2)
    clear hm2 hB2
    go_wp2
    have HC := H2.out
    refine region_C (fun X => Mod [] w X ∧ Blk X w.heap.size 67 #[.int .i64 4, wv, .bool o.sync, .string ⟨o.key.toArray⟩, .string ⟨o.til.toArray⟩, .int .i64 o.n, .int .i64 o.snap]) (by kernel_rfl) (fun _ _ _ _ _ h => h) (fun hQp => ?_)
    replace HC := And.intro HC.1.drew HC.2.drew
    simp only [List.length_cons, List.length_nil]
    refine anyC_take (i := 0) (v := ?_) (a' := ?_) HC rfl rfl (by kernel_rfl) (by kernel_rfl) (by kernel_rfl) hQp (by rfl) ?_ ?_ ?_
    rotate_left 2
    · intro X hX
      go_simp
      first | rfl | (rw [if_neg (by omega)])
    · simp [Act.put]
      rfl
    refine anyC_take (i := 1) (v := ?_) (a' := ?_) HC rfl rfl (by kernel_rfl) (by kernel_rfl) (by kernel_rfl) hQp (by rfl) ?_ ?_ ?_
    rotate_left 2
    · intro X hX
      go_simp
      first | rfl | (rw [if_neg (by omega)])
    · simp [Act.put]
      rfl
    refine anyC_take (i := 2) (v := ?_) (a' := ?_) HC rfl rfl (by kernel_rfl) (by kernel_rfl) (by kernel_rfl) hQp (by rfl) ?_ ?_ ?_
    rotate_left 2
    · intro X hX
      go_simp
      first | rfl | (rw [if_neg (by omega)])
    · simp [Act.put]
      rfl
    refine anyC_take (i := 3) (v := ?_) (a' := ?_) HC rfl rfl (by kernel_rfl) (by kernel_rfl) (by kernel_rfl) hQp (by rfl) ?_ ?_ ?_
    rotate_left 2
    · intro X hX
      go_simp
      first | rfl | (rw [if_neg (by omega)])
    · simp [Act.put]
      rfl
    refine anyC_take (i := 4) (v := ?_) (a' := ?_) HC rfl rfl (by kernel_rfl) (by kernel_rfl) (by kernel_rfl) hQp (by rfl) ?_ ?_ ?_
    rotate_left 2
    · intro X hX
      have hx0 := hX.2.cell 3
      simp at hx0
      go_simp
      first | rfl | (rw [if_neg (by omega)])
    · simp [Act.put]
      rfl
    refine anyC_take (i := 8) (v := ?_) (a' := ?_) HC rfl rfl (by kernel_rfl) (by kernel_rfl) (by kernel_rfl) hQp (by rfl) ?_ ?_ ?_
    rotate_left 2
    · intro X hX
      go_simp
      first | rfl | (rw [if_neg (by omega)])
    · simp [Act.put]
      rfl
    refine anyC_take (i := 9) (v := ?_) (a' := ?_) HC rfl rfl (by kernel_rfl) (by kernel_rfl) (by kernel_rfl) hQp (by rfl) ?_ ?_ ?_
    rotate_left 2
    · intro X hX
      have hx0 := hX.2.cell 4
      simp at hx0
      go_simp
      first | rfl | (rw [if_neg (by omega)])
    · simp [Act.put]
      rfl
    refine anyC_take (i := 13) (v := ?_) (a' := ?_) HC rfl rfl (by kernel_rfl) (by kernel_rfl) (by kernel_rfl) hQp (by rfl) ?_ ?_ ?_
    rotate_left 2
    · intro X hX
      go_simp
      first | rfl | (rw [if_neg (by omega)])
    · simp [Act.put]
      rfl
    refine anyC_take (i := 14) (v := ?_) (a' := ?_) HC rfl rfl (by kernel_rfl) (by kernel_rfl) (by kernel_rfl) hQp (by rfl) ?_ ?_ ?_
    rotate_left 2
    · intro X hX
      have hx0 := hX.2.cell 5
      simp at hx0
      go_simp
      first | rfl | (rw [if_neg (by omega)])
    · simp [Act.put]
      rfl
    refine anyC_take (i := 17) (v := ?_) (a' := ?_) HC rfl rfl (by kernel_rfl) (by kernel_rfl) (by kernel_rfl) hQp (by rfl) ?_ ?_ ?_
    rotate_left 2
    · intro X hX
      go_simp
      first | rfl | (rw [if_neg (by omega)])
    · simp [Act.put]
      rfl
    refine anyC_step (i := 5) (by kernel_rfl) rfl (by rfl) ?_
    unfold Oper.wp
    go_simp
    refine (quoting_str U _ hU HN.out.1 _).mono ?_
    rintro e w5 ⟨rfl, hm5⟩
    replace HC : Mod [] w w5 ∧ Blk w5 w.heap.size 67 _ := ⟨HC.1.trans hm5, hm5.blk HC.2 (by simp)⟩
    clear hm5
    refine ⟨HC, ?_⟩
    refine anyC_take (i := 6) (v := ?_) (a' := ?_) HC rfl rfl (by kernel_rfl) (by kernel_rfl) (by kernel_rfl) hQp (by rfl) ?_ ?_ ?_
    rotate_left 2
    · intro X hX
      go_simp
      first | rfl | (rw [if_neg (by omega)])
    · simp [Act.put]
      rfl
    refine anyC_take (i := 7) (v := ?_) (a' := ?_) HC rfl rfl (by kernel_rfl) (by kernel_rfl) (by kernel_rfl) hQp (by rfl) ?_ ?_ ?_
    rotate_left 2
    · intro X hX
      go_simp
      first | rfl | (rw [if_neg (by omega)])
    · simp [Act.put]
      rfl
    refine anyC_step (i := 10) (by kernel_rfl) rfl (by rfl) ?_
    unfold Oper.wp
    go_simp
    refine (quoting_str T _ hT HN.out.2.1 _).mono ?_
    rintro e w10 ⟨rfl, hm10⟩
    replace HC : Mod [] w w10 ∧ Blk w10 w.heap.size 67 _ := ⟨HC.1.trans hm10, hm10.blk HC.2 (by simp)⟩
    clear hm10
    refine ⟨HC, ?_⟩
    refine anyC_take (i := 11) (v := ?_) (a' := ?_) HC rfl rfl (by kernel_rfl) (by kernel_rfl) (by kernel_rfl) hQp (by rfl) ?_ ?_ ?_
    rotate_left 2
    · intro X hX
      go_simp
      first | rfl | (rw [if_neg (by omega)])
    · simp [Act.put]
      rfl
    refine anyC_take (i := 12) (v := ?_) (a' := ?_) HC rfl rfl (by kernel_rfl) (by kernel_rfl) (by kernel_rfl) hQp (by rfl) ?_ ?_ ?_
    rotate_left 2
    · intro X hX
      go_simp
      first | rfl | (rw [if_neg (by omega)])
    · simp [Act.put]
      rfl
    refine anyC_step (i := 15) (by kernel_rfl) rfl (by rfl) ?_
    unfold Oper.wp
    go_simp
    refine (itoa_str J _ hJ HN.out.2.2.2.2.1 _ (tab_new HT.out HC.1)).mono ?_
    rintro e w15 ⟨rfl, hm15⟩
    replace HC : Mod [] w w15 ∧ Blk w15 w.heap.size 67 _ := ⟨HC.1.trans hm15, hm15.blk HC.2 (by simp)⟩
    clear hm15
    refine ⟨HC, ?_⟩
    refine anyC_take (i := 16) (v := ?_) (a' := ?_) HC rfl rfl (by kernel_rfl) (by kernel_rfl) (by kernel_rfl) hQp (by rfl) ?_ ?_ ?_
    rotate_left 2
    · intro X hX
      go_simp
      first | rfl | (rw [if_neg (by omega)])
    · simp [Act.put]
      rfl
    refine anyC_take (i := 18) (v := ?_) (a' := ?_) HC rfl rfl (by kernel_rfl) (by kernel_rfl) (by kernel_rfl) hQp (by rfl) ?_ ?_ ?_
    rotate_left 2
    · intro X hX
      go_simp
      first | rfl | (rw [if_neg (by omega)])
    · simp [Act.put]
      rfl
    refine anyC_take (i := 19) (v := ?_) (a' := ?_) HC rfl rfl (by kernel_rfl) (by kernel_rfl) (by kernel_rfl) hQp (by rfl) ?_ ?_ ?_
    rotate_left 2
    · intro X hX
      go_simp
      first | rfl | (rw [if_neg (by omega)])
    · simp [Act.put]
      rfl
    refine anyC_done (by kernel_rfl) ?_ _
    clear hQp
    have HM := Lib.hid HC.1
    clear HC
    go_wp2
    go_ret
    exact Line.of _ rfl (by rw [HL.out, HS.out]; simp only [app_str, hU, hT, hJ, hI]; rfl) HM.out
end
end Go.Proofs.YtjieelmbgfnllaaGreatDoor

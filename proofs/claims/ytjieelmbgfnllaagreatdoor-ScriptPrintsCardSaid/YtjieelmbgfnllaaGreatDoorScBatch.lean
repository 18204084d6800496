/- operated at a batch. Conditions: the table of powers is laid; the operation is within bounds. -/
import Derived.Test.YtjieelmbgfnllaaGreatDoorScShown

namespace Go.Proofs.YtjieelmbgfnllaaGreatDoor
open Go.RowKit Scr

theorem take_snoc {α : Type} : ∀ (l : List α) (i : Nat) (x : α), l[i]? = some x → l.take (i + 1) = l.take i ++ [x]
  | [], i, x, h => by simp at h
  | y :: t, 0, x, h => by simp at h; subst h; simp
  | y :: t, i + 1, x, h => by rw [List.take_succ_cons, take_snoc t i x (by simpa using h)]; simp

theorem sz_write : (⟨#[119, 114, 105, 116, 101]⟩ : ByteArray).size = 5 := rfl
theorem sz_del : (⟨#[32, 100, 101, 108, 32]⟩ : ByteArray).size = 5 := rfl
theorem sz_put : (⟨#[32, 112, 117, 116, 32]⟩ : ByteArray).size = 5 := rfl
theorem sz_sp : (⟨#[32]⟩ : ByteArray).size = 1 := rfl
section
variable (w : World) (o : OpS) (wv : Value) (client : ByteArray)
set_option maxRecDepth 100000 in
set_option maxHeartbeats 8000000 in
theorem operated_write (hn : OpNice o) (hk : o.kind = 1) (hc : client.size ≤ 100) (ht : tabIs w) (hw : SeenWrs w wv o.writes) :
    Calls Tryz.prog 148 #[.agg (opV o wv), .string client] w (Line w (operatedL o client.data.toList)) := by
  have HL := Lib.hid (show operatedL o client.data.toList = wWrite ++ client.data.toList ++ o.writes.flatMap wrS ++ (if o.sync then [32, 115, 121, 110, 99] else []) by unfold operatedL; rw [hk]; rfl)
  have HT := Lib.hid ht
  have HN := Lib.hid hn
  obtain ⟨I, hI, hIs⟩ := as_str (Lib.itoa o.snap) 20 (itoa_le _ hn.2.2.2.2.2)
  obtain ⟨A, c, rfl, hcell⟩ := id hw
  obtain ⟨n, hnl⟩ : ∃ n, n = o.writes.length := ⟨_, rfl⟩
  rw [← hnl]
  have hn7 : n ≤ 70000 := by rw [hnl]; exact hn.2.2.1
  have HW := Lib.hid (show n = o.writes.length ∧ ∀ j x, o.writes[j]? = some x → ∃ b off, A = some ⟨b, off, none⟩ ∧ w.cell? ⟨b, off + j * 3, none⟩ = some (.string ⟨x.key.toArray⟩) ∧ w.cell? ⟨b, off + (j * 3 + 1), none⟩ = some (.bool x.del) ∧ w.cell? ⟨b, off + (j * 3 + 2), none⟩ = some (.string ⟨x.val.toArray⟩) from ⟨hnl, fun j x hx => by
    obtain ⟨b, off, c', he, h0, h1, h2⟩ := hw.at_ hx
    cases he
    exact ⟨b, off, rfl, h0, h1, h2⟩⟩)
  unfold opV
  rw [hk]
  clear ht hn hk hw hcell hnl
  by_cases hs : o.snap = 0
  · have hs0 : (o.snap != 0) = false := by simp [hs]
    clear hs
    have HS0 := Lib.hid (And.intro ((Mod.refl [] w).alloc (.cells #[.int .i64 1, .slice A n c, .bool o.sync, .string ⟨o.key.toArray⟩, .string ⟨o.til.toArray⟩, .int .i64 o.n, .int .i64 o.snap] 67)) (Blk.new w 67 #[.int .i64 1, .slice A n c, .bool o.sync, .string ⟨o.key.toArray⟩, .string ⟨o.til.toArray⟩, .int .i64 o.n, .int .i64 o.snap]))
    go_enter Tryz.func148, Tryz.ntmps148
    go_wp2
    go_loopw [6, 25] (fun s6 s25 wr => ∃ (j : Nat) (D : ByteArray), s25 = .int .i64 j ∧ s6 = .string D ∧ j ≤ n ∧ D.data.toList = wWrite ++ client.data.toList ++ (o.writes.take j).flatMap wrS ∧ D.size ≤ 200 + j * 600000 ∧ Mod [] w wr ∧ Blk wr w.heap.size 67 #[.int .i64 1, .slice A n c, .bool o.sync, .string ⟨o.key.toArray⟩, .string ⟨o.til.toArray⟩, .int .i64 o.n, .int .i64 o.snap]) (fun _ s25 _ => n - (RowKit.intOf s25).toNat)
    case atStart => exact ⟨0, _, by go_num, rfl, Nat.zero_le _, by rw [app_str]; simp; rfl, by simp [sz_write]; omega, HS0.out.1, HS0.out.2⟩
    case round =>
      obtain ⟨j, D, rfl, rfl, hj, hD, hDs, hm, hB⟩ := hrel
      have H := Lib.hid (And.intro hD (And.intro hm hB))
      have hbl := hB.lt
      have HBc := hB.cell 2
      simp at HBc
      clear hD hm hB
      by_cases hjl : j < n
      · obtain ⟨x, hx⟩ : ∃ x, o.writes[j]? = some x := ⟨_, List.getElem?_eq_getElem (by rw [← HW.out.1]; exact hjl)⟩
        have hxb := HN.out.2.2.2.1 x (List.mem_of_getElem? hx)
        obtain ⟨b, off, hA, hc0, hc1, hc2⟩ := HW.out.2 j x hx
        subst hA
        obtain ⟨U, hU, hUs⟩ := as_str (quotingL x.key) 280002 (quoting_le2 _ hxb.1)
        obtain ⟨T, hT, hTs⟩ := as_str (quotingL x.val) 280002 (quoting_le2 _ hxb.2)
        have hrange : wr.rangeAt b (off + j * 3) [.string ⟨x.key.toArray⟩, .bool x.del, .string ⟨x.val.toArray⟩] := by
          intro i u hu
          match i, hu with
          | 0, hu => simp at hu; subst hu; exact H.out.2.1.cell hc0 (by simp)
          | 1, hu => simp at hu; subst hu; rw [Nat.add_assoc]; exact H.out.2.1.cell hc1 (by simp)
          | 2, hu => simp at hu; subst hu; rw [Nat.add_assoc]; exact H.out.2.1.cell hc2 (by simp)
        have HR := Lib.hid (And.intro hx hrange)
        clear hx hrange hc0 hc1 hc2
        have hjn : (j : Int) < (n : Int) := by omega
        have hB8 : j * 600000 ≤ 42000000000 := by have := HN.out.2.2.1; have := HW.out.1; omega
        by_cases hd : x.del = true
        · have HWR := Lib.hid (show wrS x = [32, 100, 101, 108, 32] ++ quotingL x.key by unfold wrS; rw [if_pos hd])
          rw [hd] at HR
          clear hd
          go_wp2_with (refine wpList_load_mid rfl 71 _ rfl b (off + j * 3) rfl _ _ HR.out.2 Tryz.underlying71 rfl (by kernel_rfl) ?_)
          go_wp2_with fail
          refine (quoting_str U _ hU hxb.1 _).mono ?_
          rintro e w3 ⟨rfl, hm3⟩
          have H3 := Lib.hid (((Mod.refl [] wr).alloc _).trans hm3)
          clear hm3
          go_wp2
          go_roundw
          case rel => exact ⟨j + 1, _, by go_num, rfl, by omega, by rw [take_snoc _ _ _ HR.out.1, List.flatMap_append]; simp only [app_str, H.out.1, hU, List.flatMap_cons, List.flatMap_nil, HWR.out, List.append_assoc, List.append_nil]; try rfl, by simp [sz_del]; omega, H.out.2.1.trans H3.out, H3.out.blk H.out.2.2 (by simp)⟩
          case measure => simp [RowKit.intOf]; omega
        · have hd' : x.del = false := by simpa using hd
          have HWR := Lib.hid (show wrS x = [32, 112, 117, 116, 32] ++ quotingL x.key ++ [32] ++ quotingL x.val by unfold wrS; rw [if_neg hd])
          rw [hd'] at HR
          clear hd hd'
          go_wp2_with (refine wpList_load_mid rfl 71 _ rfl b (off + j * 3) rfl _ _ HR.out.2 Tryz.underlying71 rfl (by kernel_rfl) ?_)
          have HC : Mod [] w (wr.alloc (.cells #[.string ⟨x.key.toArray⟩, .bool false, .string ⟨x.val.toArray⟩] 71)) ∧ Blk (wr.alloc (.cells #[.string ⟨x.key.toArray⟩, .bool false, .string ⟨x.val.toArray⟩] 71)) w.heap.size 67 _ ∧ Blk (wr.alloc (.cells #[.string ⟨x.key.toArray⟩, .bool false, .string ⟨x.val.toArray⟩] 71)) wr.heap.size 71 #[.string ⟨x.key.toArray⟩, .bool false, .string ⟨x.val.toArray⟩] := ⟨H.out.2.1.alloc _, H.out.2.2.alloc _, Blk.new _ _ _⟩
          refine region_C (fun X => Mod [] w X ∧ Blk X w.heap.size 67 #[.int .i64 1, .slice (some ⟨b, off, none⟩) n c, .bool o.sync, .string ⟨o.key.toArray⟩, .string ⟨o.til.toArray⟩, .int .i64 o.n, .int .i64 o.snap] ∧ Blk X wr.heap.size 71 #[.string ⟨x.key.toArray⟩, .bool false, .string ⟨x.val.toArray⟩]) (by kernel_rfl) (fun _ _ _ _ _ h => h) (fun hQp => ?_)
          replace HC := And.intro HC.1.drew (And.intro HC.2.1.drew HC.2.2.drew)
          simp only [List.length_cons, List.length_nil]
          refine anyC_take (i := 0) (v := ?_) (a' := ?_) HC rfl rfl (by kernel_rfl) (by kernel_rfl) (by kernel_rfl) hQp (by rfl) ?_ ?_ ?_
          rotate_left 2
          · intro X hX
            go_simp
            first | rfl | (rw [if_neg (by omega)])
          · simp [Act.put]
            rfl
          refine anyC_take (i := 1) (v := ?_) (a' := ?_) HC rfl rfl (by kernel_rfl) (by kernel_rfl) (by kernel_rfl) hQp (by rfl) ?_ ?_ ?_
          rotate_left 2
          · intro X hX
            go_simp
            first | rfl | (rw [if_neg (by omega)])
          · simp [Act.put]
            rfl
          refine anyC_take (i := 2) (v := ?_) (a' := ?_) HC rfl rfl (by kernel_rfl) (by kernel_rfl) (by kernel_rfl) hQp (by rfl) ?_ ?_ ?_
          rotate_left 2
          · intro X hX
            have hx0 := hX.2.2.cell 0
            simp at hx0
            go_simp
            first | rfl | (rw [if_neg (by omega)])
          · simp [Act.put]
            rfl
          refine anyC_take (i := 6) (v := ?_) (a' := ?_) HC rfl rfl (by kernel_rfl) (by kernel_rfl) (by kernel_rfl) hQp (by rfl) ?_ ?_ ?_
          rotate_left 2
          · intro X hX
            go_simp
            first | rfl | (rw [if_neg (by omega)])
          · simp [Act.put]
            rfl
          refine anyC_take (i := 7) (v := ?_) (a' := ?_) HC rfl rfl (by kernel_rfl) (by kernel_rfl) (by kernel_rfl) hQp (by rfl) ?_ ?_ ?_
          rotate_left 2
          · intro X hX
            have hx0 := hX.2.2.cell 2
            simp at hx0
            go_simp
            first | rfl | (rw [if_neg (by omega)])
          · simp [Act.put]
            rfl
          refine anyC_step (i := 3) (by kernel_rfl) rfl (by rfl) ?_
          unfold Oper.wp
          go_simp
          refine (quoting_str U _ hU hxb.1 _).mono ?_
          rintro e w3 ⟨rfl, hm3⟩
          replace HC : Mod [] w w3 ∧ Blk w3 w.heap.size 67 _ ∧ Blk w3 wr.heap.size 71 _ := ⟨HC.1.trans hm3, hm3.blk HC.2.1 (by simp), hm3.blk HC.2.2 (by simp)⟩
          clear hm3
          refine ⟨HC, ?_⟩
          refine anyC_take (i := 4) (v := ?_) (a' := ?_) HC rfl rfl (by kernel_rfl) (by kernel_rfl) (by kernel_rfl) hQp (by rfl) ?_ ?_ ?_
          rotate_left 2
          · intro X hX
            go_simp
            first | rfl | (rw [if_neg (by omega)])
          · simp [Act.put]
            rfl
          refine anyC_take (i := 5) (v := ?_) (a' := ?_) HC rfl rfl (by kernel_rfl) (by kernel_rfl) (by kernel_rfl) hQp (by rfl) ?_ ?_ ?_
          rotate_left 2
          · intro X hX
            go_simp
            first | rfl | (rw [if_neg (by omega)])
          · simp [Act.put]
            rfl
          refine anyC_step (i := 8) (by kernel_rfl) rfl (by rfl) ?_
          unfold Oper.wp
          go_simp
          refine (quoting_str T _ hT hxb.2 _).mono ?_
          rintro e w8 ⟨rfl, hm8⟩
          replace HC : Mod [] w w8 ∧ Blk w8 w.heap.size 67 _ ∧ Blk w8 wr.heap.size 71 _ := ⟨HC.1.trans hm8, hm8.blk HC.2.1 (by simp), hm8.blk HC.2.2 (by simp)⟩
          clear hm8
          refine ⟨HC, ?_⟩
          refine anyC_take (i := 9) (v := ?_) (a' := ?_) HC rfl rfl (by kernel_rfl) (by kernel_rfl) (by kernel_rfl) hQp (by rfl) ?_ ?_ ?_
          rotate_left 2
          · intro X hX
            go_simp
            first | rfl | (rw [if_neg (by omega)])
          · simp [Act.put]
            rfl
          refine anyC_take (i := 10) (v := ?_) (a' := ?_) HC rfl rfl (by kernel_rfl) (by kernel_rfl) (by kernel_rfl) hQp (by rfl) ?_ ?_ ?_
          rotate_left 2
          · intro X hX
            go_simp
            first | rfl | (rw [if_neg (by omega)])
          · simp [Act.put]
            rfl
          refine anyC_take (i := 11) (v := ?_) (a' := ?_) HC rfl rfl (by kernel_rfl) (by kernel_rfl) (by kernel_rfl) hQp (by rfl) ?_ ?_ ?_
          rotate_left 2
          · intro X hX
            go_simp
            first | rfl | (rw [if_neg (by omega)])
          · simp [Act.put]
            rfl
          refine anyC_done (by kernel_rfl) ?_ _
          clear hQp
          have HM := Lib.hid HC
          clear HC
          go_wp2
          go_roundw
          case rel => exact ⟨j + 1, _, by go_num, rfl, by omega, by rw [take_snoc _ _ _ HR.out.1, List.flatMap_append]; simp only [app_str, H.out.1, hU, hT, List.flatMap_cons, List.flatMap_nil, HWR.out, List.append_assoc, List.append_nil]; try rfl, by simp [sz_put, sz_sp]; omega, HM.out.1, HM.out.2.1⟩
          case measure => simp [RowKit.intOf]; omega
      · have hjn : j = n := by omega
        have hall : o.writes.take j = o.writes := List.take_of_length_le (by rw [← HW.out.1]; omega)
        have hB8 : j * 600000 ≤ 42000000000 := by have := HN.out.2.2.1; have := HW.out.1; omega
        have HD := Lib.hid H.out.1
        rw [hall] at HD
        clear hall
        by_cases hsy : o.sync = true
        · have HL2 := HL
          rw [hsy] at HL2 HBc
          clear hsy
          go_wp2
          go_ret
          exact Line.of _ rfl (by rw [HL2.out, app_str, HD.out]; rfl) H.out.2.1
        · have hsy' : o.sync = false := by simpa using hsy
          have HL2 := HL
          rw [hsy'] at HL2 HBc
          clear hsy hsy'
          go_wp2
          go_ret
          exact Line.of _ rfl (by rw [HL2.out, HD.out]; simp) H.out.2.1
  · have hs0 : (o.snap != 0) = true := by simp [hs]
    clear hs
    go_enter Tryz.func148, Tryz.ntmps148
    go_wp2_with fail
    refine (itoa_str I _ hI HN.out.2.2.2.2.2 _ (tab_new HT.out ((Mod.refl [] w).alloc _))).mono ?_
    rintro e w2 ⟨rfl, hm2⟩
    have hB2 := hm2.blk (Blk.new w _ _) (by simp)
    have hq0 := hB2.cell 0
    have hq1 := hB2.cell 1
    have hq2 := hB2.cell 2
    have hq3 := hB2.cell 3
    have hq4 := hB2.cell 4
    have hq5 := hB2.cell 5
    have hq6 := hB2.cell 6
    have hqf0 := hB2.frozen 0
    have hqf1 := hB2.frozen 1
    have hqf2 := hB2.frozen 2
    have hqf3 := hB2.frozen 3
    have hqf4 := hB2.frozen 4
    have hqf5 := hB2.frozen 5
    have hqf6 := hB2.frozen 6
    simp at hq0 hq1 hq2 hq3 hq4 hq5 hq6
    have HS0 := Lib.hid (And.intro (((Mod.refl [] w).alloc _).trans hm2) hB2)
    clear hm2 hB2
    go_wp2
    go_loopw [6, 25] (fun s6 s25 wr => ∃ (j : Nat) (D : ByteArray), s25 = .int .i64 j ∧ s6 = .string D ∧ j ≤ n ∧ D.data.toList = wWrite ++ client.data.toList ++ (o.writes.take j).flatMap wrS ∧ D.size ≤ 200 + j * 600000 ∧ Mod [] w wr ∧ Blk wr w.heap.size 67 #[.int .i64 1, .slice A n c, .bool o.sync, .string ⟨o.key.toArray⟩, .string ⟨o.til.toArray⟩, .int .i64 o.n, .int .i64 o.snap]) (fun _ s25 _ => n - (RowKit.intOf s25).toNat)
    case atStart => exact ⟨0, _, by go_num, rfl, Nat.zero_le _, by rw [app_str]; simp; rfl, by simp [sz_write]; omega, HS0.out.1, HS0.out.2⟩
    case round =>
      obtain ⟨j, D, rfl, rfl, hj, hD, hDs, hm, hB⟩ := hrel
      have H := Lib.hid (And.intro hD (And.intro hm hB))
      have hbl := hB.lt
      have HBc := hB.cell 2
      simp at HBc
      clear hD hm hB
      by_cases hjl : j < n
      · obtain ⟨x, hx⟩ : ∃ x, o.writes[j]? = some x := ⟨_, List.getElem?_eq_getElem (by rw [← HW.out.1]; exact hjl)⟩
        have hxb := HN.out.2.2.2.1 x (List.mem_of_getElem? hx)
        obtain ⟨b, off, hA, hc0, hc1, hc2⟩ := HW.out.2 j x hx
        subst hA
        obtain ⟨U, hU, hUs⟩ := as_str (quotingL x.key) 280002 (quoting_le2 _ hxb.1)
        obtain ⟨T, hT, hTs⟩ := as_str (quotingL x.val) 280002 (quoting_le2 _ hxb.2)
        have hrange : wr.rangeAt b (off + j * 3) [.string ⟨x.key.toArray⟩, .bool x.del, .string ⟨x.val.toArray⟩] := by
          intro i u hu
          match i, hu with
          | 0, hu => simp at hu; subst hu; exact H.out.2.1.cell hc0 (by simp)
          | 1, hu => simp at hu; subst hu; rw [Nat.add_assoc]; exact H.out.2.1.cell hc1 (by simp)
          | 2, hu => simp at hu; subst hu; rw [Nat.add_assoc]; exact H.out.2.1.cell hc2 (by simp)
        have HR := Lib.hid (And.intro hx hrange)
        clear hx hrange hc0 hc1 hc2
        have hjn : (j : Int) < (n : Int) := by omega
        have hB8 : j * 600000 ≤ 42000000000 := by have := HN.out.2.2.1; have := HW.out.1; omega
        by_cases hd : x.del = true
        · have HWR := Lib.hid (show wrS x = [32, 100, 101, 108, 32] ++ quotingL x.key by unfold wrS; rw [if_pos hd])
          rw [hd] at HR
          clear hd
          go_wp2_with (refine wpList_load_mid rfl 71 _ rfl b (off + j * 3) rfl _ _ HR.out.2 Tryz.underlying71 rfl (by kernel_rfl) ?_)
          go_wp2_with fail
          refine (quoting_str U _ hU hxb.1 _).mono ?_
          rintro e w3 ⟨rfl, hm3⟩
          have H3 := Lib.hid (((Mod.refl [] wr).alloc _).trans hm3)
          clear hm3
          go_wp2
          go_roundw
          case rel => exact ⟨j + 1, _, by go_num, rfl, by omega, by rw [take_snoc _ _ _ HR.out.1, List.flatMap_append]; simp only [app_str, H.out.1, hU, List.flatMap_cons, List.flatMap_nil, HWR.out, List.append_assoc, List.append_nil]; try rfl, by simp [sz_del]; omega, H.out.2.1.trans H3.out, H3.out.blk H.out.2.2 (by simp)⟩
          case measure => simp [RowKit.intOf]; omega
        · have hd' : x.del = false := by simpa using hd
          have HWR := Lib.hid (show wrS x = [32, 112, 117, 116, 32] ++ quotingL x.key ++ [32] ++ quotingL x.val by unfold wrS; rw [if_neg hd])
          rw [hd'] at HR
          clear hd hd'
          go_wp2_with (refine wpList_load_mid rfl 71 _ rfl b (off + j * 3) rfl _ _ HR.out.2 Tryz.underlying71 rfl (by kernel_rfl) ?_)
          have HC : Mod [] w (wr.alloc (.cells #[.string ⟨x.key.toArray⟩, .bool false, .string ⟨x.val.toArray⟩] 71)) ∧ Blk (wr.alloc (.cells #[.string ⟨x.key.toArray⟩, .bool false, .string ⟨x.val.toArray⟩] 71)) w.heap.size 67 _ ∧ Blk (wr.alloc (.cells #[.string ⟨x.key.toArray⟩, .bool false, .string ⟨x.val.toArray⟩] 71)) wr.heap.size 71 #[.string ⟨x.key.toArray⟩, .bool false, .string ⟨x.val.toArray⟩] := ⟨H.out.2.1.alloc _, H.out.2.2.alloc _, Blk.new _ _ _⟩
          refine region_C (fun X => Mod [] w X ∧ Blk X w.heap.size 67 #[.int .i64 1, .slice (some ⟨b, off, none⟩) n c, .bool o.sync, .string ⟨o.key.toArray⟩, .string ⟨o.til.toArray⟩, .int .i64 o.n, .int .i64 o.snap] ∧ Blk X wr.heap.size 71 #[.string ⟨x.key.toArray⟩, .bool false, .string ⟨x.val.toArray⟩]) (by kernel_rfl) (fun _ _ _ _ _ h => h) (fun hQp => ?_)
          replace HC := And.intro HC.1.drew (And.intro HC.2.1.drew HC.2.2.drew)
          simp only [List.length_cons, List.length_nil]
          refine anyC_take (i := 0) (v := ?_) (a' := ?_) HC rfl rfl (by kernel_rfl) (by kernel_rfl) (by kernel_rfl) hQp (by rfl) ?_ ?_ ?_
          rotate_left 2
          · intro X hX
            go_simp
            first | rfl | (rw [if_neg (by omega)])
          · simp [Act.put]
            rfl
          refine anyC_take (i := 1) (v := ?_) (a' := ?_) HC rfl rfl (by kernel_rfl) (by kernel_rfl) (by kernel_rfl) hQp (by rfl) ?_ ?_ ?_
          rotate_left 2
          · intro X hX
            go_simp
            first | rfl | (rw [if_neg (by omega)])
          · simp [Act.put]
            rfl
          refine anyC_take (i := 2) (v := ?_) (a' := ?_) HC rfl rfl (by kernel_rfl) (by kernel_rfl) (by kernel_rfl) hQp (by rfl) ?_ ?_ ?_
          rotate_left 2
          · intro X hX
            have hx0 := hX.2.2.cell 0
            simp at hx0
            go_simp
            first | rfl | (rw [if_neg (by omega)])
          · simp [Act.put]
            rfl
          refine anyC_take (i := 6) (v := ?_) (a' := ?_) HC rfl rfl (by kernel_rfl) (by kernel_rfl) (by kernel_rfl) hQp (by rfl) ?_ ?_ ?_
          rotate_left 2
          · intro X hX
            go_simp
            first | rfl | (rw [if_neg (by omega)])
          · simp [Act.put]
            rfl
          refine anyC_take (i := 7) (v := ?_) (a' := ?_) HC rfl rfl (by kernel_rfl) (by kernel_rfl) (by kernel_rfl) hQp (by rfl) ?_ ?_ ?_
          rotate_left 2
          · intro X hX
            have hx0 := hX.2.2.cell 2
            simp at hx0
            go_simp
            first | rfl | (rw [if_neg (by omega)])
          · simp [Act.put]
            rfl
          refine anyC_step (i := 3) (by kernel_rfl) rfl (by rfl) ?_
          unfold Oper.wp
          go_simp
          refine (quoting_str U _ hU hxb.1 _).mono ?_
          rintro e w3 ⟨rfl, hm3⟩
          replace HC : Mod [] w w3 ∧ Blk w3 w.heap.size 67 _ ∧ Blk w3 wr.heap.size 71 _ := ⟨HC.1.trans hm3, hm3.blk HC.2.1 (by simp), hm3.blk HC.2.2 (by simp)⟩
          clear hm3
          refine ⟨HC, ?_⟩
          refine anyC_take (i := 4) (v := ?_) (a' := ?_) HC rfl rfl (by kernel_rfl) (by kernel_rfl) (by kernel_rfl) hQp (by rfl) ?_ ?_ ?_
          rotate_left 2
          · intro X hX
            go_simp
            first | rfl | (rw [if_neg (by omega)])
          · simp [Act.put]
            rfl
          refine anyC_take (i := 5) (v := ?_) (a' := ?_) HC rfl rfl (by kernel_rfl) (by kernel_rfl) (by kernel_rfl) hQp (by rfl) ?_ ?_ ?_
          rotate_left 2
          · intro X hX
            go_simp
            first | rfl | (rw [if_neg (by omega)])
          · simp [Act.put]
            rfl
          refine anyC_step (i := 8) (by kernel_rfl) rfl (by rfl) ?_
          unfold Oper.wp
          go_simp
          refine (quoting_str T _ hT hxb.2 _).mono ?_
          rintro e w8 ⟨rfl, hm8⟩
          replace HC : Mod [] w w8 ∧ Blk w8 w.heap.size 67 _ ∧ Blk w8 wr.heap.size 71 _ := ⟨HC.1.trans hm8, hm8.blk HC.2.1 (by simp), hm8.blk HC.2.2 (by simp)⟩
          clear hm8
          refine ⟨HC, ?_⟩
          refine anyC_take (i := 9) (v := ?_) (a' := ?_) HC rfl rfl (by kernel_rfl) (by kernel_rfl) (by kernel_rfl) hQp (by rfl) ?_ ?_ ?_
          rotate_left 2
          · intro X hX
            go_simp
            first | rfl | (rw [if_neg (by omega)])
          · simp [Act.put]
            rfl
          refine anyC_take (i := 10) (v := ?_) (a' := ?_) HC rfl rfl (by kernel_rfl) (by kernel_rfl) (by kernel_rfl) hQp (by rfl) ?_ ?_ ?_
          rotate_left 2
          · intro X hX
            go_simp
            first | rfl | (rw [if_neg (by omega)])
          · simp [Act.put]
            rfl
          refine anyC_take (i := 11) (v := ?_) (a' := ?_) HC rfl rfl (by kernel_rfl) (by kernel_rfl) (by kernel_rfl) hQp (by rfl) ?_ ?_ ?_
          rotate_left 2
          · intro X hX
            go_simp
            first | rfl | (rw [if_neg (by omega)])
          · simp [Act.put]
            rfl
          refine anyC_done (by kernel_rfl) ?_ _
          clear hQp
          have HM := Lib.hid HC
          clear HC
          go_wp2
          go_roundw
          case rel => exact ⟨j + 1, _, by go_num, rfl, by omega, by rw [take_snoc _ _ _ HR.out.1, List.flatMap_append]; simp only [app_str, H.out.1, hU, hT, List.flatMap_cons, List.flatMap_nil, HWR.out, List.append_assoc, List.append_nil]; try rfl, by simp [sz_put, sz_sp]; omega, HM.out.1, HM.out.2.1⟩
          case measure => simp [RowKit.intOf]; omega
      · have hjn : j = n := by omega
        have hall : o.writes.take j = o.writes := List.take_of_length_le (by rw [← HW.out.1]; omega)
        have hB8 : j * 600000 ≤ 42000000000 := by have := HN.out.2.2.1; have := HW.out.1; omega
        have HD := Lib.hid H.out.1
        rw [hall] at HD
        clear hall
        by_cases hsy : o.sync = true
        · have HL2 := HL
          rw [hsy] at HL2 HBc
          clear hsy
          go_wp2
          go_ret
          exact Line.of _ rfl (by rw [HL2.out, app_str, HD.out]; rfl) H.out.2.1
        · have hsy' : o.sync = false := by simpa using hsy
          have HL2 := HL
          rw [hsy'] at HL2 HBc
          clear hsy hsy'
          go_wp2
          go_ret
          exact Line.of _ rfl (by rw [HL2.out, HD.out]; simp) H.out.2.1
end
end Go.Proofs.YtjieelmbgfnllaaGreatDoor

/- same, and slices.EqualFunc by it, at any steps: whether they say the same. Conditions: at most 70000 writes and numbers in each. -/
import Derived.Test.YtjieelmbgfnllaaGreatDoorScSame
namespace Go.Proofs.YtjieelmbgfnllaaGreatDoor
open Go.RowKit Scr

theorem ints_any (w : World) (v1 v2 : Value) (l1 l2 : List Int) (h1 : SeenInts w v1 l1) (h2 : SeenInts w v2 l2) (hl : l1.length ≤ 70000) :
    Calls Tryz.prog 150 #[v1, v2] w fun e w' => e = .returned (.bool (decide (l1 = l2))) ∧ Mod [] w w' := by
  by_cases hn : l1.length = l2.length
  · by_cases h : l1 = l2
    · subst h
      rw [decide_eq_true rfl]
      exact equal_ints w v1 v2 l1 h1 h2 hl
    · rcases l1 with _ | ⟨x, t⟩
      · exact absurd (List.eq_nil_of_length_eq_zero hn.symm).symm h
      · rcases l2 with _ | ⟨y, u⟩
        · cases hn
        · obtain ⟨b1, o1, c1, rfl, _⟩ := h1.at_ (i := 0) (x := x) rfl
          obtain ⟨b2, o2, c2, rfl, _⟩ := h2.at_ (i := 0) (x := y) rfl
          have key : ∀ (l : List Int) b o c, SeenInts w (.slice (some ⟨b, o, none⟩) l.length c) l → ∀ j, j < l.length → w.cell? ⟨b, o + j, none⟩ = some (.int .i64 (l.getD j 0)) := by
            intro l b o c h j hj
            obtain ⟨b', o', c', he, hc⟩ := h.at_ (i := j) (x := l[j]) (List.getElem?_eq_getElem hj)
            cases he
            rw [hc, List.getD_eq_getElem?_getD, List.getElem?_eq_getElem hj]; rfl
          refine (Tryz.slices_Equal_int b1 o1 (x :: t).length c1 b2 o2 (y :: u).length c2 (x :: t) (y :: u) w (Nat.le_refl _) (Nat.le_refl _) (by omega) (by omega) (key _ _ _ _ h1) (key _ _ _ _ h2)).mono ?_
          rintro e w' ⟨rfl, q, rfl⟩
          refine ⟨?_, (Mod.refl _ _).drewN q⟩
          rw [List.take_length, List.take_length, decide_eq_false h]
          congr 2
          rw [beq_eq_false_iff_ne]; exact h
  · obtain ⟨A, c, rfl, _⟩ := h1
    obtain ⟨B, d, rfl, _⟩ := h2
    refine (Tryz.slices_Equal_int_lens A B _ c _ d w hn).mono ?_
    rintro e w' ⟨rfl, rfl⟩
    exact ⟨by rw [decide_eq_false (fun e => hn (by rw [e]))], Mod.refl _ _⟩

theorem wr_ext {x y : Wr} (h1 : x.key = y.key) (h2 : x.del = y.del) (h3 : x.val = y.val) : x = y := by
  obtain ⟨_, _, _⟩ := x
  obtain ⟨_, _, _⟩ := y
  simp only at h1 h2 h3
  subst h1 h2 h3
  rfl
set_option maxRecDepth 100000 in
set_option maxHeartbeats 4000000 in
theorem writes_any (w : World) (v1 v2 : Value) (l u : List Wr) (h1 : SeenWrs w v1 l) (h2 : SeenWrs w v2 u) (hl : l.length ≤ 70000) :
    Calls Tryz.prog 151 #[v1, v2] w fun e w' => e = .returned (.bool (decide (l = u))) ∧ Mod [] w w' := by
  have HS := Lib.hid (And.intro h1 h2)
  obtain ⟨A, c, rfl, _⟩ := h1
  obtain ⟨B, d, rfl, _⟩ := h2
  by_cases hlen : l.length = u.length
  rotate_left
  · have hne : ¬ (l.length : Int) = (u.length : Int) := by omega
    rw [decide_eq_false (fun e => hlen (by rw [e]))]
    generalize l.length = n1 at hne ⊢
    generalize u.length = n2 at hne ⊢
    clear hlen HS hl
    go_enter Tryz.func151, Tryz.ntmps151
    go_wp2
    go_ret
    exact ⟨rfl, Mod.refl _ _⟩
  obtain ⟨n, hn⟩ : ∃ n, n = l.length := ⟨_, rfl⟩
  rw [← hlen, ← hn]
  rw [← hn] at hl
  have HN := Lib.hid (And.intro hn hlen)
  obtain ⟨R, hR⟩ : ∃ R, R = decide (l = u) := ⟨_, rfl⟩
  rw [← hR]
  have HR0 := Lib.hid hR
  clear hn hlen hR
  go_enter Tryz.func151, Tryz.ntmps151
  go_wp2
  go_loopw [13] (fun s13 wr => ∃ j : Nat, s13 = .int .i64 j ∧ j ≤ n ∧ l.take j = u.take j ∧ Mod [] w wr) (fun s13 _ => n - (RowKit.intOf s13).toNat)
  case atStart => exact ⟨0, by go_num, Nat.zero_le _, by simp, Mod.refl _ _⟩
  case round =>
    obtain ⟨j, rfl, hj, hpre, hm⟩ := hrel
    have HPR := Lib.hid hpre
    clear hpre
    by_cases hjl : j < n
    · obtain ⟨x, hx⟩ : ∃ x, l[j]? = some x := ⟨_, List.getElem?_eq_getElem (by rw [← HN.out.1]; exact hjl)⟩
      obtain ⟨y, hy⟩ : ∃ y, u[j]? = some y := ⟨_, List.getElem?_eq_getElem (by rw [← HN.out.2, ← HN.out.1]; exact hjl)⟩
      have HXY := Lib.hid (And.intro hx hy)
      obtain ⟨b1, o1, c1, e1, r1⟩ := HS.out.1.range hx
      obtain ⟨b2, o2, c2, e2, r2⟩ := HS.out.2.range hy
      have HR := Lib.hid (And.intro (fun (X : World) (hX : Mod [] w X) => range_new r1 hX) (fun (X : World) (hX : Mod [] w X) => range_new r2 hX))
      have HM := Lib.hid hm
      cases e1
      cases e2
      clear r1 r2 hm hx hy
      have hjn : (j : Int) < (n : Int) := by omega
      go_wp2
      refine region_C (fun X => Mod [] w X) (by kernel_rfl) (fun _ _ _ _ _ h => h) (fun hQp => ?_)
      have HC := HM.out.drew
      simp only [List.length_cons, List.length_nil]
      refine anyC_take (i := 0) (v := ?_) (a' := ?_) HC rfl rfl (by kernel_rfl) (by kernel_rfl) (by kernel_rfl) hQp (by rfl) ?_ ?_ ?_
      rotate_left 2
      · intro X hX
        go_simp
        first | rfl | (rw [if_neg (by omega)])
      · simp [Act.put]
        rfl
      refine anyC_take (i := 1) (v := ?_) (a' := ?_) HC rfl rfl (by kernel_rfl) (by kernel_rfl) (by kernel_rfl) hQp (by rfl) ?_ ?_ ?_
      rotate_left 2
      · intro X hX
        go_simp
        first | rfl | (rw [if_neg (by omega)])
      · simp [Act.put]
        rfl
      refine anyC_take (i := 2) (v := ?_) (a' := ?_) HC rfl rfl (by kernel_rfl) (by kernel_rfl) (by kernel_rfl) hQp (by rfl) ?_ ?_ ?_
      rotate_left 2
      · intro X hX
        go_simp
        first | rfl | (rw [if_neg (by omega)])
      · simp [Act.put]
        rfl
      refine anyC_take (i := 3) (v := .agg #[.string ⟨x.key.toArray⟩, .bool x.del, .string ⟨x.val.toArray⟩]) (a' := ?_) HC rfl rfl (by kernel_rfl) (by kernel_rfl) (by kernel_rfl) hQp (by rfl) ?_ ?_ ?_
      rotate_left 1
      · intro X hX
        apply exec_load_mid 71 (hc := HR.out.1 X hX) (hu := Tryz.underlying71) (hd := rfl) (hi := by kernel_rfl)
        all_goals rfl
      · simp [Act.put]
        rfl
      refine anyC_take (i := 4) (v := ?_) (a' := ?_) HC rfl rfl (by kernel_rfl) (by kernel_rfl) (by kernel_rfl) hQp (by rfl) ?_ ?_ ?_
      rotate_left 2
      · intro X hX
        go_simp
        first | rfl | (rw [if_neg (by omega)])
      · simp [Act.put]
        rfl
      refine anyC_take (i := 5) (v := ?_) (a' := ?_) HC rfl rfl (by kernel_rfl) (by kernel_rfl) (by kernel_rfl) hQp (by rfl) ?_ ?_ ?_
      rotate_left 2
      · intro X hX
        go_simp
        first | rfl | (rw [if_neg (by omega)])
      · simp [Act.put]
        rfl
      refine anyC_take (i := 6) (v := ?_) (a' := ?_) HC rfl rfl (by kernel_rfl) (by kernel_rfl) (by kernel_rfl) hQp (by rfl) ?_ ?_ ?_
      rotate_left 2
      · intro X hX
        go_simp
        first | rfl | (rw [if_neg (by omega)])
      · simp [Act.put]
        rfl
      refine anyC_take (i := 7) (v := .agg #[.string ⟨y.key.toArray⟩, .bool y.del, .string ⟨y.val.toArray⟩]) (a' := ?_) HC rfl rfl (by kernel_rfl) (by kernel_rfl) (by kernel_rfl) hQp (by rfl) ?_ ?_ ?_
      rotate_left 1
      · intro X hX
        apply exec_load_mid 71 (hc := HR.out.2 X hX) (hu := Tryz.underlying71) (hd := rfl) (hi := by kernel_rfl)
        all_goals rfl
      · simp [Act.put]
        rfl
      by_cases hxy : x = y
      · subst hxy
        refine anyC_take (i := 8) (v := ?_) (a' := ?_) HC rfl rfl (by kernel_rfl) (by kernel_rfl) (by kernel_rfl) hQp (by rfl) ?_ ?_ ?_
        rotate_left 2
        · intro X hX
          have hne := wr_neq x X
          have hgd := wr_guard
          go_simp
          rfl
        · simp [Act.put]
          rfl
        refine anyC_done (by kernel_rfl) ?_ _
        clear hQp
        go_wp2
        go_roundw
        case rel => exact ⟨j + 1, by go_num, by omega, by rw [take_snoc l j x HXY.out.1, take_snoc u j x HXY.out.2, HPR.out], HC⟩
        case measure => simp [RowKit.intOf]; omega
      · have HNE := Lib.hid hxy
        clear hxy
        refine anyC_take (i := 8) (v := .bool true) (a' := ?_) HC rfl rfl (by kernel_rfl) (by kernel_rfl) (by kernel_rfl) hQp (by rfl) ?_ ?_ ?_
        rotate_left 1
        · intro X hX
          have hgd := wr_guard
          go_simp
          exact fun e1 e2 e3 => HNE.out (wr_ext e1 e2 e3)
        · simp [Act.put]
          rfl
        refine anyC_done (by kernel_rfl) ?_ _
        clear hQp
        have HRF := Lib.hid (show R = false by
          rw [HR0.out]
          refine decide_eq_false (fun e => HNE.out ?_)
          subst e
          exact Option.some.inj (HXY.out.1.symm.trans HXY.out.2))
        go_wp2
        go_ret
        exact ⟨by have e := HRF.out; subst e; rfl, HC⟩
    · have hall : l = u := by
        have e1 := HPR.out
        rw [List.take_of_length_le (by rw [← HN.out.1]; omega), List.take_of_length_le (by rw [← HN.out.2, ← HN.out.1]; omega)] at e1
        exact e1
      have HRT := Lib.hid (show R = true by rw [HR0.out]; exact decide_eq_true hall)
      clear hall
      go_wp2
      go_ret
      exact ⟨by have e := HRT.out; subst e; rfl, hm⟩

theorem step_ext {s t : StepS} (h1 : s.kind = t.kind) (h2 : s.a = t.a) (h3 : s.b = t.b) (h4 : s.c = t.c) (h5 : s.keep = t.keep) (h6 : s.op.kind = t.op.kind) (h7 : s.op.writes = t.op.writes) (h8 : s.op.sync = t.op.sync) (h9 : s.op.key = t.op.key) (h10 : s.op.til = t.op.til) (h11 : s.op.n = t.op.n) (h12 : s.op.snap = t.op.snap) : s = t := by
  obtain ⟨_, _, _, _, ⟨_, _, _, _, _, _, _⟩, _⟩ := s
  obtain ⟨_, _, _, _, ⟨_, _, _, _, _, _, _⟩, _⟩ := t
  simp only at h1 h2 h3 h4 h5 h6 h7 h8 h9 h10 h11 h12
  subst h1 h2 h3 h4 h5 h6 h7 h8 h9 h10 h11 h12
  rfl

theorem op_rangeS {X : World} {g : Nat} {s : StepS} {wv kv : Value} (h : Blk X g 69 #[.int .i64 s.kind, .int .i64 s.a, .int .i64 s.b, .int .i64 s.c, .int .i64 s.op.kind, wv, .bool s.op.sync, .string ⟨s.op.key.toArray⟩, .string ⟨s.op.til.toArray⟩, .int .i64 s.op.n, .int .i64 s.op.snap, kv]) : X.rangeAt g 4 [.int .i64 s.op.kind, wv, .bool s.op.sync, .string ⟨s.op.key.toArray⟩, .string ⟨s.op.til.toArray⟩, .int .i64 s.op.n, .int .i64 s.op.snap] := op_range h
set_option maxRecDepth 100000 in
set_option maxHeartbeats 16000000 in
theorem same_any (w : World) (s t : StepS) (wv kv wu ku : Value) (h1 : SeenWrs w wv s.op.writes) (h2 : SeenWrs w wu t.op.writes) (h3 : SeenInts w kv s.keep) (h4 : SeenInts w ku t.keep) (hl : s.op.writes.length ≤ 70000) (hk : s.keep.length ≤ 70000) :
    Calls Tryz.prog 87 #[.agg (stepCells s wv kv), .agg (stepCells t wu ku)] w fun e w' => e = .returned (.bool (decide (s = t))) ∧ Mod [] w w' := by
  have HS := Lib.hid (And.intro h1 (And.intro h2 (And.intro h3 (And.intro h4 (And.intro hl hk)))))
  have hwv : wv.oneCell' = true := by obtain ⟨_, _, rfl, _⟩ := h1; rfl
  have hwu : wu.oneCell' = true := by obtain ⟨_, _, rfl, _⟩ := h2; rfl
  obtain ⟨R, hR⟩ : ∃ R, R = decide (s = t) := ⟨_, rfl⟩
  rw [← hR]
  have HR := Lib.hid hR
  clear h1 h2 h3 h4 hl hk hR
  unfold stepCells opCells
  go_enter Tryz.func87, Tryz.ntmps87
  go_wp2
  have HC : Mod [] w ((w.alloc (.cells #[.int .i64 s.kind, .int .i64 s.a, .int .i64 s.b, .int .i64 s.c, .int .i64 s.op.kind, wv, .bool s.op.sync, .string ⟨s.op.key.toArray⟩, .string ⟨s.op.til.toArray⟩, .int .i64 s.op.n, .int .i64 s.op.snap, kv] 69)).alloc (.cells #[.int .i64 t.kind, .int .i64 t.a, .int .i64 t.b, .int .i64 t.c, .int .i64 t.op.kind, wu, .bool t.op.sync, .string ⟨t.op.key.toArray⟩, .string ⟨t.op.til.toArray⟩, .int .i64 t.op.n, .int .i64 t.op.snap, ku] 69)) ∧ Blk ((w.alloc (.cells #[.int .i64 s.kind, .int .i64 s.a, .int .i64 s.b, .int .i64 s.c, .int .i64 s.op.kind, wv, .bool s.op.sync, .string ⟨s.op.key.toArray⟩, .string ⟨s.op.til.toArray⟩, .int .i64 s.op.n, .int .i64 s.op.snap, kv] 69)).alloc (.cells #[.int .i64 t.kind, .int .i64 t.a, .int .i64 t.b, .int .i64 t.c, .int .i64 t.op.kind, wu, .bool t.op.sync, .string ⟨t.op.key.toArray⟩, .string ⟨t.op.til.toArray⟩, .int .i64 t.op.n, .int .i64 t.op.snap, ku] 69)) w.heap.size 69 #[.int .i64 s.kind, .int .i64 s.a, .int .i64 s.b, .int .i64 s.c, .int .i64 s.op.kind, wv, .bool s.op.sync, .string ⟨s.op.key.toArray⟩, .string ⟨s.op.til.toArray⟩, .int .i64 s.op.n, .int .i64 s.op.snap, kv] ∧ Blk ((w.alloc (.cells #[.int .i64 s.kind, .int .i64 s.a, .int .i64 s.b, .int .i64 s.c, .int .i64 s.op.kind, wv, .bool s.op.sync, .string ⟨s.op.key.toArray⟩, .string ⟨s.op.til.toArray⟩, .int .i64 s.op.n, .int .i64 s.op.snap, kv] 69)).alloc (.cells #[.int .i64 t.kind, .int .i64 t.a, .int .i64 t.b, .int .i64 t.c, .int .i64 t.op.kind, wu, .bool t.op.sync, .string ⟨t.op.key.toArray⟩, .string ⟨t.op.til.toArray⟩, .int .i64 t.op.n, .int .i64 t.op.snap, ku] 69)) (w.heap.size + 1) 69 #[.int .i64 t.kind, .int .i64 t.a, .int .i64 t.b, .int .i64 t.c, .int .i64 t.op.kind, wu, .bool t.op.sync, .string ⟨t.op.key.toArray⟩, .string ⟨t.op.til.toArray⟩, .int .i64 t.op.n, .int .i64 t.op.snap, ku] := ⟨((Mod.refl [] w).alloc _).alloc _, (Blk.new _ _ _).alloc _, Blk.newAt _ _ _ (by simp)⟩
  have hW : ((w.alloc (.cells #[.int .i64 s.kind, .int .i64 s.a, .int .i64 s.b, .int .i64 s.c, .int .i64 s.op.kind, wv, .bool s.op.sync, .string ⟨s.op.key.toArray⟩, .string ⟨s.op.til.toArray⟩, .int .i64 s.op.n, .int .i64 s.op.snap, kv] 69)).alloc (.cells #[.int .i64 t.kind, .int .i64 t.a, .int .i64 t.b, .int .i64 t.c, .int .i64 t.op.kind, wu, .bool t.op.sync, .string ⟨t.op.key.toArray⟩, .string ⟨t.op.til.toArray⟩, .int .i64 t.op.n, .int .i64 t.op.snap, ku] 69)).heap.size = w.heap.size + 2 := by simp
  generalize ((w.alloc (.cells #[.int .i64 s.kind, .int .i64 s.a, .int .i64 s.b, .int .i64 s.c, .int .i64 s.op.kind, wv, .bool s.op.sync, .string ⟨s.op.key.toArray⟩, .string ⟨s.op.til.toArray⟩, .int .i64 s.op.n, .int .i64 s.op.snap, kv] 69)).alloc (.cells #[.int .i64 t.kind, .int .i64 t.a, .int .i64 t.b, .int .i64 t.c, .int .i64 t.op.kind, wu, .bool t.op.sync, .string ⟨t.op.key.toArray⟩, .string ⟨t.op.til.toArray⟩, .int .i64 t.op.n, .int .i64 t.op.snap, ku] 69)) = W at HC hW ⊢
  refine region_C (fun X => Mod [] w X ∧ Blk X w.heap.size 69 #[.int .i64 s.kind, .int .i64 s.a, .int .i64 s.b, .int .i64 s.c, .int .i64 s.op.kind, wv, .bool s.op.sync, .string ⟨s.op.key.toArray⟩, .string ⟨s.op.til.toArray⟩, .int .i64 s.op.n, .int .i64 s.op.snap, kv] ∧ Blk X (w.heap.size + 1) 69 #[.int .i64 t.kind, .int .i64 t.a, .int .i64 t.b, .int .i64 t.c, .int .i64 t.op.kind, wu, .bool t.op.sync, .string ⟨t.op.key.toArray⟩, .string ⟨t.op.til.toArray⟩, .int .i64 t.op.n, .int .i64 t.op.snap, ku]) (by kernel_rfl) (fun _ _ _ _ _ h => h) (fun hQp => ?_)
  have HC0 := Lib.hid HC
  replace HC := And.intro HC.1.drew (And.intro HC.2.1.drew HC.2.2.drew)
  simp only [List.length_cons, List.length_nil]
  refine anyC_take (i := 0) (v := ?_) (a' := ?_) HC rfl rfl (by kernel_rfl) (by kernel_rfl) (by kernel_rfl) hQp (by rfl) ?_ ?_ ?_
  rotate_left 2
  · intro X hX
    go_simp
    rfl
  · simp [Act.put]
    rfl
  refine anyC_take (i := 1) (v := .agg #[.int .i64 s.op.kind, wv, .bool s.op.sync, .string ⟨s.op.key.toArray⟩, .string ⟨s.op.til.toArray⟩, .int .i64 s.op.n, .int .i64 s.op.snap]) (a' := ?_) HC rfl rfl (by kernel_rfl) (by kernel_rfl) (by kernel_rfl) hQp (by rfl) ?_ ?_ ?_
  rotate_left 1
  · intro X hX
    apply exec_load_mid 67 (hc := op_range hX.2.1) (hu := Tryz.underlying67) (hd := rfl) (hi := by kernel_rfl)
    all_goals rfl
  · simp [Act.put]
    rfl
  refine anyC_take (i := 2) (v := ?_) (a' := ?_) HC rfl rfl (by kernel_rfl) (by kernel_rfl) (by kernel_rfl) hQp (by rfl) ?_ ?_ ?_
  rotate_left 2
  · intro X hX
    go_simp
    rfl
  · simp [Act.put]
    rfl
  refine anyC_take (i := 3) (v := .agg #[.int .i64 t.op.kind, wu, .bool t.op.sync, .string ⟨t.op.key.toArray⟩, .string ⟨t.op.til.toArray⟩, .int .i64 t.op.n, .int .i64 t.op.snap]) (a' := ?_) HC rfl rfl (by kernel_rfl) (by kernel_rfl) (by kernel_rfl) hQp (by rfl) ?_ ?_ ?_
  rotate_left 1
  · intro X hX
    apply exec_load_mid 67 (hc := op_range hX.2.2) (hu := Tryz.underlying67) (hd := rfl) (hi := by kernel_rfl)
    all_goals rfl
  · simp [Act.put]
    rfl
  refine anyC_two (i := 4) (j := 5) (by kernel_rfl) rfl rfl (by rfl) (by rfl) ?_ ?_
  ·
    unfold Oper.wp
    go_simp
    have hz1 : Blk (W.alloc (.cells #[.int .i64 0, .slice none 0 0, .bool false, .string ⟨#[]⟩, .string ⟨#[]⟩, .int .i64 0, .int .i64 0] 67)).drew (w.heap.size + 2) 67 #[.int .i64 0, .slice none 0 0, .bool false, .string ⟨#[]⟩, .string ⟨#[]⟩, .int .i64 0, .int .i64 0] := (Blk.newAt W 67 #[.int .i64 0, .slice none 0 0, .bool false, .string ⟨#[]⟩, .string ⟨#[]⟩, .int .i64 0, .int .i64 0] hW.symm).drew
    have HC1 := And.intro (HC0.out.1.alloc (.cells #[.int .i64 0, .slice none 0 0, .bool false, .string ⟨#[]⟩, .string ⟨#[]⟩, .int .i64 0, .int .i64 0] 67)).drew (And.intro (HC0.out.2.1.alloc (.cells #[.int .i64 0, .slice none 0 0, .bool false, .string ⟨#[]⟩, .string ⟨#[]⟩, .int .i64 0, .int .i64 0] 67)).drew (HC0.out.2.2.alloc (.cells #[.int .i64 0, .slice none 0 0, .bool false, .string ⟨#[]⟩, .string ⟨#[]⟩, .int .i64 0, .int .i64 0] 67)).drew)
    have hs1 : (W.alloc (.cells #[.int .i64 0, .slice none 0 0, .bool false, .string ⟨#[]⟩, .string ⟨#[]⟩, .int .i64 0, .int .i64 0] 67)).drew.heap.size = w.heap.size + 3 := by simp [hW]
    refine ⟨HC1, ?_⟩
    generalize (W.alloc (.cells #[.int .i64 0, .slice none 0 0, .bool false, .string ⟨#[]⟩, .string ⟨#[]⟩, .int .i64 0, .int .i64 0] 67)).drew = X1 at hz1 HC1 hs1 ⊢
    refine anyC_step (i := 5) (by kernel_rfl) rfl (by rfl) ?_
    unfold Oper.wp
    go_simp
    have hz2 : Blk (X1.alloc (.cells #[.int .i64 0, .slice none 0 0, .bool false, .string ⟨#[]⟩, .string ⟨#[]⟩, .int .i64 0, .int .i64 0] 67)) (w.heap.size + 3) 67 #[.int .i64 0, .slice none 0 0, .bool false, .string ⟨#[]⟩, .string ⟨#[]⟩, .int .i64 0, .int .i64 0] := Blk.newAt X1 67 #[.int .i64 0, .slice none 0 0, .bool false, .string ⟨#[]⟩, .string ⟨#[]⟩, .int .i64 0, .int .i64 0] hs1.symm
    have hz3 := hz1.alloc (.cells #[.int .i64 0, .slice none 0 0, .bool false, .string ⟨#[]⟩, .string ⟨#[]⟩, .int .i64 0, .int .i64 0] 67)
    have HC2 := And.intro (HC1.1.alloc (.cells #[.int .i64 0, .slice none 0 0, .bool false, .string ⟨#[]⟩, .string ⟨#[]⟩, .int .i64 0, .int .i64 0] 67)) (And.intro (HC1.2.1.alloc (.cells #[.int .i64 0, .slice none 0 0, .bool false, .string ⟨#[]⟩, .string ⟨#[]⟩, .int .i64 0, .int .i64 0] 67)) (HC1.2.2.alloc (.cells #[.int .i64 0, .slice none 0 0, .bool false, .string ⟨#[]⟩, .string ⟨#[]⟩, .int .i64 0, .int .i64 0] 67)))
    refine ⟨HC2, ?_⟩
    generalize (X1.alloc (.cells #[.int .i64 0, .slice none 0 0, .bool false, .string ⟨#[]⟩, .string ⟨#[]⟩, .int .i64 0, .int .i64 0] 67)) = X2 at hz2 hz3 HC2 ⊢
    refine anyC_step (i := 6) (by kernel_rfl) rfl (by rfl) ?_
    refine wp_store_row 67 _ _ rfl (w.heap.size + 2) #[.int .i64 s.op.kind, wv, .bool s.op.sync, .string ⟨s.op.key.toArray⟩, .string ⟨s.op.til.toArray⟩, .int .i64 s.op.n, .int .i64 s.op.snap] rfl rfl 67 #[.int .i64 0, .slice none 0 0, .bool false, .string ⟨#[]⟩, .string ⟨#[]⟩, .int .i64 0, .int .i64 0] hz3 op_size rfl (op_one hwv) ?_
    have hm3 : Mod [(w.heap.size + 2)] X2 (X2.setRow (w.heap.size + 2) #[.int .i64 s.op.kind, wv, .bool s.op.sync, .string ⟨s.op.key.toArray⟩, .string ⟨s.op.til.toArray⟩, .int .i64 s.op.n, .int .i64 s.op.snap]) := (Mod.refl _ _).setRow (.inl (by simp)) _
    have hy5 : Blk (X2.setRow (w.heap.size + 2) #[.int .i64 s.op.kind, wv, .bool s.op.sync, .string ⟨s.op.key.toArray⟩, .string ⟨s.op.til.toArray⟩, .int .i64 s.op.n, .int .i64 s.op.snap]) (w.heap.size + 2) 67 #[.int .i64 s.op.kind, wv, .bool s.op.sync, .string ⟨s.op.key.toArray⟩, .string ⟨s.op.til.toArray⟩, .int .i64 s.op.n, .int .i64 s.op.snap] := Blk.setRow hz3
    have hy6 := hm3.blk hz2 (by simp)
    have HC3 := And.intro (HC2.1.then hm3 (by simp)) (And.intro (hm3.blk HC2.2.1 (by simp)) (hm3.blk HC2.2.2 (by simp)))
    refine ⟨HC3, ?_⟩
    generalize (X2.setRow (w.heap.size + 2) #[.int .i64 s.op.kind, wv, .bool s.op.sync, .string ⟨s.op.key.toArray⟩, .string ⟨s.op.til.toArray⟩, .int .i64 s.op.n, .int .i64 s.op.snap]) = X3 at hy5 hy6 HC3 ⊢
    simp only [Act.put]
    refine anyC_step (i := 7) (by kernel_rfl) rfl (by rfl) ?_
    refine wp_store_row 67 _ _ rfl (w.heap.size + 3) #[.int .i64 t.op.kind, wu, .bool t.op.sync, .string ⟨t.op.key.toArray⟩, .string ⟨t.op.til.toArray⟩, .int .i64 t.op.n, .int .i64 t.op.snap] rfl rfl 67 #[.int .i64 0, .slice none 0 0, .bool false, .string ⟨#[]⟩, .string ⟨#[]⟩, .int .i64 0, .int .i64 0] hy6 op_size rfl (op_one hwu) ?_
    have hm4 : Mod [(w.heap.size + 3)] X3 (X3.setRow (w.heap.size + 3) #[.int .i64 t.op.kind, wu, .bool t.op.sync, .string ⟨t.op.key.toArray⟩, .string ⟨t.op.til.toArray⟩, .int .i64 t.op.n, .int .i64 t.op.snap]) := (Mod.refl _ _).setRow (.inl (by simp)) _
    have HC4 := And.intro (HC3.1.then hm4 (by simp)) (And.intro (hm4.blk HC3.2.1 (by simp)) (And.intro (hm4.blk HC3.2.2 (by simp)) (And.intro (hm4.blk hy5 (by simp)) (Blk.setRow (cs' := #[.int .i64 t.op.kind, wu, .bool t.op.sync, .string ⟨t.op.key.toArray⟩, .string ⟨t.op.til.toArray⟩, .int .i64 t.op.n, .int .i64 t.op.snap]) hy6))))
    refine ⟨⟨HC4.1, HC4.2.1, HC4.2.2.1⟩, ?_⟩
    generalize (X3.setRow (w.heap.size + 3) #[.int .i64 t.op.kind, wu, .bool t.op.sync, .string ⟨t.op.key.toArray⟩, .string ⟨t.op.til.toArray⟩, .int .i64 t.op.n, .int .i64 t.op.snap]) = X4 at HC4 ⊢
    simp only [Act.put]
    refine anyC_done (by kernel_rfl) ?_ _
    clear hQp HC HC1 HC2 HC3 hz1 hz2 hz3 hy5 hy6 hm3 hm4 hs1
    have HC := HC4
    clear HC4
    have ha0 := HC.2.1.cell 0
    have ha1 := HC.2.1.cell 1
    have ha2 := HC.2.1.cell 2
    have ha3 := HC.2.1.cell 3
    have ha11 := HC.2.1.cell 11
    simp at ha0 ha1 ha2 ha3 ha11
    have hb0 := HC.2.2.1.cell 0
    have hb1 := HC.2.2.1.cell 1
    have hb2 := HC.2.2.1.cell 2
    have hb3 := HC.2.2.1.cell 3
    have hb11 := HC.2.2.1.cell 11
    simp at hb0 hb1 hb2 hb3 hb11
    have H4 := Lib.hid HC
    clear HC hW HC0
    by_cases hf : s.kind = t.kind
    rotate_left
    · have HRF := Lib.hid (show R = false by rw [HR.out]; exact decide_eq_false (fun e => hf (by rw [e])))
      have hb : (s.kind == t.kind) = false := by rw [beq_eq_false_iff_ne]; exact hf
      clear hf
      go_wp2
      go_ret
      exact ⟨by have e := HRF.out; subst e; rfl, H4.out.1⟩
    rw [hf] at ha0
    have HFkind := Lib.hid hf
    clear hf
    by_cases hf : s.a = t.a
    rotate_left
    · have HRF := Lib.hid (show R = false by rw [HR.out]; exact decide_eq_false (fun e => hf (by rw [e])))
      have hb : (s.a == t.a) = false := by rw [beq_eq_false_iff_ne]; exact hf
      clear hf
      go_wp2
      go_ret
      exact ⟨by have e := HRF.out; subst e; rfl, H4.out.1⟩
    rw [hf] at ha1
    have HFa := Lib.hid hf
    clear hf
    by_cases hf : s.b = t.b
    rotate_left
    · have HRF := Lib.hid (show R = false by rw [HR.out]; exact decide_eq_false (fun e => hf (by rw [e])))
      have hb : (s.b == t.b) = false := by rw [beq_eq_false_iff_ne]; exact hf
      clear hf
      go_wp2
      go_ret
      exact ⟨by have e := HRF.out; subst e; rfl, H4.out.1⟩
    rw [hf] at ha2
    have HFb := Lib.hid hf
    clear hf
    by_cases hf : s.c = t.c
    rotate_left
    · have HRF := Lib.hid (show R = false by rw [HR.out]; exact decide_eq_false (fun e => hf (by rw [e])))
      have hb : (s.c == t.c) = false := by rw [beq_eq_false_iff_ne]; exact hf
      clear hf
      go_wp2
      go_ret
      exact ⟨by have e := HRF.out; subst e; rfl, H4.out.1⟩
    rw [hf] at ha3
    have HFc := Lib.hid hf
    clear hf
    go_wp2_with fail
    refine (ints_any _ _ _ s.keep t.keep (HS.out.2.2.1.new H4.out.1) (HS.out.2.2.2.1.new H4.out.1) HS.out.2.2.2.2.2).mono ?_
    rintro e X5 ⟨rfl, hm5⟩
    replace H4 := Lib.hid (And.intro (H4.out.1.trans hm5) (And.intro (hm5.blk H4.out.2.1 (by simp)) (And.intro (hm5.blk H4.out.2.2.1 (by simp)) (And.intro (hm5.blk H4.out.2.2.2.1 (by simp)) (hm5.blk H4.out.2.2.2.2 (by simp))))))
    clear hm5
    have he0 := H4.out.2.2.2.1.cell 0
    have he1 := H4.out.2.2.2.1.cell 1
    simp at he0 he1
    have hi0 := H4.out.2.2.2.2.cell 0
    have hi1 := H4.out.2.2.2.2.cell 1
    simp at hi0 hi1
    clear ha0 ha1 ha2 ha3 ha11 hb0 hb1 hb2 hb3 hb11
    by_cases hq : s.keep = t.keep
    rotate_left
    · have HRF := Lib.hid (show R = false by rw [HR.out]; exact decide_eq_false (fun e => hq (by rw [e])))
      rw [decide_eq_false hq]
      clear hq
      go_wp2
      go_ret
      exact ⟨by have e := HRF.out; subst e; rfl, H4.out.1⟩
    rw [decide_eq_true hq]
    have HFkeep := Lib.hid hq
    clear hq
    by_cases hf : s.op.kind = t.op.kind
    rotate_left
    · have HRF := Lib.hid (show R = false by rw [HR.out]; exact decide_eq_false (fun e => hf (by rw [e])))
      have hb : (s.op.kind == t.op.kind) = false := by rw [beq_eq_false_iff_ne]; exact hf
      clear hf
      go_wp2
      go_ret
      exact ⟨by have e := HRF.out; subst e; rfl, H4.out.1⟩
    rw [hf] at he0
    have HFopkind := Lib.hid hf
    clear hf
    go_wp2_with fail
    refine (writes_any _ _ _ s.op.writes t.op.writes (HS.out.1.new H4.out.1) (HS.out.2.1.new H4.out.1) HS.out.2.2.2.2.1).mono ?_
    rintro e X6 ⟨rfl, hm6⟩
    replace H4 := Lib.hid (And.intro (H4.out.1.trans hm6) (And.intro (hm6.blk H4.out.2.2.2.1 (by simp)) (hm6.blk H4.out.2.2.2.2 (by simp))))
    clear hm6
    have hg2 := H4.out.2.1.cell 2
    have hg3 := H4.out.2.1.cell 3
    have hg4 := H4.out.2.1.cell 4
    have hg5 := H4.out.2.1.cell 5
    have hg6 := H4.out.2.1.cell 6
    simp at hg2 hg3 hg4 hg5 hg6
    have hh2 := H4.out.2.2.cell 2
    have hh3 := H4.out.2.2.cell 3
    have hh4 := H4.out.2.2.cell 4
    have hh5 := H4.out.2.2.cell 5
    have hh6 := H4.out.2.2.cell 6
    simp at hh2 hh3 hh4 hh5 hh6
    clear he0 he1 hi0 hi1
    by_cases hq : s.op.writes = t.op.writes
    rotate_left
    · have HRF := Lib.hid (show R = false by rw [HR.out]; exact decide_eq_false (fun e => hq (by rw [e])))
      rw [decide_eq_false hq]
      clear hq
      go_wp2
      go_ret
      exact ⟨by have e := HRF.out; subst e; rfl, H4.out.1⟩
    rw [decide_eq_true hq]
    have HFwrites := Lib.hid hq
    clear hq
    by_cases hf : s.op.sync = t.op.sync
    rotate_left
    · have HRF := Lib.hid (show R = false by rw [HR.out]; exact decide_eq_false (fun e => hf (by rw [e])))
      have hb : (s.op.sync == t.op.sync) = false := by rw [beq_eq_false_iff_ne]; exact hf
      clear hf
      go_wp2
      go_ret
      exact ⟨by have e := HRF.out; subst e; rfl, H4.out.1⟩
    rw [hf] at hg2
    have HFopsync := Lib.hid hf
    clear hf
    by_cases hf : s.op.key = t.op.key
    rotate_left
    · have HRF := Lib.hid (show R = false by rw [HR.out]; exact decide_eq_false (fun e => hf (by rw [e])))
      have hb : ((⟨s.op.key.toArray⟩ : ByteArray).toList == (⟨t.op.key.toArray⟩ : ByteArray).toList) = false := by
        rw [beq_eq_false_iff_ne, Lib.toList_data, Lib.toList_data]; exact hf
      go_wp2
      go_ret
      exact ⟨by have e := HRF.out; subst e; rfl, H4.out.1⟩
    rw [hf] at hg3
    have HFopkey := Lib.hid hf
    clear hf
    by_cases hf : s.op.til = t.op.til
    rotate_left
    · have HRF := Lib.hid (show R = false by rw [HR.out]; exact decide_eq_false (fun e => hf (by rw [e])))
      have hb : ((⟨s.op.til.toArray⟩ : ByteArray).toList == (⟨t.op.til.toArray⟩ : ByteArray).toList) = false := by
        rw [beq_eq_false_iff_ne, Lib.toList_data, Lib.toList_data]; exact hf
      go_wp2
      go_ret
      exact ⟨by have e := HRF.out; subst e; rfl, H4.out.1⟩
    rw [hf] at hg4
    have HFoptil := Lib.hid hf
    clear hf
    by_cases hf : s.op.n = t.op.n
    rotate_left
    · have HRF := Lib.hid (show R = false by rw [HR.out]; exact decide_eq_false (fun e => hf (by rw [e])))
      have hb : (s.op.n == t.op.n) = false := by rw [beq_eq_false_iff_ne]; exact hf
      clear hf
      go_wp2
      go_ret
      exact ⟨by have e := HRF.out; subst e; rfl, H4.out.1⟩
    rw [hf] at hg5
    have HFopn := Lib.hid hf
    clear hf
    by_cases hf : s.op.snap = t.op.snap
    rotate_left
    · have HRF := Lib.hid (show R = false by rw [HR.out]; exact decide_eq_false (fun e => hf (by rw [e])))
      have hb : (s.op.snap == t.op.snap) = false := by rw [beq_eq_false_iff_ne]; exact hf
      clear hf
      go_wp2
      go_ret
      exact ⟨by have e := HRF.out; subst e; rfl, H4.out.1⟩
    rw [hf] at hg6
    have HFopsnap := Lib.hid hf
    clear hf
    have HRT := Lib.hid (show R = true by
      rw [HR.out]
      refine decide_eq_true (step_ext HFkind.out HFa.out HFb.out HFc.out HFkeep.out HFopkind.out HFwrites.out HFopsync.out HFopkey.out HFoptil.out HFopn.out HFopsnap.out))
    go_wp2
    go_ret
    exact ⟨by have e := HRT.out; subst e; rfl, H4.out.1⟩

  ·
    unfold Oper.wp
    go_simp
    have hz1 : Blk (W.alloc (.cells #[.int .i64 0, .slice none 0 0, .bool false, .string ⟨#[]⟩, .string ⟨#[]⟩, .int .i64 0, .int .i64 0] 67)).drew (w.heap.size + 2) 67 #[.int .i64 0, .slice none 0 0, .bool false, .string ⟨#[]⟩, .string ⟨#[]⟩, .int .i64 0, .int .i64 0] := (Blk.newAt W 67 #[.int .i64 0, .slice none 0 0, .bool false, .string ⟨#[]⟩, .string ⟨#[]⟩, .int .i64 0, .int .i64 0] hW.symm).drew
    have HC1 := And.intro (HC0.out.1.alloc (.cells #[.int .i64 0, .slice none 0 0, .bool false, .string ⟨#[]⟩, .string ⟨#[]⟩, .int .i64 0, .int .i64 0] 67)).drew (And.intro (HC0.out.2.1.alloc (.cells #[.int .i64 0, .slice none 0 0, .bool false, .string ⟨#[]⟩, .string ⟨#[]⟩, .int .i64 0, .int .i64 0] 67)).drew (HC0.out.2.2.alloc (.cells #[.int .i64 0, .slice none 0 0, .bool false, .string ⟨#[]⟩, .string ⟨#[]⟩, .int .i64 0, .int .i64 0] 67)).drew)
    have hs1 : (W.alloc (.cells #[.int .i64 0, .slice none 0 0, .bool false, .string ⟨#[]⟩, .string ⟨#[]⟩, .int .i64 0, .int .i64 0] 67)).drew.heap.size = w.heap.size + 3 := by simp [hW]
    refine ⟨HC1, ?_⟩
    generalize (W.alloc (.cells #[.int .i64 0, .slice none 0 0, .bool false, .string ⟨#[]⟩, .string ⟨#[]⟩, .int .i64 0, .int .i64 0] 67)).drew = X1 at hz1 HC1 hs1 ⊢
    refine anyC_step (i := 4) (by kernel_rfl) rfl (by rfl) ?_
    unfold Oper.wp
    go_simp
    have hz2 : Blk (X1.alloc (.cells #[.int .i64 0, .slice none 0 0, .bool false, .string ⟨#[]⟩, .string ⟨#[]⟩, .int .i64 0, .int .i64 0] 67)) (w.heap.size + 3) 67 #[.int .i64 0, .slice none 0 0, .bool false, .string ⟨#[]⟩, .string ⟨#[]⟩, .int .i64 0, .int .i64 0] := Blk.newAt X1 67 #[.int .i64 0, .slice none 0 0, .bool false, .string ⟨#[]⟩, .string ⟨#[]⟩, .int .i64 0, .int .i64 0] hs1.symm
    have hz3 := hz1.alloc (.cells #[.int .i64 0, .slice none 0 0, .bool false, .string ⟨#[]⟩, .string ⟨#[]⟩, .int .i64 0, .int .i64 0] 67)
    have HC2 := And.intro (HC1.1.alloc (.cells #[.int .i64 0, .slice none 0 0, .bool false, .string ⟨#[]⟩, .string ⟨#[]⟩, .int .i64 0, .int .i64 0] 67)) (And.intro (HC1.2.1.alloc (.cells #[.int .i64 0, .slice none 0 0, .bool false, .string ⟨#[]⟩, .string ⟨#[]⟩, .int .i64 0, .int .i64 0] 67)) (HC1.2.2.alloc (.cells #[.int .i64 0, .slice none 0 0, .bool false, .string ⟨#[]⟩, .string ⟨#[]⟩, .int .i64 0, .int .i64 0] 67)))
    refine ⟨HC2, ?_⟩
    generalize (X1.alloc (.cells #[.int .i64 0, .slice none 0 0, .bool false, .string ⟨#[]⟩, .string ⟨#[]⟩, .int .i64 0, .int .i64 0] 67)) = X2 at hz2 hz3 HC2 ⊢
    refine anyC_step (i := 6) (by kernel_rfl) rfl (by rfl) ?_
    refine wp_store_row 67 _ _ rfl (w.heap.size + 3) #[.int .i64 s.op.kind, wv, .bool s.op.sync, .string ⟨s.op.key.toArray⟩, .string ⟨s.op.til.toArray⟩, .int .i64 s.op.n, .int .i64 s.op.snap] rfl rfl 67 #[.int .i64 0, .slice none 0 0, .bool false, .string ⟨#[]⟩, .string ⟨#[]⟩, .int .i64 0, .int .i64 0] hz2 op_size rfl (op_one hwv) ?_
    have hm3 : Mod [(w.heap.size + 3)] X2 (X2.setRow (w.heap.size + 3) #[.int .i64 s.op.kind, wv, .bool s.op.sync, .string ⟨s.op.key.toArray⟩, .string ⟨s.op.til.toArray⟩, .int .i64 s.op.n, .int .i64 s.op.snap]) := (Mod.refl _ _).setRow (.inl (by simp)) _
    have hy5 : Blk (X2.setRow (w.heap.size + 3) #[.int .i64 s.op.kind, wv, .bool s.op.sync, .string ⟨s.op.key.toArray⟩, .string ⟨s.op.til.toArray⟩, .int .i64 s.op.n, .int .i64 s.op.snap]) (w.heap.size + 3) 67 #[.int .i64 s.op.kind, wv, .bool s.op.sync, .string ⟨s.op.key.toArray⟩, .string ⟨s.op.til.toArray⟩, .int .i64 s.op.n, .int .i64 s.op.snap] := Blk.setRow hz2
    have hy6 := hm3.blk hz3 (by simp)
    have HC3 := And.intro (HC2.1.then hm3 (by simp)) (And.intro (hm3.blk HC2.2.1 (by simp)) (hm3.blk HC2.2.2 (by simp)))
    refine ⟨HC3, ?_⟩
    generalize (X2.setRow (w.heap.size + 3) #[.int .i64 s.op.kind, wv, .bool s.op.sync, .string ⟨s.op.key.toArray⟩, .string ⟨s.op.til.toArray⟩, .int .i64 s.op.n, .int .i64 s.op.snap]) = X3 at hy5 hy6 HC3 ⊢
    simp only [Act.put]
    refine anyC_step (i := 7) (by kernel_rfl) rfl (by rfl) ?_
    refine wp_store_row 67 _ _ rfl (w.heap.size + 2) #[.int .i64 t.op.kind, wu, .bool t.op.sync, .string ⟨t.op.key.toArray⟩, .string ⟨t.op.til.toArray⟩, .int .i64 t.op.n, .int .i64 t.op.snap] rfl rfl 67 #[.int .i64 0, .slice none 0 0, .bool false, .string ⟨#[]⟩, .string ⟨#[]⟩, .int .i64 0, .int .i64 0] hy6 op_size rfl (op_one hwu) ?_
    have hm4 : Mod [(w.heap.size + 2)] X3 (X3.setRow (w.heap.size + 2) #[.int .i64 t.op.kind, wu, .bool t.op.sync, .string ⟨t.op.key.toArray⟩, .string ⟨t.op.til.toArray⟩, .int .i64 t.op.n, .int .i64 t.op.snap]) := (Mod.refl _ _).setRow (.inl (by simp)) _
    have HC4 := And.intro (HC3.1.then hm4 (by simp)) (And.intro (hm4.blk HC3.2.1 (by simp)) (And.intro (hm4.blk HC3.2.2 (by simp)) (And.intro (hm4.blk hy5 (by simp)) (Blk.setRow (cs' := #[.int .i64 t.op.kind, wu, .bool t.op.sync, .string ⟨t.op.key.toArray⟩, .string ⟨t.op.til.toArray⟩, .int .i64 t.op.n, .int .i64 t.op.snap]) hy6))))
    refine ⟨⟨HC4.1, HC4.2.1, HC4.2.2.1⟩, ?_⟩
    generalize (X3.setRow (w.heap.size + 2) #[.int .i64 t.op.kind, wu, .bool t.op.sync, .string ⟨t.op.key.toArray⟩, .string ⟨t.op.til.toArray⟩, .int .i64 t.op.n, .int .i64 t.op.snap]) = X4 at HC4 ⊢
    simp only [Act.put]
    refine anyC_done (by kernel_rfl) ?_ _
    clear hQp HC HC1 HC2 HC3 hz1 hz2 hz3 hy5 hy6 hm3 hm4 hs1
    have HC := HC4
    clear HC4
    have ha0 := HC.2.1.cell 0
    have ha1 := HC.2.1.cell 1
    have ha2 := HC.2.1.cell 2
    have ha3 := HC.2.1.cell 3
    have ha11 := HC.2.1.cell 11
    simp at ha0 ha1 ha2 ha3 ha11
    have hb0 := HC.2.2.1.cell 0
    have hb1 := HC.2.2.1.cell 1
    have hb2 := HC.2.2.1.cell 2
    have hb3 := HC.2.2.1.cell 3
    have hb11 := HC.2.2.1.cell 11
    simp at hb0 hb1 hb2 hb3 hb11
    have H4 := Lib.hid HC
    clear HC hW HC0
    by_cases hf : s.kind = t.kind
    rotate_left
    · have HRF := Lib.hid (show R = false by rw [HR.out]; exact decide_eq_false (fun e => hf (by rw [e])))
      have hb : (s.kind == t.kind) = false := by rw [beq_eq_false_iff_ne]; exact hf
      clear hf
      go_wp2
      go_ret
      exact ⟨by have e := HRF.out; subst e; rfl, H4.out.1⟩
    rw [hf] at ha0
    have HFkind := Lib.hid hf
    clear hf
    by_cases hf : s.a = t.a
    rotate_left
    · have HRF := Lib.hid (show R = false by rw [HR.out]; exact decide_eq_false (fun e => hf (by rw [e])))
      have hb : (s.a == t.a) = false := by rw [beq_eq_false_iff_ne]; exact hf
      clear hf
      go_wp2
      go_ret
      exact ⟨by have e := HRF.out; subst e; rfl, H4.out.1⟩
    rw [hf] at ha1
    have HFa := Lib.hid hf
    clear hf
    by_cases hf : s.b = t.b
    rotate_left
    · have HRF := Lib.hid (show R = false by rw [HR.out]; exact decide_eq_false (fun e => hf (by rw [e])))
      have hb : (s.b == t.b) = false := by rw [beq_eq_false_iff_ne]; exact hf
      clear hf
      go_wp2
      go_ret
      exact ⟨by have e := HRF.out; subst e; rfl, H4.out.1⟩
    rw [hf] at ha2
    have HFb := Lib.hid hf
    clear hf
    by_cases hf : s.c = t.c
    rotate_left
    · have HRF := Lib.hid (show R = false by rw [HR.out]; exact decide_eq_false (fun e => hf (by rw [e])))
      have hb : (s.c == t.c) = false := by rw [beq_eq_false_iff_ne]; exact hf
      clear hf
      go_wp2
      go_ret
      exact ⟨by have e := HRF.out; subst e; rfl, H4.out.1⟩
    rw [hf] at ha3
    have HFc := Lib.hid hf
    clear hf
    go_wp2_with fail
    refine (ints_any _ _ _ s.keep t.keep (HS.out.2.2.1.new H4.out.1) (HS.out.2.2.2.1.new H4.out.1) HS.out.2.2.2.2.2).mono ?_
    rintro e X5 ⟨rfl, hm5⟩
    replace H4 := Lib.hid (And.intro (H4.out.1.trans hm5) (And.intro (hm5.blk H4.out.2.1 (by simp)) (And.intro (hm5.blk H4.out.2.2.1 (by simp)) (And.intro (hm5.blk H4.out.2.2.2.1 (by simp)) (hm5.blk H4.out.2.2.2.2 (by simp))))))
    clear hm5
    have he0 := H4.out.2.2.2.1.cell 0
    have he1 := H4.out.2.2.2.1.cell 1
    simp at he0 he1
    have hi0 := H4.out.2.2.2.2.cell 0
    have hi1 := H4.out.2.2.2.2.cell 1
    simp at hi0 hi1
    clear ha0 ha1 ha2 ha3 ha11 hb0 hb1 hb2 hb3 hb11
    by_cases hq : s.keep = t.keep
    rotate_left
    · have HRF := Lib.hid (show R = false by rw [HR.out]; exact decide_eq_false (fun e => hq (by rw [e])))
      rw [decide_eq_false hq]
      clear hq
      go_wp2
      go_ret
      exact ⟨by have e := HRF.out; subst e; rfl, H4.out.1⟩
    rw [decide_eq_true hq]
    have HFkeep := Lib.hid hq
    clear hq
    by_cases hf : s.op.kind = t.op.kind
    rotate_left
    · have HRF := Lib.hid (show R = false by rw [HR.out]; exact decide_eq_false (fun e => hf (by rw [e])))
      have hb : (s.op.kind == t.op.kind) = false := by rw [beq_eq_false_iff_ne]; exact hf
      clear hf
      go_wp2
      go_ret
      exact ⟨by have e := HRF.out; subst e; rfl, H4.out.1⟩
    rw [hf] at he0
    have HFopkind := Lib.hid hf
    clear hf
    go_wp2_with fail
    refine (writes_any _ _ _ s.op.writes t.op.writes (HS.out.1.new H4.out.1) (HS.out.2.1.new H4.out.1) HS.out.2.2.2.2.1).mono ?_
    rintro e X6 ⟨rfl, hm6⟩
    replace H4 := Lib.hid (And.intro (H4.out.1.trans hm6) (And.intro (hm6.blk H4.out.2.2.2.1 (by simp)) (hm6.blk H4.out.2.2.2.2 (by simp))))
    clear hm6
    have hg2 := H4.out.2.1.cell 2
    have hg3 := H4.out.2.1.cell 3
    have hg4 := H4.out.2.1.cell 4
    have hg5 := H4.out.2.1.cell 5
    have hg6 := H4.out.2.1.cell 6
    simp at hg2 hg3 hg4 hg5 hg6
    have hh2 := H4.out.2.2.cell 2
    have hh3 := H4.out.2.2.cell 3
    have hh4 := H4.out.2.2.cell 4
    have hh5 := H4.out.2.2.cell 5
    have hh6 := H4.out.2.2.cell 6
    simp at hh2 hh3 hh4 hh5 hh6
    clear he0 he1 hi0 hi1
    by_cases hq : s.op.writes = t.op.writes
    rotate_left
    · have HRF := Lib.hid (show R = false by rw [HR.out]; exact decide_eq_false (fun e => hq (by rw [e])))
      rw [decide_eq_false hq]
      clear hq
      go_wp2
      go_ret
      exact ⟨by have e := HRF.out; subst e; rfl, H4.out.1⟩
    rw [decide_eq_true hq]
    have HFwrites := Lib.hid hq
    clear hq
    by_cases hf : s.op.sync = t.op.sync
    rotate_left
    · have HRF := Lib.hid (show R = false by rw [HR.out]; exact decide_eq_false (fun e => hf (by rw [e])))
      have hb : (s.op.sync == t.op.sync) = false := by rw [beq_eq_false_iff_ne]; exact hf
      clear hf
      go_wp2
      go_ret
      exact ⟨by have e := HRF.out; subst e; rfl, H4.out.1⟩
    rw [hf] at hg2
    have HFopsync := Lib.hid hf
    clear hf
    by_cases hf : s.op.key = t.op.key
    rotate_left
    · have HRF := Lib.hid (show R = false by rw [HR.out]; exact decide_eq_false (fun e => hf (by rw [e])))
      have hb : ((⟨s.op.key.toArray⟩ : ByteArray).toList == (⟨t.op.key.toArray⟩ : ByteArray).toList) = false := by
        rw [beq_eq_false_iff_ne, Lib.toList_data, Lib.toList_data]; exact hf
      go_wp2
      go_ret
      exact ⟨by have e := HRF.out; subst e; rfl, H4.out.1⟩
    rw [hf] at hg3
    have HFopkey := Lib.hid hf
    clear hf
    by_cases hf : s.op.til = t.op.til
    rotate_left
    · have HRF := Lib.hid (show R = false by rw [HR.out]; exact decide_eq_false (fun e => hf (by rw [e])))
      have hb : ((⟨s.op.til.toArray⟩ : ByteArray).toList == (⟨t.op.til.toArray⟩ : ByteArray).toList) = false := by
        rw [beq_eq_false_iff_ne, Lib.toList_data, Lib.toList_data]; exact hf
      go_wp2
      go_ret
      exact ⟨by have e := HRF.out; subst e; rfl, H4.out.1⟩
    rw [hf] at hg4
    have HFoptil := Lib.hid hf
    clear hf
    by_cases hf : s.op.n = t.op.n
    rotate_left
    · have HRF := Lib.hid (show R = false by rw [HR.out]; exact decide_eq_false (fun e => hf (by rw [e])))
      have hb : (s.op.n == t.op.n) = false := by rw [beq_eq_false_iff_ne]; exact hf
      clear hf
      go_wp2
      go_ret
      exact ⟨by have e := HRF.out; subst e; rfl, H4.out.1⟩
    rw [hf] at hg5
    have HFopn := Lib.hid hf
    clear hf
    by_cases hf : s.op.snap = t.op.snap
    rotate_left
    · have HRF := Lib.hid (show R = false by rw [HR.out]; exact decide_eq_false (fun e => hf (by rw [e])))
      have hb : (s.op.snap == t.op.snap) = false := by rw [beq_eq_false_iff_ne]; exact hf
      clear hf
      go_wp2
      go_ret
      exact ⟨by have e := HRF.out; subst e; rfl, H4.out.1⟩
    rw [hf] at hg6
    have HFopsnap := Lib.hid hf
    clear hf
    have HRT := Lib.hid (show R = true by
      rw [HR.out]
      refine decide_eq_true (step_ext HFkind.out HFa.out HFb.out HFc.out HFkeep.out HFopkind.out HFwrites.out HFopsync.out HFopkey.out HFoptil.out HFopn.out HFopsnap.out))
    go_wp2
    go_ret
    exact ⟨by have e := HRT.out; subst e; rfl, H4.out.1⟩

end Go.Proofs.YtjieelmbgfnllaaGreatDoor

/- same at two steps that say the same. Conditions: at most 70000 writes and numbers. -/
import Derived.Test.YtjieelmbgfnllaaGreatDoorScEq
namespace Go.Proofs.YtjieelmbgfnllaaGreatDoor
open Go.RowKit Scr

theorem anyC_two {P : Program} {ops : Array Oper} {md : Region.Mode} {C : World → Prop} {Q : Exit → Act → World → Prop} {i j : Nat} {f : Nat} {listed : Array Bool} {a : Act} {w : World} {oi oj : Oper} (hr : Region.ready md ops listed = [i, j]) (hi : ops[i]? = some oi) (hj : ops[j]? = some oj) (hwi : Region.wanted oi (yielded ops a.tmps) = true) (hwj : Region.wanted oj (yielded ops a.tmps) = true)
    (h1 : oi.wp P a w (fun a' w' => C w' ∧ anyC P md ops C Q f (listed.setIfInBounds i true) a' w') Q) (h2 : oj.wp P a w (fun a' w' => C w' ∧ anyC P md ops C Q f (listed.setIfInBounds j true) a' w') Q) : anyC P md ops C Q (f + 1) listed a w := by
  refine ⟨fun h0 => (by rw [hr] at h0; cases h0), fun k hk => ?_⟩
  rw [hr] at hk
  simp only [List.mem_cons, List.not_mem_nil, or_false] at hk
  unfold wpOp
  rcases hk with rfl | rfl
  · simp only [hi, hwi, if_true]; exact .inl h1
  · simp only [hj, hwj, if_true]; exact .inl h2
theorem op_range {X : World} {g : Nat} {s : StepS} {wv kv : Value} (h : Blk X g 69 #[.int .i64 s.kind, .int .i64 s.a, .int .i64 s.b, .int .i64 s.c, .int .i64 s.op.kind, wv, .bool s.op.sync, .string ⟨s.op.key.toArray⟩, .string ⟨s.op.til.toArray⟩, .int .i64 s.op.n, .int .i64 s.op.snap, kv]) : X.rangeAt g 4 [.int .i64 s.op.kind, wv, .bool s.op.sync, .string ⟨s.op.key.toArray⟩, .string ⟨s.op.til.toArray⟩, .int .i64 s.op.n, .int .i64 s.op.snap] := by
  intro i u hu
  rw [h.cell]
  match i, hu with
  | 0, hu => simpa using hu
  | 1, hu => simpa using hu
  | 2, hu => simpa using hu
  | 3, hu => simpa using hu
  | 4, hu => simpa using hu
  | 5, hu => simpa using hu
  | 6, hu => simpa using hu

theorem equal_ints (w : World) (v1 v2 : Value) (l : List Int) (h1 : SeenInts w v1 l) (h2 : SeenInts w v2 l) (hl : l.length ≤ 70000) :
    Calls Tryz.prog 150 #[v1, v2] w fun e w' => e = .returned (.bool true) ∧ Mod [] w w' := by
  rcases l with _ | ⟨x, t⟩
  · obtain ⟨A, c, rfl, _⟩ := h1
    obtain ⟨B, d, rfl, _⟩ := h2
    refine (Tryz.slices_Equal_int_empty A B c 0 d w (by decide)).mono ?_
    rintro e w' ⟨rfl, rfl⟩
    exact ⟨rfl, Mod.refl _ _⟩
  · obtain ⟨b1, o1, c1, rfl, _⟩ := h1.at_ (i := 0) (x := x) rfl
    obtain ⟨b2, o2, c2, rfl, _⟩ := h2.at_ (i := 0) (x := x) rfl
    have key : ∀ b o c, SeenInts w (.slice (some ⟨b, o, none⟩) (x :: t).length c) (x :: t) → ∀ j, j < (x :: t).length → w.cell? ⟨b, o + j, none⟩ = some (.int .i64 ((x :: t).getD j 0)) := by
      intro b o c h j hj
      obtain ⟨b', o', c', he, hc⟩ := h.at_ (i := j) (x := (x :: t)[j]) (List.getElem?_eq_getElem hj)
      cases he
      rw [hc, List.getD_eq_getElem?_getD, List.getElem?_eq_getElem hj]; rfl
    refine (Tryz.slices_Equal_int b1 o1 (x :: t).length c1 b2 o2 (x :: t).length c2 (x :: t) (x :: t) w (Nat.le_refl _) (Nat.le_refl _) (by omega) (by omega) (key _ _ _ h1) (key _ _ _ h2)).mono ?_
    rintro e w' ⟨rfl, q, rfl⟩
    exact ⟨by simp, (Mod.refl _ _).drewN q⟩

theorem op_one {s : StepS} {wv : Value} (h : wv.oneCell' = true) : (#[.int .i64 s.op.kind, wv, .bool s.op.sync, .string ⟨s.op.key.toArray⟩, .string ⟨s.op.til.toArray⟩, .int .i64 s.op.n, .int .i64 s.op.snap] : Array Value).all (·.oneCell') = true := by
  rw [← Array.all_toList]
  simp only [List.all_cons, List.all_nil, h, Bool.and_true, Bool.true_and]
  rfl
theorem op_size : (Tryz.prog.info? 67).map (·.size) = some 7 := by kernel_rfl
set_option maxRecDepth 100000 in
set_option maxHeartbeats 16000000 in
theorem same_walk (w : World) (s : StepS) (wv kv wu ku : Value) (h1 : SeenWrs w wv s.op.writes) (h2 : SeenWrs w wu s.op.writes) (h3 : SeenInts w kv s.keep) (h4 : SeenInts w ku s.keep) (hl : s.op.writes.length ≤ 70000) (hk : s.keep.length ≤ 70000) :
    Calls Tryz.prog 87 #[.agg (stepCells s wv kv), .agg (stepCells s wu ku)] w fun e w' => e = .returned (.bool true) ∧ Mod [] w w' := by
  have HS := Lib.hid (And.intro h1 (And.intro h2 (And.intro h3 (And.intro h4 (And.intro hl hk)))))
  have hwv : wv.oneCell' = true := by obtain ⟨_, _, rfl, _⟩ := h1; rfl
  have hwu : wu.oneCell' = true := by obtain ⟨_, _, rfl, _⟩ := h2; rfl
  clear h1 h2 h3 h4 hl hk
  unfold stepCells opCells
  go_enter Tryz.func87, Tryz.ntmps87
  go_wp2
  have HC : Mod [] w ((w.alloc (.cells #[.int .i64 s.kind, .int .i64 s.a, .int .i64 s.b, .int .i64 s.c, .int .i64 s.op.kind, wv, .bool s.op.sync, .string ⟨s.op.key.toArray⟩, .string ⟨s.op.til.toArray⟩, .int .i64 s.op.n, .int .i64 s.op.snap, kv] 69)).alloc (.cells #[.int .i64 s.kind, .int .i64 s.a, .int .i64 s.b, .int .i64 s.c, .int .i64 s.op.kind, wu, .bool s.op.sync, .string ⟨s.op.key.toArray⟩, .string ⟨s.op.til.toArray⟩, .int .i64 s.op.n, .int .i64 s.op.snap, ku] 69)) ∧ Blk ((w.alloc (.cells #[.int .i64 s.kind, .int .i64 s.a, .int .i64 s.b, .int .i64 s.c, .int .i64 s.op.kind, wv, .bool s.op.sync, .string ⟨s.op.key.toArray⟩, .string ⟨s.op.til.toArray⟩, .int .i64 s.op.n, .int .i64 s.op.snap, kv] 69)).alloc (.cells #[.int .i64 s.kind, .int .i64 s.a, .int .i64 s.b, .int .i64 s.c, .int .i64 s.op.kind, wu, .bool s.op.sync, .string ⟨s.op.key.toArray⟩, .string ⟨s.op.til.toArray⟩, .int .i64 s.op.n, .int .i64 s.op.snap, ku] 69)) w.heap.size 69 #[.int .i64 s.kind, .int .i64 s.a, .int .i64 s.b, .int .i64 s.c, .int .i64 s.op.kind, wv, .bool s.op.sync, .string ⟨s.op.key.toArray⟩, .string ⟨s.op.til.toArray⟩, .int .i64 s.op.n, .int .i64 s.op.snap, kv] ∧ Blk ((w.alloc (.cells #[.int .i64 s.kind, .int .i64 s.a, .int .i64 s.b, .int .i64 s.c, .int .i64 s.op.kind, wv, .bool s.op.sync, .string ⟨s.op.key.toArray⟩, .string ⟨s.op.til.toArray⟩, .int .i64 s.op.n, .int .i64 s.op.snap, kv] 69)).alloc (.cells #[.int .i64 s.kind, .int .i64 s.a, .int .i64 s.b, .int .i64 s.c, .int .i64 s.op.kind, wu, .bool s.op.sync, .string ⟨s.op.key.toArray⟩, .string ⟨s.op.til.toArray⟩, .int .i64 s.op.n, .int .i64 s.op.snap, ku] 69)) (w.heap.size + 1) 69 #[.int .i64 s.kind, .int .i64 s.a, .int .i64 s.b, .int .i64 s.c, .int .i64 s.op.kind, wu, .bool s.op.sync, .string ⟨s.op.key.toArray⟩, .string ⟨s.op.til.toArray⟩, .int .i64 s.op.n, .int .i64 s.op.snap, ku] := ⟨((Mod.refl [] w).alloc _).alloc _, (Blk.new _ _ _).alloc _, Blk.newAt _ _ _ (by simp)⟩
  have hW : ((w.alloc (.cells #[.int .i64 s.kind, .int .i64 s.a, .int .i64 s.b, .int .i64 s.c, .int .i64 s.op.kind, wv, .bool s.op.sync, .string ⟨s.op.key.toArray⟩, .string ⟨s.op.til.toArray⟩, .int .i64 s.op.n, .int .i64 s.op.snap, kv] 69)).alloc (.cells #[.int .i64 s.kind, .int .i64 s.a, .int .i64 s.b, .int .i64 s.c, .int .i64 s.op.kind, wu, .bool s.op.sync, .string ⟨s.op.key.toArray⟩, .string ⟨s.op.til.toArray⟩, .int .i64 s.op.n, .int .i64 s.op.snap, ku] 69)).heap.size = w.heap.size + 2 := by simp
  generalize ((w.alloc (.cells #[.int .i64 s.kind, .int .i64 s.a, .int .i64 s.b, .int .i64 s.c, .int .i64 s.op.kind, wv, .bool s.op.sync, .string ⟨s.op.key.toArray⟩, .string ⟨s.op.til.toArray⟩, .int .i64 s.op.n, .int .i64 s.op.snap, kv] 69)).alloc (.cells #[.int .i64 s.kind, .int .i64 s.a, .int .i64 s.b, .int .i64 s.c, .int .i64 s.op.kind, wu, .bool s.op.sync, .string ⟨s.op.key.toArray⟩, .string ⟨s.op.til.toArray⟩, .int .i64 s.op.n, .int .i64 s.op.snap, ku] 69)) = W at HC hW ⊢
  refine region_C (fun X => Mod [] w X ∧ Blk X w.heap.size 69 #[.int .i64 s.kind, .int .i64 s.a, .int .i64 s.b, .int .i64 s.c, .int .i64 s.op.kind, wv, .bool s.op.sync, .string ⟨s.op.key.toArray⟩, .string ⟨s.op.til.toArray⟩, .int .i64 s.op.n, .int .i64 s.op.snap, kv] ∧ Blk X (w.heap.size + 1) 69 #[.int .i64 s.kind, .int .i64 s.a, .int .i64 s.b, .int .i64 s.c, .int .i64 s.op.kind, wu, .bool s.op.sync, .string ⟨s.op.key.toArray⟩, .string ⟨s.op.til.toArray⟩, .int .i64 s.op.n, .int .i64 s.op.snap, ku]) (by kernel_rfl) (fun _ _ _ _ _ h => h) (fun hQp => ?_)
  have HC0 := Lib.hid HC
  replace HC := And.intro HC.1.drew (And.intro HC.2.1.drew HC.2.2.drew)
  simp only [List.length_cons, List.length_nil]
  refine anyC_take (i := 0) (v := ?_) (a' := ?_) HC rfl rfl (by kernel_rfl) (by kernel_rfl) (by kernel_rfl) hQp (by rfl) ?_ ?_ ?_
  rotate_left 2
  · intro X hX
    go_simp
    rfl
  · simp [Act.put]
    rfl
  refine anyC_take (i := 1) (v := .agg #[.int .i64 s.op.kind, wv, .bool s.op.sync, .string ⟨s.op.key.toArray⟩, .string ⟨s.op.til.toArray⟩, .int .i64 s.op.n, .int .i64 s.op.snap]) (a' := ?_) HC rfl rfl (by kernel_rfl) (by kernel_rfl) (by kernel_rfl) hQp (by rfl) ?_ ?_ ?_
  rotate_left 1
  · intro X hX
    apply exec_load_mid 67 (hc := op_range hX.2.1) (hu := Tryz.underlying67) (hd := rfl) (hi := by kernel_rfl)
    all_goals rfl
  · simp [Act.put]
    rfl
  refine anyC_take (i := 2) (v := ?_) (a' := ?_) HC rfl rfl (by kernel_rfl) (by kernel_rfl) (by kernel_rfl) hQp (by rfl) ?_ ?_ ?_
  rotate_left 2
  · intro X hX
    go_simp
    rfl
  · simp [Act.put]
    rfl
  refine anyC_take (i := 3) (v := .agg #[.int .i64 s.op.kind, wu, .bool s.op.sync, .string ⟨s.op.key.toArray⟩, .string ⟨s.op.til.toArray⟩, .int .i64 s.op.n, .int .i64 s.op.snap]) (a' := ?_) HC rfl rfl (by kernel_rfl) (by kernel_rfl) (by kernel_rfl) hQp (by rfl) ?_ ?_ ?_
  rotate_left 1
  · intro X hX
    apply exec_load_mid 67 (hc := op_range hX.2.2) (hu := Tryz.underlying67) (hd := rfl) (hi := by kernel_rfl)
    all_goals rfl
  · simp [Act.put]
    rfl
  refine anyC_two (i := 4) (j := 5) (by kernel_rfl) rfl rfl (by rfl) (by rfl) ?_ ?_
  ·
    unfold Oper.wp
    go_simp
    have hz1 : Blk (W.alloc (.cells #[.int .i64 0, .slice none 0 0, .bool false, .string ⟨#[]⟩, .string ⟨#[]⟩, .int .i64 0, .int .i64 0] 67)).drew (w.heap.size + 2) 67 #[.int .i64 0, .slice none 0 0, .bool false, .string ⟨#[]⟩, .string ⟨#[]⟩, .int .i64 0, .int .i64 0] := (Blk.newAt W 67 #[.int .i64 0, .slice none 0 0, .bool false, .string ⟨#[]⟩, .string ⟨#[]⟩, .int .i64 0, .int .i64 0] hW.symm).drew
    have HC1 := And.intro (HC0.out.1.alloc (.cells #[.int .i64 0, .slice none 0 0, .bool false, .string ⟨#[]⟩, .string ⟨#[]⟩, .int .i64 0, .int .i64 0] 67)).drew (And.intro (HC0.out.2.1.alloc (.cells #[.int .i64 0, .slice none 0 0, .bool false, .string ⟨#[]⟩, .string ⟨#[]⟩, .int .i64 0, .int .i64 0] 67)).drew (HC0.out.2.2.alloc (.cells #[.int .i64 0, .slice none 0 0, .bool false, .string ⟨#[]⟩, .string ⟨#[]⟩, .int .i64 0, .int .i64 0] 67)).drew)
    have hs1 : (W.alloc (.cells #[.int .i64 0, .slice none 0 0, .bool false, .string ⟨#[]⟩, .string ⟨#[]⟩, .int .i64 0, .int .i64 0] 67)).drew.heap.size = w.heap.size + 3 := by simp [hW]
    refine ⟨HC1, ?_⟩
    generalize (W.alloc (.cells #[.int .i64 0, .slice none 0 0, .bool false, .string ⟨#[]⟩, .string ⟨#[]⟩, .int .i64 0, .int .i64 0] 67)).drew = X1 at hz1 HC1 hs1 ⊢
    refine anyC_step (i := 5) (by kernel_rfl) rfl (by rfl) ?_
    unfold Oper.wp
    go_simp
    have hz2 : Blk (X1.alloc (.cells #[.int .i64 0, .slice none 0 0, .bool false, .string ⟨#[]⟩, .string ⟨#[]⟩, .int .i64 0, .int .i64 0] 67)) (w.heap.size + 3) 67 #[.int .i64 0, .slice none 0 0, .bool false, .string ⟨#[]⟩, .string ⟨#[]⟩, .int .i64 0, .int .i64 0] := Blk.newAt X1 67 #[.int .i64 0, .slice none 0 0, .bool false, .string ⟨#[]⟩, .string ⟨#[]⟩, .int .i64 0, .int .i64 0] hs1.symm
    have hz3 := hz1.alloc (.cells #[.int .i64 0, .slice none 0 0, .bool false, .string ⟨#[]⟩, .string ⟨#[]⟩, .int .i64 0, .int .i64 0] 67)
    have HC2 := And.intro (HC1.1.alloc (.cells #[.int .i64 0, .slice none 0 0, .bool false, .string ⟨#[]⟩, .string ⟨#[]⟩, .int .i64 0, .int .i64 0] 67)) (And.intro (HC1.2.1.alloc (.cells #[.int .i64 0, .slice none 0 0, .bool false, .string ⟨#[]⟩, .string ⟨#[]⟩, .int .i64 0, .int .i64 0] 67)) (HC1.2.2.alloc (.cells #[.int .i64 0, .slice none 0 0, .bool false, .string ⟨#[]⟩, .string ⟨#[]⟩, .int .i64 0, .int .i64 0] 67)))
    refine ⟨HC2, ?_⟩
    generalize (X1.alloc (.cells #[.int .i64 0, .slice none 0 0, .bool false, .string ⟨#[]⟩, .string ⟨#[]⟩, .int .i64 0, .int .i64 0] 67)) = X2 at hz2 hz3 HC2 ⊢
    refine anyC_step (i := 6) (by kernel_rfl) rfl (by rfl) ?_
    refine wp_store_row 67 _ _ rfl (w.heap.size + 2) #[.int .i64 s.op.kind, wv, .bool s.op.sync, .string ⟨s.op.key.toArray⟩, .string ⟨s.op.til.toArray⟩, .int .i64 s.op.n, .int .i64 s.op.snap] rfl rfl 67 #[.int .i64 0, .slice none 0 0, .bool false, .string ⟨#[]⟩, .string ⟨#[]⟩, .int .i64 0, .int .i64 0] hz3 op_size rfl (op_one hwv) ?_
    have hm3 : Mod [(w.heap.size + 2)] X2 (X2.setRow (w.heap.size + 2) #[.int .i64 s.op.kind, wv, .bool s.op.sync, .string ⟨s.op.key.toArray⟩, .string ⟨s.op.til.toArray⟩, .int .i64 s.op.n, .int .i64 s.op.snap]) := (Mod.refl _ _).setRow (.inl (by simp)) _
    have hy5 : Blk (X2.setRow (w.heap.size + 2) #[.int .i64 s.op.kind, wv, .bool s.op.sync, .string ⟨s.op.key.toArray⟩, .string ⟨s.op.til.toArray⟩, .int .i64 s.op.n, .int .i64 s.op.snap]) (w.heap.size + 2) 67 #[.int .i64 s.op.kind, wv, .bool s.op.sync, .string ⟨s.op.key.toArray⟩, .string ⟨s.op.til.toArray⟩, .int .i64 s.op.n, .int .i64 s.op.snap] := Blk.setRow hz3
    have hy6 := hm3.blk hz2 (by simp)
    have HC3 := And.intro (HC2.1.then hm3 (by simp)) (And.intro (hm3.blk HC2.2.1 (by simp)) (hm3.blk HC2.2.2 (by simp)))
    refine ⟨HC3, ?_⟩
    generalize (X2.setRow (w.heap.size + 2) #[.int .i64 s.op.kind, wv, .bool s.op.sync, .string ⟨s.op.key.toArray⟩, .string ⟨s.op.til.toArray⟩, .int .i64 s.op.n, .int .i64 s.op.snap]) = X3 at hy5 hy6 HC3 ⊢
    simp only [Act.put]
    refine anyC_step (i := 7) (by kernel_rfl) rfl (by rfl) ?_
    refine wp_store_row 67 _ _ rfl (w.heap.size + 3) #[.int .i64 s.op.kind, wu, .bool s.op.sync, .string ⟨s.op.key.toArray⟩, .string ⟨s.op.til.toArray⟩, .int .i64 s.op.n, .int .i64 s.op.snap] rfl rfl 67 #[.int .i64 0, .slice none 0 0, .bool false, .string ⟨#[]⟩, .string ⟨#[]⟩, .int .i64 0, .int .i64 0] hy6 op_size rfl (op_one hwu) ?_
    have hm4 : Mod [(w.heap.size + 3)] X3 (X3.setRow (w.heap.size + 3) #[.int .i64 s.op.kind, wu, .bool s.op.sync, .string ⟨s.op.key.toArray⟩, .string ⟨s.op.til.toArray⟩, .int .i64 s.op.n, .int .i64 s.op.snap]) := (Mod.refl _ _).setRow (.inl (by simp)) _
    have HC4 := And.intro (HC3.1.then hm4 (by simp)) (And.intro (hm4.blk HC3.2.1 (by simp)) (And.intro (hm4.blk HC3.2.2 (by simp)) (And.intro (hm4.blk hy5 (by simp)) (Blk.setRow (cs' := #[.int .i64 s.op.kind, wu, .bool s.op.sync, .string ⟨s.op.key.toArray⟩, .string ⟨s.op.til.toArray⟩, .int .i64 s.op.n, .int .i64 s.op.snap]) hy6))))
    refine ⟨⟨HC4.1, HC4.2.1, HC4.2.2.1⟩, ?_⟩
    generalize (X3.setRow (w.heap.size + 3) #[.int .i64 s.op.kind, wu, .bool s.op.sync, .string ⟨s.op.key.toArray⟩, .string ⟨s.op.til.toArray⟩, .int .i64 s.op.n, .int .i64 s.op.snap]) = X4 at HC4 ⊢
    simp only [Act.put]
    refine anyC_done (by kernel_rfl) ?_ _
    clear hQp HC HC1 HC2 HC3 hz1 hz2 hz3 hy5 hy6 hm3 hm4 hs1
    have HC := HC4
    clear HC4
    have ha0 := HC.2.1.cell 0
    have ha1 := HC.2.1.cell 1
    have ha2 := HC.2.1.cell 2
    have ha3 := HC.2.1.cell 3
    have ha4 := HC.2.1.cell 4
    have ha5 := HC.2.1.cell 5
    have ha6 := HC.2.1.cell 6
    have ha7 := HC.2.1.cell 7
    have ha8 := HC.2.1.cell 8
    have ha9 := HC.2.1.cell 9
    have ha10 := HC.2.1.cell 10
    have ha11 := HC.2.1.cell 11
    have haf0 := HC.2.1.frozen 0
    have haf1 := HC.2.1.frozen 1
    have haf2 := HC.2.1.frozen 2
    have haf3 := HC.2.1.frozen 3
    have haf4 := HC.2.1.frozen 4
    have haf5 := HC.2.1.frozen 5
    have haf6 := HC.2.1.frozen 6
    have haf7 := HC.2.1.frozen 7
    have haf8 := HC.2.1.frozen 8
    have haf9 := HC.2.1.frozen 9
    have haf10 := HC.2.1.frozen 10
    have haf11 := HC.2.1.frozen 11
    simp at ha0 ha1 ha2 ha3 ha4 ha5 ha6 ha7 ha8 ha9 ha10 ha11
    have hb0 := HC.2.2.1.cell 0
    have hb1 := HC.2.2.1.cell 1
    have hb2 := HC.2.2.1.cell 2
    have hb3 := HC.2.2.1.cell 3
    have hb4 := HC.2.2.1.cell 4
    have hb5 := HC.2.2.1.cell 5
    have hb6 := HC.2.2.1.cell 6
    have hb7 := HC.2.2.1.cell 7
    have hb8 := HC.2.2.1.cell 8
    have hb9 := HC.2.2.1.cell 9
    have hb10 := HC.2.2.1.cell 10
    have hb11 := HC.2.2.1.cell 11
    have hbf0 := HC.2.2.1.frozen 0
    have hbf1 := HC.2.2.1.frozen 1
    have hbf2 := HC.2.2.1.frozen 2
    have hbf3 := HC.2.2.1.frozen 3
    have hbf4 := HC.2.2.1.frozen 4
    have hbf5 := HC.2.2.1.frozen 5
    have hbf6 := HC.2.2.1.frozen 6
    have hbf7 := HC.2.2.1.frozen 7
    have hbf8 := HC.2.2.1.frozen 8
    have hbf9 := HC.2.2.1.frozen 9
    have hbf10 := HC.2.2.1.frozen 10
    have hbf11 := HC.2.2.1.frozen 11
    simp at hb0 hb1 hb2 hb3 hb4 hb5 hb6 hb7 hb8 hb9 hb10 hb11
    have hc0 := HC.2.2.2.1.cell 0
    have hc1 := HC.2.2.2.1.cell 1
    have hc2 := HC.2.2.2.1.cell 2
    have hc3 := HC.2.2.2.1.cell 3
    have hc4 := HC.2.2.2.1.cell 4
    have hc5 := HC.2.2.2.1.cell 5
    have hc6 := HC.2.2.2.1.cell 6
    have hcf0 := HC.2.2.2.1.frozen 0
    have hcf1 := HC.2.2.2.1.frozen 1
    have hcf2 := HC.2.2.2.1.frozen 2
    have hcf3 := HC.2.2.2.1.frozen 3
    have hcf4 := HC.2.2.2.1.frozen 4
    have hcf5 := HC.2.2.2.1.frozen 5
    have hcf6 := HC.2.2.2.1.frozen 6
    simp at hc0 hc1 hc2 hc3 hc4 hc5 hc6
    have hd0 := HC.2.2.2.2.cell 0
    have hd1 := HC.2.2.2.2.cell 1
    have hd2 := HC.2.2.2.2.cell 2
    have hd3 := HC.2.2.2.2.cell 3
    have hd4 := HC.2.2.2.2.cell 4
    have hd5 := HC.2.2.2.2.cell 5
    have hd6 := HC.2.2.2.2.cell 6
    have hdf0 := HC.2.2.2.2.frozen 0
    have hdf1 := HC.2.2.2.2.frozen 1
    have hdf2 := HC.2.2.2.2.frozen 2
    have hdf3 := HC.2.2.2.2.frozen 3
    have hdf4 := HC.2.2.2.2.frozen 4
    have hdf5 := HC.2.2.2.2.frozen 5
    have hdf6 := HC.2.2.2.2.frozen 6
    simp at hd0 hd1 hd2 hd3 hd4 hd5 hd6
    have H4 := Lib.hid HC
    clear HC hW HC0
    go_wp2_with fail
    refine (equal_ints _ _ _ s.keep (HS.out.2.2.1.new H4.out.1) (HS.out.2.2.2.1.new H4.out.1) HS.out.2.2.2.2.2).mono ?_
    rintro e X5 ⟨rfl, hm5⟩
    replace H4 := Lib.hid (And.intro (H4.out.1.trans hm5) (And.intro (hm5.blk H4.out.2.1 (by simp)) (And.intro (hm5.blk H4.out.2.2.1 (by simp)) (And.intro (hm5.blk H4.out.2.2.2.1 (by simp)) (hm5.blk H4.out.2.2.2.2 (by simp))))))
    clear hm5
    have he0 := H4.out.2.2.2.1.cell 0
    have he1 := H4.out.2.2.2.1.cell 1
    have he2 := H4.out.2.2.2.1.cell 2
    have he3 := H4.out.2.2.2.1.cell 3
    have he4 := H4.out.2.2.2.1.cell 4
    have he5 := H4.out.2.2.2.1.cell 5
    have he6 := H4.out.2.2.2.1.cell 6
    have hef0 := H4.out.2.2.2.1.frozen 0
    have hef1 := H4.out.2.2.2.1.frozen 1
    have hef2 := H4.out.2.2.2.1.frozen 2
    have hef3 := H4.out.2.2.2.1.frozen 3
    have hef4 := H4.out.2.2.2.1.frozen 4
    have hef5 := H4.out.2.2.2.1.frozen 5
    have hef6 := H4.out.2.2.2.1.frozen 6
    simp at he0 he1 he2 he3 he4 he5 he6
    have hf0 := H4.out.2.2.2.2.cell 0
    have hf1 := H4.out.2.2.2.2.cell 1
    have hf2 := H4.out.2.2.2.2.cell 2
    have hf3 := H4.out.2.2.2.2.cell 3
    have hf4 := H4.out.2.2.2.2.cell 4
    have hf5 := H4.out.2.2.2.2.cell 5
    have hf6 := H4.out.2.2.2.2.cell 6
    have hff0 := H4.out.2.2.2.2.frozen 0
    have hff1 := H4.out.2.2.2.2.frozen 1
    have hff2 := H4.out.2.2.2.2.frozen 2
    have hff3 := H4.out.2.2.2.2.frozen 3
    have hff4 := H4.out.2.2.2.2.frozen 4
    have hff5 := H4.out.2.2.2.2.frozen 5
    have hff6 := H4.out.2.2.2.2.frozen 6
    simp at hf0 hf1 hf2 hf3 hf4 hf5 hf6
    go_wp2_with fail
    refine (equal_writes _ _ _ s.op.writes (HS.out.1.new H4.out.1) (HS.out.2.1.new H4.out.1) HS.out.2.2.2.2.1).mono ?_
    rintro e X6 ⟨rfl, hm6⟩
    replace H4 := Lib.hid (And.intro (H4.out.1.trans hm6) (And.intro (hm6.blk H4.out.2.2.2.1 (by simp)) (hm6.blk H4.out.2.2.2.2 (by simp))))
    clear hm6
    have hg0 := H4.out.2.1.cell 0
    have hg1 := H4.out.2.1.cell 1
    have hg2 := H4.out.2.1.cell 2
    have hg3 := H4.out.2.1.cell 3
    have hg4 := H4.out.2.1.cell 4
    have hg5 := H4.out.2.1.cell 5
    have hg6 := H4.out.2.1.cell 6
    have hgf0 := H4.out.2.1.frozen 0
    have hgf1 := H4.out.2.1.frozen 1
    have hgf2 := H4.out.2.1.frozen 2
    have hgf3 := H4.out.2.1.frozen 3
    have hgf4 := H4.out.2.1.frozen 4
    have hgf5 := H4.out.2.1.frozen 5
    have hgf6 := H4.out.2.1.frozen 6
    simp at hg0 hg1 hg2 hg3 hg4 hg5 hg6
    have hh0 := H4.out.2.2.cell 0
    have hh1 := H4.out.2.2.cell 1
    have hh2 := H4.out.2.2.cell 2
    have hh3 := H4.out.2.2.cell 3
    have hh4 := H4.out.2.2.cell 4
    have hh5 := H4.out.2.2.cell 5
    have hh6 := H4.out.2.2.cell 6
    have hhf0 := H4.out.2.2.frozen 0
    have hhf1 := H4.out.2.2.frozen 1
    have hhf2 := H4.out.2.2.frozen 2
    have hhf3 := H4.out.2.2.frozen 3
    have hhf4 := H4.out.2.2.frozen 4
    have hhf5 := H4.out.2.2.frozen 5
    have hhf6 := H4.out.2.2.frozen 6
    simp at hh0 hh1 hh2 hh3 hh4 hh5 hh6
    go_wp2
    go_ret
    exact ⟨rfl, H4.out.1⟩

  ·
    unfold Oper.wp
    go_simp
    have hz1 : Blk (W.alloc (.cells #[.int .i64 0, .slice none 0 0, .bool false, .string ⟨#[]⟩, .string ⟨#[]⟩, .int .i64 0, .int .i64 0] 67)).drew (w.heap.size + 2) 67 #[.int .i64 0, .slice none 0 0, .bool false, .string ⟨#[]⟩, .string ⟨#[]⟩, .int .i64 0, .int .i64 0] := (Blk.newAt W 67 #[.int .i64 0, .slice none 0 0, .bool false, .string ⟨#[]⟩, .string ⟨#[]⟩, .int .i64 0, .int .i64 0] hW.symm).drew
    have HC1 := And.intro (HC0.out.1.alloc (.cells #[.int .i64 0, .slice none 0 0, .bool false, .string ⟨#[]⟩, .string ⟨#[]⟩, .int .i64 0, .int .i64 0] 67)).drew (And.intro (HC0.out.2.1.alloc (.cells #[.int .i64 0, .slice none 0 0, .bool false, .string ⟨#[]⟩, .string ⟨#[]⟩, .int .i64 0, .int .i64 0] 67)).drew (HC0.out.2.2.alloc (.cells #[.int .i64 0, .slice none 0 0, .bool false, .string ⟨#[]⟩, .string ⟨#[]⟩, .int .i64 0, .int .i64 0] 67)).drew)
    have hs1 : (W.alloc (.cells #[.int .i64 0, .slice none 0 0, .bool false, .string ⟨#[]⟩, .string ⟨#[]⟩, .int .i64 0, .int .i64 0] 67)).drew.heap.size = w.heap.size + 3 := by simp [hW]
    refine ⟨HC1, ?_⟩
    generalize (W.alloc (.cells #[.int .i64 0, .slice none 0 0, .bool false, .string ⟨#[]⟩, .string ⟨#[]⟩, .int .i64 0, .int .i64 0] 67)).drew = X1 at hz1 HC1 hs1 ⊢
    refine anyC_step (i := 4) (by kernel_rfl) rfl (by rfl) ?_
    unfold Oper.wp
    go_simp
    have hz2 : Blk (X1.alloc (.cells #[.int .i64 0, .slice none 0 0, .bool false, .string ⟨#[]⟩, .string ⟨#[]⟩, .int .i64 0, .int .i64 0] 67)) (w.heap.size + 3) 67 #[.int .i64 0, .slice none 0 0, .bool false, .string ⟨#[]⟩, .string ⟨#[]⟩, .int .i64 0, .int .i64 0] := Blk.newAt X1 67 #[.int .i64 0, .slice none 0 0, .bool false, .string ⟨#[]⟩, .string ⟨#[]⟩, .int .i64 0, .int .i64 0] hs1.symm
    have hz3 := hz1.alloc (.cells #[.int .i64 0, .slice none 0 0, .bool false, .string ⟨#[]⟩, .string ⟨#[]⟩, .int .i64 0, .int .i64 0] 67)
    have HC2 := And.intro (HC1.1.alloc (.cells #[.int .i64 0, .slice none 0 0, .bool false, .string ⟨#[]⟩, .string ⟨#[]⟩, .int .i64 0, .int .i64 0] 67)) (And.intro (HC1.2.1.alloc (.cells #[.int .i64 0, .slice none 0 0, .bool false, .string ⟨#[]⟩, .string ⟨#[]⟩, .int .i64 0, .int .i64 0] 67)) (HC1.2.2.alloc (.cells #[.int .i64 0, .slice none 0 0, .bool false, .string ⟨#[]⟩, .string ⟨#[]⟩, .int .i64 0, .int .i64 0] 67)))
    refine ⟨HC2, ?_⟩
    generalize (X1.alloc (.cells #[.int .i64 0, .slice none 0 0, .bool false, .string ⟨#[]⟩, .string ⟨#[]⟩, .int .i64 0, .int .i64 0] 67)) = X2 at hz2 hz3 HC2 ⊢
    refine anyC_step (i := 6) (by kernel_rfl) rfl (by rfl) ?_
    refine wp_store_row 67 _ _ rfl (w.heap.size + 3) #[.int .i64 s.op.kind, wv, .bool s.op.sync, .string ⟨s.op.key.toArray⟩, .string ⟨s.op.til.toArray⟩, .int .i64 s.op.n, .int .i64 s.op.snap] rfl rfl 67 #[.int .i64 0, .slice none 0 0, .bool false, .string ⟨#[]⟩, .string ⟨#[]⟩, .int .i64 0, .int .i64 0] hz2 op_size rfl (op_one hwv) ?_
    have hm3 : Mod [(w.heap.size + 3)] X2 (X2.setRow (w.heap.size + 3) #[.int .i64 s.op.kind, wv, .bool s.op.sync, .string ⟨s.op.key.toArray⟩, .string ⟨s.op.til.toArray⟩, .int .i64 s.op.n, .int .i64 s.op.snap]) := (Mod.refl _ _).setRow (.inl (by simp)) _
    have hy5 : Blk (X2.setRow (w.heap.size + 3) #[.int .i64 s.op.kind, wv, .bool s.op.sync, .string ⟨s.op.key.toArray⟩, .string ⟨s.op.til.toArray⟩, .int .i64 s.op.n, .int .i64 s.op.snap]) (w.heap.size + 3) 67 #[.int .i64 s.op.kind, wv, .bool s.op.sync, .string ⟨s.op.key.toArray⟩, .string ⟨s.op.til.toArray⟩, .int .i64 s.op.n, .int .i64 s.op.snap] := Blk.setRow hz2
    have hy6 := hm3.blk hz3 (by simp)
    have HC3 := And.intro (HC2.1.then hm3 (by simp)) (And.intro (hm3.blk HC2.2.1 (by simp)) (hm3.blk HC2.2.2 (by simp)))
    refine ⟨HC3, ?_⟩
    generalize (X2.setRow (w.heap.size + 3) #[.int .i64 s.op.kind, wv, .bool s.op.sync, .string ⟨s.op.key.toArray⟩, .string ⟨s.op.til.toArray⟩, .int .i64 s.op.n, .int .i64 s.op.snap]) = X3 at hy5 hy6 HC3 ⊢
    simp only [Act.put]
    refine anyC_step (i := 7) (by kernel_rfl) rfl (by rfl) ?_
    refine wp_store_row 67 _ _ rfl (w.heap.size + 2) #[.int .i64 s.op.kind, wu, .bool s.op.sync, .string ⟨s.op.key.toArray⟩, .string ⟨s.op.til.toArray⟩, .int .i64 s.op.n, .int .i64 s.op.snap] rfl rfl 67 #[.int .i64 0, .slice none 0 0, .bool false, .string ⟨#[]⟩, .string ⟨#[]⟩, .int .i64 0, .int .i64 0] hy6 op_size rfl (op_one hwu) ?_
    have hm4 : Mod [(w.heap.size + 2)] X3 (X3.setRow (w.heap.size + 2) #[.int .i64 s.op.kind, wu, .bool s.op.sync, .string ⟨s.op.key.toArray⟩, .string ⟨s.op.til.toArray⟩, .int .i64 s.op.n, .int .i64 s.op.snap]) := (Mod.refl _ _).setRow (.inl (by simp)) _
    have HC4 := And.intro (HC3.1.then hm4 (by simp)) (And.intro (hm4.blk HC3.2.1 (by simp)) (And.intro (hm4.blk HC3.2.2 (by simp)) (And.intro (hm4.blk hy5 (by simp)) (Blk.setRow (cs' := #[.int .i64 s.op.kind, wu, .bool s.op.sync, .string ⟨s.op.key.toArray⟩, .string ⟨s.op.til.toArray⟩, .int .i64 s.op.n, .int .i64 s.op.snap]) hy6))))
    refine ⟨⟨HC4.1, HC4.2.1, HC4.2.2.1⟩, ?_⟩
    generalize (X3.setRow (w.heap.size + 2) #[.int .i64 s.op.kind, wu, .bool s.op.sync, .string ⟨s.op.key.toArray⟩, .string ⟨s.op.til.toArray⟩, .int .i64 s.op.n, .int .i64 s.op.snap]) = X4 at HC4 ⊢
    simp only [Act.put]
    refine anyC_done (by kernel_rfl) ?_ _
    clear hQp HC HC1 HC2 HC3 hz1 hz2 hz3 hy5 hy6 hm3 hm4 hs1
    have HC := HC4
    clear HC4
    have ha0 := HC.2.1.cell 0
    have ha1 := HC.2.1.cell 1
    have ha2 := HC.2.1.cell 2
    have ha3 := HC.2.1.cell 3
    have ha4 := HC.2.1.cell 4
    have ha5 := HC.2.1.cell 5
    have ha6 := HC.2.1.cell 6
    have ha7 := HC.2.1.cell 7
    have ha8 := HC.2.1.cell 8
    have ha9 := HC.2.1.cell 9
    have ha10 := HC.2.1.cell 10
    have ha11 := HC.2.1.cell 11
    have haf0 := HC.2.1.frozen 0
    have haf1 := HC.2.1.frozen 1
    have haf2 := HC.2.1.frozen 2
    have haf3 := HC.2.1.frozen 3
    have haf4 := HC.2.1.frozen 4
    have haf5 := HC.2.1.frozen 5
    have haf6 := HC.2.1.frozen 6
    have haf7 := HC.2.1.frozen 7
    have haf8 := HC.2.1.frozen 8
    have haf9 := HC.2.1.frozen 9
    have haf10 := HC.2.1.frozen 10
    have haf11 := HC.2.1.frozen 11
    simp at ha0 ha1 ha2 ha3 ha4 ha5 ha6 ha7 ha8 ha9 ha10 ha11
    have hb0 := HC.2.2.1.cell 0
    have hb1 := HC.2.2.1.cell 1
    have hb2 := HC.2.2.1.cell 2
    have hb3 := HC.2.2.1.cell 3
    have hb4 := HC.2.2.1.cell 4
    have hb5 := HC.2.2.1.cell 5
    have hb6 := HC.2.2.1.cell 6
    have hb7 := HC.2.2.1.cell 7
    have hb8 := HC.2.2.1.cell 8
    have hb9 := HC.2.2.1.cell 9
    have hb10 := HC.2.2.1.cell 10
    have hb11 := HC.2.2.1.cell 11
    have hbf0 := HC.2.2.1.frozen 0
    have hbf1 := HC.2.2.1.frozen 1
    have hbf2 := HC.2.2.1.frozen 2
    have hbf3 := HC.2.2.1.frozen 3
    have hbf4 := HC.2.2.1.frozen 4
    have hbf5 := HC.2.2.1.frozen 5
    have hbf6 := HC.2.2.1.frozen 6
    have hbf7 := HC.2.2.1.frozen 7
    have hbf8 := HC.2.2.1.frozen 8
    have hbf9 := HC.2.2.1.frozen 9
    have hbf10 := HC.2.2.1.frozen 10
    have hbf11 := HC.2.2.1.frozen 11
    simp at hb0 hb1 hb2 hb3 hb4 hb5 hb6 hb7 hb8 hb9 hb10 hb11
    have hc0 := HC.2.2.2.1.cell 0
    have hc1 := HC.2.2.2.1.cell 1
    have hc2 := HC.2.2.2.1.cell 2
    have hc3 := HC.2.2.2.1.cell 3
    have hc4 := HC.2.2.2.1.cell 4
    have hc5 := HC.2.2.2.1.cell 5
    have hc6 := HC.2.2.2.1.cell 6
    have hcf0 := HC.2.2.2.1.frozen 0
    have hcf1 := HC.2.2.2.1.frozen 1
    have hcf2 := HC.2.2.2.1.frozen 2
    have hcf3 := HC.2.2.2.1.frozen 3
    have hcf4 := HC.2.2.2.1.frozen 4
    have hcf5 := HC.2.2.2.1.frozen 5
    have hcf6 := HC.2.2.2.1.frozen 6
    simp at hc0 hc1 hc2 hc3 hc4 hc5 hc6
    have hd0 := HC.2.2.2.2.cell 0
    have hd1 := HC.2.2.2.2.cell 1
    have hd2 := HC.2.2.2.2.cell 2
    have hd3 := HC.2.2.2.2.cell 3
    have hd4 := HC.2.2.2.2.cell 4
    have hd5 := HC.2.2.2.2.cell 5
    have hd6 := HC.2.2.2.2.cell 6
    have hdf0 := HC.2.2.2.2.frozen 0
    have hdf1 := HC.2.2.2.2.frozen 1
    have hdf2 := HC.2.2.2.2.frozen 2
    have hdf3 := HC.2.2.2.2.frozen 3
    have hdf4 := HC.2.2.2.2.frozen 4
    have hdf5 := HC.2.2.2.2.frozen 5
    have hdf6 := HC.2.2.2.2.frozen 6
    simp at hd0 hd1 hd2 hd3 hd4 hd5 hd6
    have H4 := Lib.hid HC
    clear HC hW HC0
    go_wp2_with fail
    refine (equal_ints _ _ _ s.keep (HS.out.2.2.1.new H4.out.1) (HS.out.2.2.2.1.new H4.out.1) HS.out.2.2.2.2.2).mono ?_
    rintro e X5 ⟨rfl, hm5⟩
    replace H4 := Lib.hid (And.intro (H4.out.1.trans hm5) (And.intro (hm5.blk H4.out.2.1 (by simp)) (And.intro (hm5.blk H4.out.2.2.1 (by simp)) (And.intro (hm5.blk H4.out.2.2.2.1 (by simp)) (hm5.blk H4.out.2.2.2.2 (by simp))))))
    clear hm5
    have he0 := H4.out.2.2.2.1.cell 0
    have he1 := H4.out.2.2.2.1.cell 1
    have he2 := H4.out.2.2.2.1.cell 2
    have he3 := H4.out.2.2.2.1.cell 3
    have he4 := H4.out.2.2.2.1.cell 4
    have he5 := H4.out.2.2.2.1.cell 5
    have he6 := H4.out.2.2.2.1.cell 6
    have hef0 := H4.out.2.2.2.1.frozen 0
    have hef1 := H4.out.2.2.2.1.frozen 1
    have hef2 := H4.out.2.2.2.1.frozen 2
    have hef3 := H4.out.2.2.2.1.frozen 3
    have hef4 := H4.out.2.2.2.1.frozen 4
    have hef5 := H4.out.2.2.2.1.frozen 5
    have hef6 := H4.out.2.2.2.1.frozen 6
    simp at he0 he1 he2 he3 he4 he5 he6
    have hf0 := H4.out.2.2.2.2.cell 0
    have hf1 := H4.out.2.2.2.2.cell 1
    have hf2 := H4.out.2.2.2.2.cell 2
    have hf3 := H4.out.2.2.2.2.cell 3
    have hf4 := H4.out.2.2.2.2.cell 4
    have hf5 := H4.out.2.2.2.2.cell 5
    have hf6 := H4.out.2.2.2.2.cell 6
    have hff0 := H4.out.2.2.2.2.frozen 0
    have hff1 := H4.out.2.2.2.2.frozen 1
    have hff2 := H4.out.2.2.2.2.frozen 2
    have hff3 := H4.out.2.2.2.2.frozen 3
    have hff4 := H4.out.2.2.2.2.frozen 4
    have hff5 := H4.out.2.2.2.2.frozen 5
    have hff6 := H4.out.2.2.2.2.frozen 6
    simp at hf0 hf1 hf2 hf3 hf4 hf5 hf6
    go_wp2_with fail
    refine (equal_writes _ _ _ s.op.writes (HS.out.1.new H4.out.1) (HS.out.2.1.new H4.out.1) HS.out.2.2.2.2.1).mono ?_
    rintro e X6 ⟨rfl, hm6⟩
    replace H4 := Lib.hid (And.intro (H4.out.1.trans hm6) (And.intro (hm6.blk H4.out.2.2.2.1 (by simp)) (hm6.blk H4.out.2.2.2.2 (by simp))))
    clear hm6
    have hg0 := H4.out.2.1.cell 0
    have hg1 := H4.out.2.1.cell 1
    have hg2 := H4.out.2.1.cell 2
    have hg3 := H4.out.2.1.cell 3
    have hg4 := H4.out.2.1.cell 4
    have hg5 := H4.out.2.1.cell 5
    have hg6 := H4.out.2.1.cell 6
    have hgf0 := H4.out.2.1.frozen 0
    have hgf1 := H4.out.2.1.frozen 1
    have hgf2 := H4.out.2.1.frozen 2
    have hgf3 := H4.out.2.1.frozen 3
    have hgf4 := H4.out.2.1.frozen 4
    have hgf5 := H4.out.2.1.frozen 5
    have hgf6 := H4.out.2.1.frozen 6
    simp at hg0 hg1 hg2 hg3 hg4 hg5 hg6
    have hh0 := H4.out.2.2.cell 0
    have hh1 := H4.out.2.2.cell 1
    have hh2 := H4.out.2.2.cell 2
    have hh3 := H4.out.2.2.cell 3
    have hh4 := H4.out.2.2.cell 4
    have hh5 := H4.out.2.2.cell 5
    have hh6 := H4.out.2.2.cell 6
    have hhf0 := H4.out.2.2.frozen 0
    have hhf1 := H4.out.2.2.frozen 1
    have hhf2 := H4.out.2.2.frozen 2
    have hhf3 := H4.out.2.2.frozen 3
    have hhf4 := H4.out.2.2.frozen 4
    have hhf5 := H4.out.2.2.frozen 5
    have hhf6 := H4.out.2.2.frozen 6
    simp at hh0 hh1 hh2 hh3 hh4 hh5 hh6
    go_wp2
    go_ret
    exact ⟨rfl, H4.out.1⟩

end Go.Proofs.YtjieelmbgfnllaaGreatDoor


/- told: the line, the byte and the number of a fault. Conditions: errors.errorType is laid. -/
import Derived.Test.YtjieelmbgfnllaaGreatDoorScParse
import Derived.Test.YtjieelmbgfnllaaGreatDoorScIs
import Derived.Test.YtjieelmbgfnllaaGreatDoorScOrd
namespace Go.Proofs.YtjieelmbgfnllaaGreatDoor
open Go.RowKit Scr

/-- What told makes of an answer of Parse. -/
def faultV (f : Fault) : Value := .agg #[.int .i64 f.1, .int .i64 f.2.1, .int .i64 f.2.2]

set_option maxRecDepth 100000 in
set_option maxHeartbeats 4000000 in
theorem told_nil (w : World) : Calls Tryz.prog 13 #[.nilIface] w fun e w' => e = .returned (.tuple #[faultV (0, 0, 0), .bool true]) ∧ Mod [] w w' := by
  go_enter Tryz.func13, Tryz.ntmps13
  go_wp2
  exact ret_cell_tmp Tryz.results13 rfl (Blk.new w _ _) Tryz.underlying28 rfl (by kernel_rfl) rfl ⟨rfl, (Mod.refl _ _).alloc _⟩

set_option maxRecDepth 100000 in
set_option maxHeartbeats 4000000 in
theorem told_mis (w : World) (mb : Nat) (f : Fault) (hg : errTypeIs w) (hb : Blk w mb 95 #[.int .i64 f.1, .int .i64 f.2.1, .int .i64 f.2.2]) (he : f.2.2 ≠ 0) :
    Calls Tryz.prog 13 #[.iface 92 (.pointer (some ⟨mb, 0, none⟩))] w fun e w' => e = .returned (.tuple #[faultV f, .bool true]) ∧ Mod [] w w' := by
  have hml := hb.lt
  have hne : ((f.2.2 : Int) != 0) = true := by simp; exact he
  have H := Lib.hid (And.intro hg hb)
  clear hg hb
  go_enter Tryz.func13, Tryz.ntmps13
  go_wp2_with fail
  have hm0 : Mod [] w ((w.alloc (.cells #[.int .i64 0, .int .i64 0, .int .i64 0] 28)).alloc (.cells #[.pointer none] 92)) := ((Mod.refl _ _).alloc _).alloc _
  have hbN : Blk ((w.alloc (.cells #[.int .i64 0, .int .i64 0, .int .i64 0] 28)).alloc (.cells #[.pointer none] 92)) (w.heap.size + 1) 92 #[.pointer none] := Blk.newAt _ _ _ (by simp)
  have hbF : Blk ((w.alloc (.cells #[.int .i64 0, .int .i64 0, .int .i64 0] 28)).alloc (.cells #[.pointer none] 92)) w.heap.size 28 #[.int .i64 0, .int .i64 0, .int .i64 0] := (Blk.new _ _ _).alloc _
  refine (asm_hit ⟨mb, 0, none⟩ ⟨w.heap.size + 1, 0, none⟩ (.pointer none) _ (hm0.cell H.out.1 (by simp)) (hbN.cell 0) (hbN.frozen 0)).mono ?_
  rintro e w1 ⟨rfl, hw1⟩
  have hm1 : Mod [w.heap.size + 1] ((w.alloc (.cells #[.int .i64 0, .int .i64 0, .int .i64 0] 28)).alloc (.cells #[.pointer none] 92)) w1 := by
    rw [hw1]
    exact (((((Mod.refl _ _).alloc _).alloc _).alloc _).alloc _).setCell (by simp) _
  have hb1 : Blk w1 (w.heap.size + 1) 92 #[.pointer (some ⟨mb, 0, none⟩)] := by
    rw [hw1]
    exact ((((hbN.alloc _).alloc _).alloc _).alloc _).set_ 0 _
  clear hw1
  have hmw : Mod [] w w1 := hm0.then hm1 (by simp)
  have hf1 := hmw.blk H.out.2 (by simp)
  have hres := hm1.blk hbF (by simp)
  have hl1 := hb1.lt
  have hl2 := hf1.lt
  have hc0 := hb1.cell 0
  have hcf0 := hb1.frozen 0
  simp at hc0
  have hd0 := hf1.cell 0
  have hd1 := hf1.cell 1
  have hd2 := hf1.cell 2
  have hdf0 := hf1.frozen 0
  have hdf1 := hf1.frozen 1
  have hdf2 := hf1.frozen 2
  simp at hd0 hd1 hd2
  have hr0 := hres.cell 0
  have hr1 := hres.cell 1
  have hr2 := hres.cell 2
  have hrf0 := hres.frozen 0
  have hrf1 := hres.frozen 1
  have hrf2 := hres.frozen 2
  simp at hr0 hr1 hr2
  have H2 := Lib.hid (And.intro hmw (And.intro hb1 (And.intro hf1 hres)))
  clear hm0 hm1 hb1 hmw hf1 hres hbN hbF
  go_wp2
  refine region_C (fun W => ∀ p v, w1.cell? p = some v → p.block ≠ w.heap.size → W.cell? p = some v) (by kernel_rfl) (fun _ _ _ _ _ h => h) (fun hQp => ?_)
  have hC0 : ∀ p v, w1.cell? p = some v → p.block ≠ w.heap.size → w1.drew.cell? p = some v := fun p v h _ => h
  simp only [List.length_cons, List.length_nil]
  refine anyC_take (i := 0) (v := ?_) (a' := ?_) hC0 rfl rfl (by kernel_rfl) (by kernel_rfl) (by kernel_rfl) hQp (by rfl) ?_ ?_ ?_
  rotate_left 2
  · intro W hW
    have h0 := hW _ _ hc0 (by simp)
    have h1 := hW _ _ hd0 (by simp; omega)
    have h2 := hW _ _ hd1 (by simp; omega)
    have h3 := hW _ _ hd2 (by simp; omega)
    go_simp
    rfl
  · simp [Act.put]
    rfl
  refine anyC_take (i := 1) (v := ?_) (a' := ?_) hC0 rfl rfl (by kernel_rfl) (by kernel_rfl) (by kernel_rfl) hQp (by rfl) ?_ ?_ ?_
  rotate_left 2
  · intro W hW
    have h0 := hW _ _ hc0 (by simp)
    have h1 := hW _ _ hd0 (by simp; omega)
    have h2 := hW _ _ hd1 (by simp; omega)
    have h3 := hW _ _ hd2 (by simp; omega)
    go_simp
    rfl
  · simp [Act.put]
    rfl
  refine anyC_take (i := 2) (v := ?_) (a' := ?_) hC0 rfl rfl (by kernel_rfl) (by kernel_rfl) (by kernel_rfl) hQp (by rfl) ?_ ?_ ?_
  rotate_left 2
  · intro W hW
    have h0 := hW _ _ hc0 (by simp)
    have h1 := hW _ _ hd0 (by simp; omega)
    have h2 := hW _ _ hd1 (by simp; omega)
    have h3 := hW _ _ hd2 (by simp; omega)
    go_simp
    rfl
  · simp [Act.put]
    rfl
  refine anyC_take (i := 3) (v := ?_) (a' := ?_) hC0 rfl rfl (by kernel_rfl) (by kernel_rfl) (by kernel_rfl) hQp (by rfl) ?_ ?_ ?_
  rotate_left 2
  · intro W hW
    have h0 := hW _ _ hc0 (by simp)
    have h1 := hW _ _ hd0 (by simp; omega)
    have h2 := hW _ _ hd1 (by simp; omega)
    have h3 := hW _ _ hd2 (by simp; omega)
    go_simp
    rfl
  · simp [Act.put]
    rfl
  refine anyC_take (i := 4) (v := ?_) (a' := ?_) hC0 rfl rfl (by kernel_rfl) (by kernel_rfl) (by kernel_rfl) hQp (by rfl) ?_ ?_ ?_
  rotate_left 2
  · intro W hW
    have h0 := hW _ _ hc0 (by simp)
    have h1 := hW _ _ hd0 (by simp; omega)
    have h2 := hW _ _ hd1 (by simp; omega)
    have h3 := hW _ _ hd2 (by simp; omega)
    go_simp
    rfl
  · simp [Act.put]
    rfl
  refine anyC_take (i := 5) (v := ?_) (a' := ?_) hC0 rfl rfl (by kernel_rfl) (by kernel_rfl) (by kernel_rfl) hQp (by rfl) ?_ ?_ ?_
  rotate_left 2
  · intro W hW
    have h0 := hW _ _ hc0 (by simp)
    have h1 := hW _ _ hd0 (by simp; omega)
    have h2 := hW _ _ hd1 (by simp; omega)
    have h3 := hW _ _ hd2 (by simp; omega)
    go_simp
    rfl
  · simp [Act.put]
    rfl
  refine anyC_take (i := 6) (v := ?_) (a' := ?_) hC0 rfl rfl (by kernel_rfl) (by kernel_rfl) (by kernel_rfl) hQp (by rfl) ?_ ?_ ?_
  rotate_left 2
  · intro W hW
    have h0 := hW _ _ hc0 (by simp)
    have h1 := hW _ _ hd0 (by simp; omega)
    have h2 := hW _ _ hd1 (by simp; omega)
    have h3 := hW _ _ hd2 (by simp; omega)
    go_simp
    rfl
  · simp [Act.put]
    rfl
  refine anyC_take (i := 7) (v := ?_) (a' := ?_) hC0 rfl rfl (by kernel_rfl) (by kernel_rfl) (by kernel_rfl) hQp (by rfl) ?_ ?_ ?_
  rotate_left 2
  · intro W hW
    have h0 := hW _ _ hc0 (by simp)
    have h1 := hW _ _ hd0 (by simp; omega)
    have h2 := hW _ _ hd1 (by simp; omega)
    have h3 := hW _ _ hd2 (by simp; omega)
    go_simp
    rfl
  · simp [Act.put]
    rfl
  refine anyC_take (i := 8) (v := ?_) (a' := ?_) hC0 rfl rfl (by kernel_rfl) (by kernel_rfl) (by kernel_rfl) hQp (by rfl) ?_ ?_ ?_
  rotate_left 2
  · intro W hW
    have h0 := hW _ _ hc0 (by simp)
    have h1 := hW _ _ hd0 (by simp; omega)
    have h2 := hW _ _ hd1 (by simp; omega)
    have h3 := hW _ _ hd2 (by simp; omega)
    go_simp
    rfl
  · simp [Act.put]
    rfl
  refine anyC_take (i := 9) (v := ?_) (a' := ?_) hC0 rfl rfl (by kernel_rfl) (by kernel_rfl) (by kernel_rfl) hQp (by rfl) ?_ ?_ ?_
  rotate_left 2
  · intro W hW
    have h0 := hW _ _ hc0 (by simp)
    have h1 := hW _ _ hd0 (by simp; omega)
    have h2 := hW _ _ hd1 (by simp; omega)
    have h3 := hW _ _ hd2 (by simp; omega)
    go_simp
    rfl
  · simp [Act.put]
    rfl
  refine anyC_take (i := 10) (v := ?_) (a' := ?_) hC0 rfl rfl (by kernel_rfl) (by kernel_rfl) (by kernel_rfl) hQp (by rfl) ?_ ?_ ?_
  rotate_left 2
  · intro W hW
    have h0 := hW _ _ hc0 (by simp)
    have h1 := hW _ _ hd0 (by simp; omega)
    have h2 := hW _ _ hd1 (by simp; omega)
    have h3 := hW _ _ hd2 (by simp; omega)
    go_simp
    rfl
  · simp [Act.put]
    rfl
  refine anyC_take (i := 11) (v := ?_) (a' := ?_) hC0 rfl rfl (by kernel_rfl) (by kernel_rfl) (by kernel_rfl) hQp (by rfl) ?_ ?_ ?_
  rotate_left 2
  · intro W hW
    have h0 := hW _ _ hc0 (by simp)
    have h1 := hW _ _ hd0 (by simp; omega)
    have h2 := hW _ _ hd1 (by simp; omega)
    have h3 := hW _ _ hd2 (by simp; omega)
    go_simp
    rfl
  · simp [Act.put]
    rfl
  refine anyC_take (i := 12) (v := ?_) (a' := ?_) hC0 rfl rfl (by kernel_rfl) (by kernel_rfl) (by kernel_rfl) hQp (by rfl) ?_ ?_ ?_
  rotate_left 2
  · intro W hW
    have h0 := hW _ _ hc0 (by simp)
    have h1 := hW _ _ hd0 (by simp; omega)
    have h2 := hW _ _ hd1 (by simp; omega)
    have h3 := hW _ _ hd2 (by simp; omega)
    go_simp
    rfl
  · simp [Act.put]
    rfl
  refine anyC_take (i := 13) (v := ?_) (a' := ?_) hC0 rfl rfl (by kernel_rfl) (by kernel_rfl) (by kernel_rfl) hQp (by rfl) ?_ ?_ ?_
  rotate_left 2
  · intro W hW
    have h0 := hW _ _ hc0 (by simp)
    have h1 := hW _ _ hd0 (by simp; omega)
    have h2 := hW _ _ hd1 (by simp; omega)
    have h3 := hW _ _ hd2 (by simp; omega)
    go_simp
    rfl
  · simp [Act.put]
    rfl
  refine anyC_take (i := 14) (v := ?_) (a' := ?_) hC0 rfl rfl (by kernel_rfl) (by kernel_rfl) (by kernel_rfl) hQp (by rfl) ?_ ?_ ?_
  rotate_left 2
  · intro W hW
    have h0 := hW _ _ hc0 (by simp)
    have h1 := hW _ _ hd0 (by simp; omega)
    have h2 := hW _ _ hd1 (by simp; omega)
    have h3 := hW _ _ hd2 (by simp; omega)
    go_simp
    rfl
  · simp [Act.put]
    rfl
  refine anyC_take (i := 15) (v := ?_) (a' := ?_) hC0 rfl rfl (by kernel_rfl) (by kernel_rfl) (by kernel_rfl) hQp (by rfl) ?_ ?_ ?_
  rotate_left 2
  · intro W hW
    have h0 := hW _ _ hc0 (by simp)
    have h1 := hW _ _ hd0 (by simp; omega)
    have h2 := hW _ _ hd1 (by simp; omega)
    have h3 := hW _ _ hd2 (by simp; omega)
    go_simp
    rfl
  · simp [Act.put]
    rfl
  refine anyC_take (i := 16) (v := ?_) (a' := ?_) hC0 rfl rfl (by kernel_rfl) (by kernel_rfl) (by kernel_rfl) hQp (by rfl) ?_ ?_ ?_
  rotate_left 2
  · intro W hW
    have h0 := hW _ _ hc0 (by simp)
    have h1 := hW _ _ hd0 (by simp; omega)
    have h2 := hW _ _ hd1 (by simp; omega)
    have h3 := hW _ _ hd2 (by simp; omega)
    go_simp
    rfl
  · simp [Act.put]
    rfl
  refine anyC_take (i := 17) (v := ?_) (a' := ?_) hC0 rfl rfl (by kernel_rfl) (by kernel_rfl) (by kernel_rfl) hQp (by rfl) ?_ ?_ ?_
  rotate_left 2
  · intro W hW
    have h0 := hW _ _ hc0 (by simp)
    have h1 := hW _ _ hd0 (by simp; omega)
    have h2 := hW _ _ hd1 (by simp; omega)
    have h3 := hW _ _ hd2 (by simp; omega)
    go_simp
    rfl
  · simp [Act.put]
    rfl
  refine anyC_take (i := 18) (v := ?_) (a' := ?_) hC0 rfl rfl (by kernel_rfl) (by kernel_rfl) (by kernel_rfl) hQp (by rfl) ?_ ?_ ?_
  rotate_left 2
  · intro W hW
    have h0 := hW _ _ hc0 (by simp)
    have h1 := hW _ _ hd0 (by simp; omega)
    have h2 := hW _ _ hd1 (by simp; omega)
    have h3 := hW _ _ hd2 (by simp; omega)
    go_simp
    rfl
  · simp [Act.put]
    rfl
  refine anyC_take (i := 19) (v := ?_) (a' := ?_) hC0 rfl rfl (by kernel_rfl) (by kernel_rfl) (by kernel_rfl) hQp (by simp [Region.wanted, yielded]) ?_ ?_ ?_
  rotate_left 2
  · intro W hW
    have h0 := hW _ _ hc0 (by simp)
    have h1 := hW _ _ hd0 (by simp; omega)
    have h2 := hW _ _ hd1 (by simp; omega)
    have h3 := hW _ _ hd2 (by simp; omega)
    go_simp
    rfl
  · simp [Act.put]
    rfl
  refine anyC_take (i := 20) (v := ?_) (a' := ?_) hC0 rfl rfl (by kernel_rfl) (by kernel_rfl) (by kernel_rfl) hQp (by simp [Region.wanted, yielded]) ?_ ?_ ?_
  rotate_left 2
  · intro W hW
    have h0 := hW _ _ hc0 (by simp)
    have h1 := hW _ _ hd0 (by simp; omega)
    have h2 := hW _ _ hd1 (by simp; omega)
    have h3 := hW _ _ hd2 (by simp; omega)
    go_simp
    rfl
  · simp [Act.put]
    rfl
  refine anyC_take (i := 21) (v := ?_) (a' := ?_) hC0 rfl rfl (by kernel_rfl) (by kernel_rfl) (by kernel_rfl) hQp (by simp [Region.wanted, yielded]) ?_ ?_ ?_
  rotate_left 2
  · intro W hW
    have h0 := hW _ _ hc0 (by simp)
    have h1 := hW _ _ hd0 (by simp; omega)
    have h2 := hW _ _ hd1 (by simp; omega)
    have h3 := hW _ _ hd2 (by simp; omega)
    go_simp
    rfl
  · simp [Act.put]
    rfl
  refine anyC_take (i := 22) (v := ?_) (a' := ?_) hC0 rfl rfl (by kernel_rfl) (by kernel_rfl) (by kernel_rfl) hQp (by simp [Region.wanted, yielded]) ?_ ?_ ?_
  rotate_left 2
  · intro W hW
    have h0 := hW _ _ hc0 (by simp)
    have h1 := hW _ _ hd0 (by simp; omega)
    have h2 := hW _ _ hd1 (by simp; omega)
    have h3 := hW _ _ hd2 (by simp; omega)
    go_simp
    rfl
  · simp [Act.put]
    rfl
  refine anyC_take (i := 23) (v := ?_) (a' := ?_) hC0 rfl rfl (by kernel_rfl) (by kernel_rfl) (by kernel_rfl) hQp (by simp [Region.wanted, yielded]) ?_ ?_ ?_
  rotate_left 2
  · intro W hW
    have h0 := hW _ _ hc0 (by simp)
    have h1 := hW _ _ hd0 (by simp; omega)
    have h2 := hW _ _ hd1 (by simp; omega)
    have h3 := hW _ _ hd2 (by simp; omega)
    go_simp
    rfl
  · simp [Act.put]
    rfl
  refine anyC_take (i := 24) (v := ?_) (a' := ?_) hC0 rfl rfl (by kernel_rfl) (by kernel_rfl) (by kernel_rfl) hQp (by simp [Region.wanted, yielded]) ?_ ?_ ?_
  rotate_left 2
  · intro W hW
    have h0 := hW _ _ hc0 (by simp)
    have h1 := hW _ _ hd0 (by simp; omega)
    have h2 := hW _ _ hd1 (by simp; omega)
    have h3 := hW _ _ hd2 (by simp; omega)
    go_simp
    rfl
  · simp [Act.put]
    rfl
  refine anyC_step (i := 25) (by kernel_rfl) rfl (by simp [Region.wanted, yielded]) ?_
  unfold Oper.wp
  go_simp
  refine (is_walk mb _ _ (by exact hd2)).mono ?_
  rintro e w4 ⟨rfl, rfl⟩
  refine ⟨hC0, ?_⟩
  refine anyC_take (i := 26) (v := ?_) (a' := ?_) hC0 rfl rfl (by kernel_rfl) (by kernel_rfl) (by kernel_rfl) hQp (by rfl) ?_ ?_ ?_
  rotate_left 2
  · intro W _
    go_simp
    rfl
  · simp [Act.put]
    rfl
  refine anyC_step (i := 27) (by kernel_rfl) rfl (by rfl) ?_
  unfold Oper.wp
  go_simp
  have hmS : Mod [w.heap.size] w1 (((w1.setCell ⟨w.heap.size, 0, none⟩ (.int .i64 f.1)).setCell ⟨w.heap.size, 1, none⟩ (.int .i64 f.2.1)).setCell ⟨w.heap.size, 2, none⟩ (.int .i64 f.2.2)) :=
    ((((Mod.refl _ w1).setCell (p := ⟨w.heap.size, 0, none⟩) (by simp) _).setCell (p := ⟨w.heap.size, 1, none⟩) (by simp) _).setCell (p := ⟨w.heap.size, 2, none⟩) (by simp) _)
  have hS : ∀ (p : Addr) (v : Value), w1.cell? p = some v → ¬p.block = w.heap.size → (((w1.setCell ⟨w.heap.size, 0, none⟩ (.int .i64 f.1)).setCell ⟨w.heap.size, 1, none⟩ (.int .i64 f.2.1)).setCell ⟨w.heap.size, 2, none⟩ (.int .i64 f.2.2)).cell? p = some v :=
    fun p v h hp => hmS.cell h (by simpa using hp)
  refine ⟨hS, ?_⟩
  refine anyC_step (i := 28) (by kernel_rfl) rfl (by rfl) ?_
  unfold Oper.wp
  go_simp
  refine ⟨hS, anyC_done (by kernel_rfl) ?_ _⟩
  clear hS hC0 hQp
  go_wp2
  refine ret_cell_tmp Tryz.results13 rfl (cs := #[.int .i64 f.1, .int .i64 f.2.1, .int .i64 f.2.2]) (((H2.out.2.2.2.set_ 0 _).set_ 1 _).set_ 2 _) Tryz.underlying28 rfl (by kernel_rfl) rfl ?_
  exact ⟨rfl, (((H2.out.1.setCell (p := ⟨w.heap.size, 0, none⟩) (.inr (Nat.le_refl _)) _).setCell (p := ⟨w.heap.size, 1, none⟩) (.inr (Nat.le_refl _)) _).setCell (p := ⟨w.heap.size, 2, none⟩) (.inr (Nat.le_refl _)) _).drew⟩
end Go.Proofs.YtjieelmbgfnllaaGreatDoor

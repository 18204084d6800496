/- slices.EqualFunc with same, at two lists of steps that say the same. Conditions: at most 20000 steps; at most 70000 writes and numbers in each. -/
import Derived.Test.YtjieelmbgfnllaaGreatDoorScSame
namespace Go.Proofs.YtjieelmbgfnllaaGreatDoor
open Go.RowKit Scr

theorem blk_range {w : World} {g : Nat} {t : TypeId} {l : List Value} (h : Blk w g t l.toArray) : w.rangeAt g 0 l := by
  intro j u hu
  rw [Nat.zero_add, h.cell]
  simpa using hu
theorem Seen.range {w : World} {v : Value} {rs : List RStep} (h : Seen w v rs) {i : Nat} {x : RStep} (hx : rs[i]? = some x) : ∃ b o c, v = .slice (some ⟨b, o, none⟩) rs.length c ∧ w.rangeAt b (o + i * 12) (rowOf x) := by
  obtain ⟨b, o, c, rfl, hc⟩ := h.at_ hx
  refine ⟨b, o, c, rfl, fun j u hu => ?_⟩
  rw [Nat.add_assoc]; exact hc j u hu
theorem row_one {x : RStep} {w : World} (h1 : SeenWrs w x.2.1 x.1.op.writes) (h2 : SeenInts w x.2.2 x.1.keep) : (rowOf x).toArray.all (·.oneCell') = true := by
  obtain ⟨_, _, e1, _⟩ := h1
  obtain ⟨_, _, e2, _⟩ := h2
  rw [← Array.all_toList]
  unfold rowOf
  rw [e1, e2]
  rfl
theorem row_size (x : RStep) : (Tryz.prog.info? 69).map (·.size) = some (rowOf x).length := by rw [rowOf_len]; kernel_rfl
theorem row_cells (s : StepS) (wv kv : Value) : stepCells s wv kv = (rowOf (s, wv, kv)).toArray := rfl

set_option maxRecDepth 100000 in
set_option maxHeartbeats 8000000 in
theorem equalfunc_walk (w : World) (v1 v2 : Value) (rs1 rs2 : List RStep) (h1 : Seen w v1 rs1) (h2 : Seen w v2 rs2) (he : rs1.map (·.1) = rs2.map (·.1)) (hn : ∀ x ∈ rs1, x.1.op.writes.length ≤ 70000 ∧ x.1.keep.length ≤ 70000) (hl : rs1.length ≤ 20000) :
    Calls Tryz.prog 86 #[v1, v2, .func (.func 87) #[] #[]] w fun e w' => e = .returned (.bool true) ∧ Mod [] w w' := by
  have HS := Lib.hid (And.intro h1 (And.intro h2 (And.intro he hn)))
  obtain ⟨A, c, rfl, _⟩ := h1.1
  obtain ⟨B, d, rfl, _⟩ := h2.1
  have hlen : rs2.length = rs1.length := by have := congrArg List.length he; simpa using this.symm
  rw [hlen]
  obtain ⟨n, hnn⟩ : ∃ n, n = rs1.length := ⟨_, rfl⟩
  rw [← hnn] at hl ⊢
  have HN := Lib.hid (And.intro hnn hlen)
  clear hnn hlen h1 h2 he hn
  go_enter Tryz.func86, Tryz.ntmps86
  go_wp2
  go_loopw [17] (fun s17 wr => ∃ j : Nat, s17 = .int .i64 j ∧ j ≤ n ∧ Mod [] w wr) (fun s17 _ => n - (RowKit.intOf s17).toNat)
  case atStart => exact ⟨0, by go_num, Nat.zero_le _, Mod.refl _ _⟩
  case round =>
    obtain ⟨j, rfl, hj, hm⟩ := hrel
    have HM := Lib.hid hm
    clear hm
    by_cases hjl : j < n
    · obtain ⟨x, hx⟩ : ∃ x, rs1[j]? = some x := ⟨_, List.getElem?_eq_getElem (by rw [← HN.out.1]; exact hjl)⟩
      obtain ⟨y, hy⟩ : ∃ y, rs2[j]? = some y := ⟨_, List.getElem?_eq_getElem (by rw [HN.out.2, ← HN.out.1]; exact hjl)⟩
      have hxy : y.1 = x.1 := by
        have h0 : (rs1.map (·.1))[j]? = (rs2.map (·.1))[j]? := by rw [HS.out.2.2.1]
        rw [List.getElem?_map, List.getElem?_map, hx, hy] at h0
        exact (Option.some.inj h0).symm
      obtain ⟨s, wv, kv⟩ := x
      obtain ⟨s', wu, ku⟩ := y
      replace hxy : s = s' := hxy.symm
      subst hxy
      obtain ⟨b1, o1, c1, e1, r1⟩ := HS.out.1.range hx
      obtain ⟨b2, o2, c2, e2, r2⟩ := HS.out.2.1.range hy
      have q1 := HS.out.1.2 _ (List.mem_of_getElem? hx)
      have q2 := HS.out.2.1.2 _ (List.mem_of_getElem? hy)
      have q3 := HS.out.2.2.2 _ (List.mem_of_getElem? hx)
      have HR := Lib.hid (And.intro (range_new r1 HM.out) (range_new r2 HM.out))
      have HQ := Lib.hid (And.intro q1 (And.intro q2 (And.intro q3 (And.intro r2 (And.intro (row_one q1.1 q1.2) (row_one q2.1 q2.2))))))
      cases e1
      cases e2
      clear r1 r2 hx hy q1 q2 q3
      have hjn : (j : Int) < (n : Int) := by omega
      go_wp2_with (first | (refine wpList_load_mid rfl 69 _ rfl b1 (o1 + j * 12) rfl (rowOf (s, wv, kv)) _ HR.out.1 Tryz.underlying69 rfl (row_size _) ?_) | (refine wpList_store_step rfl _ _ rfl wr.heap.size (rowOf (s, wv, kv)).toArray rfl rfl zeroStep (Blk.new _ _ _) rfl rfl HQ.out.2.2.2.2.1 ?_; intro W2 hs2 hB2 hM2; replace hM2 := Mod.then ((Mod.refl [] wr).alloc _) hM2 (by simp); have HB := Lib.hid (And.intro hB2 hM2); clear hB2 hM2 hs2) | (refine wpList_load_mid rfl 69 _ rfl b2 (o2 + j * 12) rfl (rowOf (s, wu, ku)) _ (range_new HR.out.2 HB.out.2) Tryz.underlying69 rfl (row_size _) ?_) | (refine wpList_store_step rfl _ _ rfl W2.heap.size (rowOf (s, wu, ku)).toArray rfl rfl zeroStep (Blk.new _ _ _) rfl rfl HQ.out.2.2.2.2.2 ?_; intro W3 hs3 hB3 hM3; replace hM3 := Mod.then ((Mod.refl [] W2).alloc _) hM3 (by simp); have HB3 := Lib.hid (And.intro hB3 (And.intro (hM3.blk HB.out.1 (by simp)) (HB.out.2.trans hM3))); clear hB3 hM3 hs3) | (refine wpList_load_mid rfl 69 _ rfl wr.heap.size 0 rfl (rowOf (s, wv, kv)) _ (blk_range HB3.out.2.1) Tryz.underlying69 rfl (row_size _) ?_) | (refine wpList_load_mid rfl 69 _ rfl W2.heap.size 0 rfl (rowOf (s, wu, ku)) _ (blk_range HB3.out.1) Tryz.underlying69 rfl (row_size _) ?_))
      have HW := Lib.hid (HM.out.trans HB3.out.2.2)
      refine (same_walk W3 s wv kv wu ku (HQ.out.1.1.new HW.out) (HQ.out.2.1.1.new HW.out) (HQ.out.1.2.new HW.out) (HQ.out.2.1.2.new HW.out) HQ.out.2.2.1.1 HQ.out.2.2.1.2).mono ?_
      rintro e w4 ⟨rfl, hm4⟩
      have H4 := Lib.hid (HW.out.trans hm4)
      clear hm4
      go_wp2
      go_roundw
      case rel => exact ⟨j + 1, by go_num, by omega, H4.out⟩
      case measure => simp [RowKit.intOf]; omega
    · go_wp2
      go_ret
      exact ⟨rfl, HM.out⟩
end Go.Proofs.YtjieelmbgfnllaaGreatDoor

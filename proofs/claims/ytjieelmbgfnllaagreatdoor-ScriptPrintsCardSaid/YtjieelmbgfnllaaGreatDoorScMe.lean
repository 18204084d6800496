/- The reference's Print, given what its stepText answers. Conditions: the steps are nice; stepText's contract. The reference's stepText at steps without an operation, do, tick, arm. Conditions: the step is nice. The reference's stepText at fail. Conditions: none. -/
import Derived.Test.YtjieelmbgfnllaaGreatDoorScMd
import Derived.Test.YtjieelmbgfnllaaGreatDoorScMb
namespace Go.Proofs.YtjieelmbgfnllaaGreatDoor
open Go.RowKit Scr

/-- What the reference's stepText answers. -/
def StepTPost (w : World) (s : StepS) (e : Ending) (w' : World) : Prop :=
  ∃ (D : ByteArray) (ok : Bool), e = .returned (.tuple #[.string D, .bool ok]) ∧ Mod [] w w' ∧ D.size ≤ 1000000000000 ∧ (ok = true → okS s = true ∧ D.data.toList = shownL s) ∧ (ok = false → okS s = false ∨ 65536 < (shownL s).length)
def StepT : Prop := ∀ (X : World) (s : StepS) (wv kv : Value), Nice s → SeenWrs X wv s.op.writes → SeenInts X kv s.keep → Calls Tryz.prog 145 #[.agg (rowOf (s, wv, kv)).toArray] X (StepTPost X s)
def RefPost (w : World) (l : List StepS) (e : Ending) (w' : World) : Prop :=
  Mod [] w w' ∧ (refP l = none → e = .returned (.tuple #[.string ⟨#[]⟩, .int .i64 205])) ∧ (∀ b, refP l = some b → e = .returned (.tuple #[.string ⟨b.toArray⟩, .int .i64 0]))
theorem refPost_none {w w' : World} {l : List StepS} (h : refP l = none) (hm : Mod [] w w') : RefPost w l (.returned (.tuple #[.string ⟨#[]⟩, .int .i64 205])) w' :=
  ⟨hm, fun _ => rfl, fun b hb => by rw [h] at hb; cases hb⟩
theorem refPost_some {w w' : World} {l : List StepS} {b : Bs} (h : refP l = some b) (hm : Mod [] w w') : RefPost w l (.returned (.tuple #[.string ⟨b.toArray⟩, .int .i64 0])) w' :=
  ⟨hm, fun h0 => by rw [h] at h0; (cases h0), fun b' hb => by rw [h] at hb; cases hb; rfl⟩
theorem ref_is {l : List StepS} (hl : l.length ≤ 20000) {r : Option Bs} (h : refB [] l = r) : refP l = r := by
  unfold refP; rw [if_neg (by omega), h]
theorem own_len {w : World} {lo : Nat} {v : Value} {acc : Bs} (h : w.ownsRow lo 5 1 v acc.length (Lib.byteCells acc)) : ∃ A c, v = .slice A acc.length c := by
  rcases h.2 with ⟨rfl, h0⟩ | ⟨g, cap, cur, rfl, _⟩
  · exact ⟨none, 0, by rw [h0]⟩
  · exact ⟨_, _, rfl⟩
/-- What was laid of the first j steps. -/
def RLay (w : World) (l : List StepS) (j : Nat) (acc : Bs) (v : Value) (wr : World) : Prop :=
  wr.ownsRow w.heap.size 5 1 v acc.length (Lib.byteCells acc) ∧ Mod [] w wr ∧ acc.length ≤ 65536 ∧ refB [] l = refB acc (l.drop j)

set_option maxRecDepth 100000 in
set_option maxHeartbeats 8000000 in
theorem rprint_walk (hst : StepT) (w : World) (v : Value) (rs : List RStep) (h : Seen w v rs) (hc : ∀ x ∈ rs, Nice x.1) :
    Calls Tryz.prog 66 #[v] w (RefPost w (rs.map (·.1))) := by
  have HS := Lib.hid (And.intro h (And.intro hc hst))
  obtain ⟨A, c, rfl, _⟩ := h.1
  obtain ⟨n, hnn⟩ : ∃ n, n = rs.length := ⟨_, rfl⟩
  rw [← hnn]
  have HN := Lib.hid hnn
  clear hnn h hc hst
  by_cases hbig : 20000 < n
  · have hb1 : (20000 : Int) < (n : Int) := by omega
    go_enter Tryz.func66, Tryz.ntmps66
    go_wp2
    refine ret_tmps Tryz.results66 rfl ?_
    exact refPost_none (by unfold refP; rw [if_pos (by rw [List.length_map, ← HN.out]; exact hbig)]) (Mod.refl _ _)
  have hl : n ≤ 20000 := by omega
  clear hbig
  have hl2 : ¬ (20000 : Int) < (n : Int) := by omega
  have HLL := Lib.hid (show (rs.map (·.1)).length ≤ 20000 by rw [List.length_map, ← HN.out]; exact hl)
  go_enter Tryz.func66, Tryz.ntmps66
  go_wp2
  go_loopw [4, 5] (fun s4 s5 wr => ∃ (j : Nat) (acc : Bs) (B : Option Addr) (d : Nat), s4 = .slice B acc.length d ∧ s5 = .int .i64 j ∧ j ≤ n ∧ RLay w (rs.map (·.1)) j acc (.slice B acc.length d) wr) (fun _ s5 _ => n - (RowKit.intOf s5).toNat)
  case atStart => exact ⟨0, [], none, 0, rfl, by go_num, Nat.zero_le _, ⟨rfl, .inl ⟨rfl, rfl⟩⟩, Mod.refl _ _, by simp, rfl⟩
  case round =>
    obtain ⟨j, acc, B, d, rfl, rfl, hj, hlay⟩ := hrel
    have HB := Lib.hid hlay
    have hsz := hlay.2.1.size
    have hab := hlay.2.2.1
    clear hlay
    obtain ⟨al, hal⟩ : ∃ al, al = acc.length := ⟨_, rfl⟩
    rw [← hal] at hab ⊢
    have HAL := Lib.hid hal
    clear hal
    by_cases hjl : j < n
    · obtain ⟨x, hx⟩ : ∃ x, rs[j]? = some x := ⟨_, List.getElem?_eq_getElem (by rw [← HN.out]; exact hjl)⟩
      obtain ⟨s, wv, kv⟩ := x
      obtain ⟨b1, o1, c1, e1, r1⟩ := HS.out.1.range hx
      have q1 := HS.out.1.2 _ (List.mem_of_getElem? hx)
      have q2 := HS.out.2.1 _ (List.mem_of_getElem? hx)
      have HR := Lib.hid (range_new r1 HB.out.2.1)
      have hxm : (rs.map (·.1))[j]? = some s := by rw [List.getElem?_map, hx]; rfl
      have HC := Lib.hid (HS.out.2.2 wr s wv kv q2 (q1.1.new HB.out.2.1) (q1.2.new HB.out.2.1))
      have HBL := Lib.hid (show refB [] (rs.map (·.1)) = if okS s = true ∧ acc.length + (shownL s).length + 1 ≤ 65536 then refB (acc ++ shownL s ++ [10]) ((rs.map (·.1)).drop (j + 1)) else none by
        rw [HB.out.2.2.2, drop_at hxm, refB])
      cases e1
      clear r1 hx q1 q2 hxm
      have hjn : (j : Int) < (n : Int) := by omega
      go_wp2_with (refine wpList_load_mid rfl 69 _ rfl b1 (o1 + j * 12) rfl (rowOf (s, wv, kv)) _ HR.out Tryz.underlying69 rfl (row_size _) ?_)
      refine HC.out.mono ?_
      rintro e w3 ⟨D, ok, rfl, hm3, hD, hok, hno⟩
      have H3 := Lib.hid (And.intro (HB.out.1) (And.intro hm3 (HB.out.2.1.trans hm3)))
      have HO := Lib.hid (And.intro hok hno)
      clear hm3 hok hno
      rcases ok with _ | _
      · have HPN := Lib.hid (ref_is HLL.out (HBL.out.trans (if_neg (fun h => by
          rcases HO.out.2 rfl with h1 | h1
          · rw [h.1] at h1; cases h1
          · omega))))
        go_wp2
        refine ret_tmps Tryz.results66 rfl ?_
        exact refPost_none HPN.out H3.out.2.2
      have HOK := Lib.hid (HO.out.1 rfl)
      have HDL := Lib.hid (show D.size = (shownL s).length by rw [Lib.size_eq, HOK.out.2])
      by_cases hlong : 65536 < al + D.size + 1
      · have hlI : (65536 : Int) < (al : Int) + (D.size : Int) + 1 := by omega
        have HPN := Lib.hid (ref_is HLL.out (HBL.out.trans (if_neg (fun h => by
          have := h.2
          rw [← HDL.out, ← HAL.out] at this
          omega))))
        go_wp2
        refine ret_tmps Tryz.results66 rfl ?_
        exact refPost_none HPN.out H3.out.2.2
      have hlI : decide ((65536 : Int) < (al : Int) + (D.size : Int) + 1) = false := by rw [decide_eq_false_iff_not]; omega
      have hlJ : al + D.size ≤ 65535 := by omega
      have hlK : (al : Int) + (D.size : Int) + 1 ≤ 65536 := by omega
      clear hlong
      have hz3 := H3.out.2.2.size
      have HG := Lib.hid (HBL.out.trans (if_pos ⟨HOK.out.1, by rw [← HDL.out, ← HAL.out]; omega⟩))
      have hown3 : w3.ownsRow w.heap.size 5 1 (.slice B al d) acc.length (Lib.byteCells acc) := by
        rw [HAL.out]; exact owns_mod HB.out.1 H3.out.2.1 (fun g _ => by simp)
      have HW3 := Lib.hid hown3
      clear hown3
      have hDs : D.size ≤ 65536 := by omega
      have hal2 : acc.length ≤ 65536 := by rw [← HAL.out]; exact hab
      go_wp2_with (at_builtin; first | (refine wp_five rfl _ _ rfl w.heap.size _ acc rfl HW3.out D D.data.toList rfl rfl (by rw [← Lib.size_eq]; omega) hz3 ?_; intro v4 w4 hown2 hg2; have H4 := Lib.hid (And.intro hown2 (grow_mod HW3.out H3.out.2.2 (Mod.refl [] _) hg2)); have hz4 := H4.out.2.size; clear hown2 hg2) | (refine wp_adds rfl _ _ rfl w.heap.size _ (acc ++ D.data.toList) rfl (H4.out.1.alloc _) [10] w4 1 1 rfl rfl rfl (by rw [List.length_append, ← Lib.size_eq]; simp; omega) hz4 ?_; intro v5 w5 hown2 hg2; have H5 := Lib.hid (And.intro hown2 (grow_mod H4.out.1 H4.out.2 ((Mod.refl [] _).alloc _) hg2)); clear hown2 hg2))
      obtain ⟨B5, d5, rfl⟩ := own_len H5.out.1
      go_wp2
      go_roundw
      case rel =>
        refine ⟨j + 1, acc ++ D.data.toList ++ [10], B5, d5, rfl, by go_num, by omega, H5.out.1, H5.out.2, ?_, ?_⟩
        · rw [List.length_append, List.length_append, ← Lib.size_eq, ← HAL.out]; simp; omega
        · rw [HOK.out.2]; exact HG.out
      case measure => simp [RowKit.intOf]; omega
    · have hall : refB [] (rs.map (·.1)) = some acc := by
        rw [HB.out.2.2.2, List.drop_eq_nil_of_le (by rw [List.length_map, ← HN.out]; omega), refB]
      have HPS := Lib.hid (ref_is HLL.out hall)
      have hcv := conv_own HB.out.1
      rw [← HAL.out] at hcv
      clear hall
      go_wp2
      refine ret_tmps Tryz.results66 rfl ?_
      exact refPost_some HPS.out HB.out.2.1
end Go.Proofs.YtjieelmbgfnllaaGreatDoor

namespace Go.Proofs.YtjieelmbgfnllaaGreatDoor
open Go.RowKit Scr

theorem stept_bad {w w' : World} {s : StepS} (h : okS s = false) (hm : Mod [] w w') : StepTPost w s (.returned (.tuple #[.string ⟨#[]⟩, .bool false])) w' :=
  ⟨⟨#[]⟩, false, rfl, hm, by decide, fun h0 => by (cases h0), fun _ => .inl h⟩
theorem stept_good {w w' : World} {s : StepS} (D : ByteArray) (h : okS s = true) (hD : D.data.toList = shownL s) (hl : D.size ≤ 1000000000000) (hm : Mod [] w w') : StepTPost w s (.returned (.tuple #[.string D, .bool true])) w' :=
  ⟨D, true, rfl, hm, hl, fun _ => ⟨h, hD⟩, fun h0 => by cases h0⟩
set_option maxRecDepth 100000 in
set_option maxHeartbeats 8000000 in
theorem stept_tick (w : World) (a b c : Int) (o : OpS) (q : List Int) (wv kv : Value) (h1 : SeenWrs w wv o.writes) (h2 : SeenInts w kv q) :
    Calls Tryz.prog 145 #[.agg (rowOf (⟨3, a, b, c, o, q⟩, wv, kv)).toArray] w (StepTPost w ⟨3, a, b, c, o, q⟩) := by
  have HS := Lib.hid (And.intro h1 h2)
  obtain ⟨B, d, rfl, _⟩ := h2
  have HB := Lib.hid (Blk.new w 69 (rowOf (⟨3, a, b, c, o, q⟩, wv, .slice B q.length d)).toArray)
  obtain ⟨nq, hnq⟩ : ∃ nq, nq = q.length := ⟨_, rfl⟩
  rw [← hnq] at HB ⊢
  have HQ := Lib.hid hnq
  clear hnq h1
  unfold rowOf at HB ⊢
  go_enter Tryz.func145, Tryz.ntmps145
  go_wp2_with fail
  refine (within_walk _ a).mono ?_
  rintro e X ⟨rfl, rfl⟩
  rcases ha : in40 a with _ | _
  · go_wp2
    refine ret_tmps Tryz.results145 rfl ?_
    exact stept_bad (by simp [okS, ha]) ((Mod.refl _ _).alloc _)
  go_wp2_with fail
  refine (within_walk _ b).mono ?_
  rintro e X ⟨rfl, rfl⟩
  rcases hb : in40 b with _ | _
  · go_wp2
    refine ret_tmps Tryz.results145 rfl ?_
    exact stept_bad (by simp [okS, hb]) ((Mod.refl _ _).alloc _)
  go_wp2_with fail
  refine (within_walk _ c).mono ?_
  rintro e X ⟨rfl, rfl⟩
  rcases hc : in40 c with _ | _
  · go_wp2
    refine ret_tmps Tryz.results145 rfl ?_
    exact stept_bad (by simp [okS, hc]) ((Mod.refl _ _).alloc _)
  by_cases zb : b = 0
  rotate_left
  · have nb : (b == 0) = false := by rw [beq_eq_false_iff_ne]; exact zb
    go_wp2
    refine ret_tmps Tryz.results145 rfl ?_
    exact stept_bad (by simp [okS, zb]) ((Mod.refl _ _).alloc _)
  subst zb
  by_cases zc : c = 0
  rotate_left
  · have nc : (c == 0) = false := by rw [beq_eq_false_iff_ne]; exact zc
    go_wp2
    refine ret_tmps Tryz.results145 rfl ?_
    exact stept_bad (by simp [okS, zc]) ((Mod.refl _ _).alloc _)
  subst zc
  by_cases zq : nq = 0
  rotate_left
  · have nz : (0 : Int) < (nq : Int) := by omega
    have hq0 : q ≠ [] := fun e => zq (by rw [HQ.out, e]; rfl)
    have HQ0 := Lib.hid hq0
    clear hq0
    go_wp2
    refine ret_tmps Tryz.results145 rfl ?_
    exact stept_bad (by simp [okS, HQ0.out]) ((Mod.refl _ _).alloc _)
  subst zq
  have hq0 : q = [] := List.eq_nil_of_length_eq_zero HQ.out.symm
  have HQ0 := Lib.hid hq0
  have HA := Lib.hid (And.intro ha hb)
  clear hq0
  go_wp2_with (refine wpList_load_mid rfl 67 _ rfl w.heap.size 4 rfl [.int .i64 o.kind, wv, .bool o.sync, .string ⟨o.key.toArray⟩, .string ⟨o.til.toArray⟩, .int .i64 o.n, .int .i64 o.snap] _ (op_range (s := ⟨3, a, 0, 0, o, q⟩) HB.out) Tryz.underlying67 rfl (by kernel_rfl) ?_)
  refine (empty_walk _ o wv (HS.out.1.new ((Mod.refl _ _).alloc _))).mono ?_
  rintro e W2 ⟨rfl, hm2⟩
  have HM := Lib.hid (((Mod.refl [] w).alloc _).trans hm2)
  have hb2 := hm2.blk HB.out (by simp)
  have hc0 := hb2.cell 0
  have hc1 := hb2.cell 1
  simp at hc0 hc1
  clear hm2 hb2
  by_cases ho : o = OpS.zero
  rotate_left
  · rw [decide_eq_false ho]
    have HO := Lib.hid ho
    clear ho
    go_wp2
    refine ret_tmps Tryz.results145 rfl ?_
    exact stept_bad (by simp [okS, HO.out]) HM.out
  rw [decide_eq_true ho]
  have HO := Lib.hid ho
  clear ho
  by_cases za : a = 0
  · subst za
    go_wp2
    go_region
    all_goals
      go_wp2
      refine ret_tmps Tryz.results145 rfl ?_
      exact stept_good ⟨#[116, 105, 99, 107]⟩ (by simp [okS, HO.out, HQ0.out, z40]) rfl (by decide) (HM.out.drewN _)
  · have na : (a == 0) = false := by rw [beq_eq_false_iff_ne]; exact za
    have HZ := Lib.hid za
    clear za
    go_wp2
    go_region
    all_goals
      go_wp2
      refine ret_tmps Tryz.results145 rfl ?_
      exact ⟨⟨#[116, 105, 99, 107]⟩, false, rfl, HM.out.drewN _, by decide, fun h => by (cases h), fun _ => .inl (by simp [okS, HZ.out])⟩
set_option maxRecDepth 100000 in
set_option maxHeartbeats 8000000 in
theorem stept_do (w : World) (a b c : Int) (o : OpS) (q : List Int) (wv kv : Value) (h1 : SeenWrs w wv o.writes) (h2 : SeenInts w kv q) :
    Calls Tryz.prog 145 #[.agg (rowOf (⟨2, a, b, c, o, q⟩, wv, kv)).toArray] w (StepTPost w ⟨2, a, b, c, o, q⟩) := by
  have HS := Lib.hid (And.intro h1 h2)
  obtain ⟨B, d, rfl, _⟩ := h2
  have HB := Lib.hid (Blk.new w 69 (rowOf (⟨2, a, b, c, o, q⟩, wv, .slice B q.length d)).toArray)
  obtain ⟨nq, hnq⟩ : ∃ nq, nq = q.length := ⟨_, rfl⟩
  rw [← hnq] at HB ⊢
  have HQ := Lib.hid hnq
  clear hnq h1
  unfold rowOf at HB ⊢
  go_enter Tryz.func145, Tryz.ntmps145
  go_wp2_with fail
  refine (within_walk _ a).mono ?_
  rintro e X ⟨rfl, rfl⟩
  rcases ha : in40 a with _ | _
  · go_wp2
    refine ret_tmps Tryz.results145 rfl ?_
    exact stept_bad (by simp [okS, ha]) ((Mod.refl _ _).alloc _)
  go_wp2_with fail
  refine (within_walk _ b).mono ?_
  rintro e X ⟨rfl, rfl⟩
  rcases hb : in40 b with _ | _
  · go_wp2
    refine ret_tmps Tryz.results145 rfl ?_
    exact stept_bad (by simp [okS, hb]) ((Mod.refl _ _).alloc _)
  go_wp2_with fail
  refine (within_walk _ c).mono ?_
  rintro e X ⟨rfl, rfl⟩
  rcases hc : in40 c with _ | _
  · go_wp2
    refine ret_tmps Tryz.results145 rfl ?_
    exact stept_bad (by simp [okS, hc]) ((Mod.refl _ _).alloc _)
  by_cases zb : b = 0
  rotate_left
  · have nb : (b == 0) = false := by rw [beq_eq_false_iff_ne]; exact zb
    go_wp2
    refine ret_tmps Tryz.results145 rfl ?_
    exact stept_bad (by simp [okS, zb]) ((Mod.refl _ _).alloc _)
  subst zb
  by_cases zc : c = 0
  rotate_left
  · have nc : (c == 0) = false := by rw [beq_eq_false_iff_ne]; exact zc
    go_wp2
    refine ret_tmps Tryz.results145 rfl ?_
    exact stept_bad (by simp [okS, zc]) ((Mod.refl _ _).alloc _)
  subst zc
  by_cases zq : nq = 0
  rotate_left
  · have nz : (0 : Int) < (nq : Int) := by omega
    have hq0 : q ≠ [] := fun e => zq (by rw [HQ.out, e]; rfl)
    have HQ0 := Lib.hid hq0
    clear hq0
    go_wp2
    refine ret_tmps Tryz.results145 rfl ?_
    exact stept_bad (by simp [okS, HQ0.out]) ((Mod.refl _ _).alloc _)
  subst zq
  have hq0 : q = [] := List.eq_nil_of_length_eq_zero HQ.out.symm
  have HQ0 := Lib.hid hq0
  have HA := Lib.hid (And.intro ha hb)
  clear hq0
  go_wp2_with (refine wpList_load_mid rfl 67 _ rfl w.heap.size 4 rfl [.int .i64 o.kind, wv, .bool o.sync, .string ⟨o.key.toArray⟩, .string ⟨o.til.toArray⟩, .int .i64 o.n, .int .i64 o.snap] _ (op_range (s := ⟨2, a, 0, 0, o, q⟩) HB.out) Tryz.underlying67 rfl (by kernel_rfl) ?_)
  refine (empty_walk _ o wv (HS.out.1.new ((Mod.refl _ _).alloc _))).mono ?_
  rintro e W2 ⟨rfl, hm2⟩
  have HM := Lib.hid (((Mod.refl [] w).alloc _).trans hm2)
  have hb2 := hm2.blk HB.out (by simp)
  have hc0 := hb2.cell 0
  have hc1 := hb2.cell 1
  simp at hc0 hc1
  clear hm2 hb2
  by_cases ho : o = OpS.zero
  rotate_left
  · rw [decide_eq_false ho]
    have HO := Lib.hid ho
    clear ho
    go_wp2
    refine ret_tmps Tryz.results145 rfl ?_
    exact stept_bad (by simp [okS, HO.out]) HM.out
  rw [decide_eq_true ho]
  have HO := Lib.hid ho
  clear ho
  have hI : I64 a := (in40_iff.1 ha).i64
  obtain ⟨D, hD⟩ : ∃ D : ByteArray, D.data.toList = Go.Lib.itoa a := ⟨⟨(Go.Lib.itoa a).toArray⟩, rfl⟩
  have hDz : D.size ≤ 20 := by rw [Lib.size_eq, hD]; exact itoa_le a hI
  have HDG := Lib.hid (show Calls Tryz.prog 215 #[.int .i64 a] W2 fun e w' => e = .returned (.string D) ∧ Mod [] W2 w' by
    refine (digits_walk W2 a hI).mono ?_
    rintro e w' ⟨rfl, hm⟩
    exact ⟨by rw [str_is hD], hm⟩)
  have HD := Lib.hid hD
  clear hD
  go_wp2_with fail
  refine HDG.out.mono ?_
  rintro e W3 ⟨rfl, hm3⟩
  have HM3 := Lib.hid (HM.out.trans hm3)
  clear hm3
  go_wp2
  refine ret_tmps Tryz.results145 rfl ?_
  exact stept_good ((⟨#[100, 111, 32]⟩ : ByteArray) ++ D) (by simp [okS, HO.out, HQ0.out, z40, HA.out.1]) (by rw [app_str, HD.out]; simp [shownL, wDo, numS]) (by rw [Lib.size_eq, app_str, List.length_append, ← Lib.size_eq D]; simp; omega) HM3.out
set_option maxRecDepth 100000 in
set_option maxHeartbeats 8000000 in
theorem stept_arm (w : World) (a b c : Int) (o : OpS) (q : List Int) (wv kv : Value) (h1 : SeenWrs w wv o.writes) (h2 : SeenInts w kv q) :
    Calls Tryz.prog 145 #[.agg (rowOf (⟨5, a, b, c, o, q⟩, wv, kv)).toArray] w (StepTPost w ⟨5, a, b, c, o, q⟩) := by
  have HS := Lib.hid (And.intro h1 h2)
  obtain ⟨B, d, rfl, _⟩ := h2
  have HB := Lib.hid (Blk.new w 69 (rowOf (⟨5, a, b, c, o, q⟩, wv, .slice B q.length d)).toArray)
  obtain ⟨nq, hnq⟩ : ∃ nq, nq = q.length := ⟨_, rfl⟩
  rw [← hnq] at HB ⊢
  have HQ := Lib.hid hnq
  clear hnq h1
  unfold rowOf at HB ⊢
  go_enter Tryz.func145, Tryz.ntmps145
  go_wp2_with fail
  refine (within_walk _ a).mono ?_
  rintro e X ⟨rfl, rfl⟩
  rcases ha : in40 a with _ | _
  · go_wp2
    refine ret_tmps Tryz.results145 rfl ?_
    exact stept_bad (by simp [okS, ha]) ((Mod.refl _ _).alloc _)
  go_wp2_with fail
  refine (within_walk _ b).mono ?_
  rintro e X ⟨rfl, rfl⟩
  rcases hb : in40 b with _ | _
  · go_wp2
    refine ret_tmps Tryz.results145 rfl ?_
    exact stept_bad (by simp [okS, hb]) ((Mod.refl _ _).alloc _)
  go_wp2_with fail
  refine (within_walk _ c).mono ?_
  rintro e X ⟨rfl, rfl⟩
  rcases hc : in40 c with _ | _
  · go_wp2
    refine ret_tmps Tryz.results145 rfl ?_
    exact stept_bad (by simp [okS, hc]) ((Mod.refl _ _).alloc _)
  by_cases zb : b = 0
  rotate_left
  · have nb : (b == 0) = false := by rw [beq_eq_false_iff_ne]; exact zb
    go_wp2
    refine ret_tmps Tryz.results145 rfl ?_
    exact stept_bad (by simp [okS, zb]) ((Mod.refl _ _).alloc _)
  subst zb
  by_cases zc : c = 0
  rotate_left
  · have nc : (c == 0) = false := by rw [beq_eq_false_iff_ne]; exact zc
    go_wp2
    refine ret_tmps Tryz.results145 rfl ?_
    exact stept_bad (by simp [okS, zc]) ((Mod.refl _ _).alloc _)
  subst zc
  by_cases zq : nq = 0
  rotate_left
  · have nz : (0 : Int) < (nq : Int) := by omega
    have hq0 : q ≠ [] := fun e => zq (by rw [HQ.out, e]; rfl)
    have HQ0 := Lib.hid hq0
    clear hq0
    go_wp2
    refine ret_tmps Tryz.results145 rfl ?_
    exact stept_bad (by simp [okS, HQ0.out]) ((Mod.refl _ _).alloc _)
  subst zq
  have hq0 : q = [] := List.eq_nil_of_length_eq_zero HQ.out.symm
  have HQ0 := Lib.hid hq0
  have HA := Lib.hid (And.intro ha hb)
  clear hq0
  go_wp2_with (refine wpList_load_mid rfl 67 _ rfl w.heap.size 4 rfl [.int .i64 o.kind, wv, .bool o.sync, .string ⟨o.key.toArray⟩, .string ⟨o.til.toArray⟩, .int .i64 o.n, .int .i64 o.snap] _ (op_range (s := ⟨5, a, 0, 0, o, q⟩) HB.out) Tryz.underlying67 rfl (by kernel_rfl) ?_)
  refine (empty_walk _ o wv (HS.out.1.new ((Mod.refl _ _).alloc _))).mono ?_
  rintro e W2 ⟨rfl, hm2⟩
  have HM := Lib.hid (((Mod.refl [] w).alloc _).trans hm2)
  have hb2 := hm2.blk HB.out (by simp)
  have hc0 := hb2.cell 0
  have hc1 := hb2.cell 1
  simp at hc0 hc1
  clear hm2 hb2
  by_cases ho : o = OpS.zero
  rotate_left
  · rw [decide_eq_false ho]
    have HO := Lib.hid ho
    clear ho
    go_wp2
    refine ret_tmps Tryz.results145 rfl ?_
    exact stept_bad (by simp [okS, HO.out]) HM.out
  rw [decide_eq_true ho]
  have HO := Lib.hid ho
  clear ho
  have hI : I64 a := (in40_iff.1 ha).i64
  obtain ⟨D, hD⟩ : ∃ D : ByteArray, D.data.toList = Go.Lib.itoa a := ⟨⟨(Go.Lib.itoa a).toArray⟩, rfl⟩
  have hDz : D.size ≤ 20 := by rw [Lib.size_eq, hD]; exact itoa_le a hI
  have HDG := Lib.hid (show Calls Tryz.prog 215 #[.int .i64 a] W2 fun e w' => e = .returned (.string D) ∧ Mod [] W2 w' by
    refine (digits_walk W2 a hI).mono ?_
    rintro e w' ⟨rfl, hm⟩
    exact ⟨by rw [str_is hD], hm⟩)
  have HD := Lib.hid hD
  clear hD
  go_wp2_with fail
  refine HDG.out.mono ?_
  rintro e W3 ⟨rfl, hm3⟩
  have HM3 := Lib.hid (HM.out.trans hm3)
  clear hm3
  go_wp2
  refine ret_tmps Tryz.results145 rfl ?_
  exact stept_good ((⟨#[97, 114, 109, 32]⟩ : ByteArray) ++ D) (by simp [okS, HO.out, HQ0.out, z40, HA.out.1]) (by rw [app_str, HD.out]; simp [shownL, wArm, numS]) (by rw [Lib.size_eq, app_str, List.length_append, ← Lib.size_eq D]; simp; omega) HM3.out
set_option maxRecDepth 100000 in
set_option maxHeartbeats 8000000 in
theorem stept_none (w : World) (k : Int) (hk : k ≠ 1 ∧ k ≠ 2 ∧ k ≠ 3 ∧ k ≠ 4 ∧ k ≠ 5 ∧ k ≠ 6) (a b c : Int) (o : OpS) (q : List Int) (wv kv : Value) (h1 : SeenWrs w wv o.writes) (h2 : SeenInts w kv q) :
    Calls Tryz.prog 145 #[.agg (rowOf (⟨k, a, b, c, o, q⟩, wv, kv)).toArray] w (StepTPost w ⟨k, a, b, c, o, q⟩) := by
  have HS := Lib.hid (And.intro h1 h2)
  have HK := Lib.hid hk
  have k1 : (k == 1) = false := by rw [beq_eq_false_iff_ne]; exact hk.1
  have k2 : (k == 2) = false := by rw [beq_eq_false_iff_ne]; exact hk.2.1
  have k3 : (k == 3) = false := by rw [beq_eq_false_iff_ne]; exact hk.2.2.1
  have k4 : (k == 4) = false := by rw [beq_eq_false_iff_ne]; exact hk.2.2.2.1
  have k5 : (k == 5) = false := by rw [beq_eq_false_iff_ne]; exact hk.2.2.2.2.1
  have k6 : (k == 6) = false := by rw [beq_eq_false_iff_ne]; exact hk.2.2.2.2.2
  have m1 : (k != 1) = true := by rw [bne_iff_ne]; exact hk.1
  have m4 : (k != 4) = true := by rw [bne_iff_ne]; exact hk.2.2.2.1
  have m6 : (k != 6) = true := by rw [bne_iff_ne]; exact hk.2.2.2.2.2
  clear hk
  obtain ⟨B, d, rfl, _⟩ := h2
  have HB := Lib.hid (Blk.new w 69 (rowOf (⟨k, a, b, c, o, q⟩, wv, .slice B q.length d)).toArray)
  obtain ⟨nq, hnq⟩ : ∃ nq, nq = q.length := ⟨_, rfl⟩
  rw [← hnq] at HB ⊢
  have HQ := Lib.hid hnq
  clear hnq h1
  unfold rowOf at HB ⊢
  go_enter Tryz.func145, Tryz.ntmps145
  go_wp2_with fail
  refine (within_walk _ a).mono ?_
  rintro e X ⟨rfl, rfl⟩
  rcases ha : in40 a with _ | _
  · go_wp2
    refine ret_tmps Tryz.results145 rfl ?_
    exact stept_bad (by simp [okS, ha]) ((Mod.refl _ _).alloc _)
  go_wp2_with fail
  refine (within_walk _ b).mono ?_
  rintro e X ⟨rfl, rfl⟩
  rcases hb : in40 b with _ | _
  · go_wp2
    refine ret_tmps Tryz.results145 rfl ?_
    exact stept_bad (by simp [okS, hb]) ((Mod.refl _ _).alloc _)
  go_wp2_with fail
  refine (within_walk _ c).mono ?_
  rintro e X ⟨rfl, rfl⟩
  rcases hc : in40 c with _ | _
  · go_wp2
    refine ret_tmps Tryz.results145 rfl ?_
    exact stept_bad (by simp [okS, hc]) ((Mod.refl _ _).alloc _)
  by_cases zb : b = 0
  rotate_left
  · have nb : (b == 0) = false := by rw [beq_eq_false_iff_ne]; exact zb
    go_wp2
    refine ret_tmps Tryz.results145 rfl ?_
    exact stept_bad (by simp [okS, zb, HK.out]) ((Mod.refl _ _).alloc _)
  subst zb
  by_cases zc : c = 0
  rotate_left
  · have nc : (c == 0) = false := by rw [beq_eq_false_iff_ne]; exact zc
    go_wp2
    refine ret_tmps Tryz.results145 rfl ?_
    exact stept_bad (by simp [okS, zc, HK.out]) ((Mod.refl _ _).alloc _)
  subst zc
  by_cases zq : nq = 0
  rotate_left
  · have nz : (0 : Int) < (nq : Int) := by omega
    have hq0 : q ≠ [] := fun e => zq (by rw [HQ.out, e]; rfl)
    have HQ0 := Lib.hid hq0
    clear hq0
    go_wp2
    refine ret_tmps Tryz.results145 rfl ?_
    exact stept_bad (by simp [okS, HQ0.out, HK.out]) ((Mod.refl _ _).alloc _)
  subst zq
  have hq0 : q = [] := List.eq_nil_of_length_eq_zero HQ.out.symm
  have HQ0 := Lib.hid hq0
  have HA := Lib.hid (And.intro ha hb)
  clear hq0
  go_wp2_with (refine wpList_load_mid rfl 67 _ rfl w.heap.size 4 rfl [.int .i64 o.kind, wv, .bool o.sync, .string ⟨o.key.toArray⟩, .string ⟨o.til.toArray⟩, .int .i64 o.n, .int .i64 o.snap] _ (op_range (s := ⟨k, a, 0, 0, o, q⟩) HB.out) Tryz.underlying67 rfl (by kernel_rfl) ?_)
  refine (empty_walk _ o wv (HS.out.1.new ((Mod.refl _ _).alloc _))).mono ?_
  rintro e W2 ⟨rfl, hm2⟩
  have HM := Lib.hid (((Mod.refl [] w).alloc _).trans hm2)
  have hb2 := hm2.blk HB.out (by simp)
  have hc0 := hb2.cell 0
  have hc1 := hb2.cell 1
  simp at hc0 hc1
  clear hm2 hb2
  by_cases ho : o = OpS.zero
  rotate_left
  · rw [decide_eq_false ho]
    have HO := Lib.hid ho
    clear ho
    go_wp2
    refine ret_tmps Tryz.results145 rfl ?_
    exact stept_bad (by simp [okS, HO.out, HK.out]) HM.out
  rw [decide_eq_true ho]
  have HO := Lib.hid ho
  clear ho
  go_wp2
  refine ret_tmps Tryz.results145 rfl ?_
  exact stept_bad (by simp [okS, HK.out]) HM.out
end Go.Proofs.YtjieelmbgfnllaaGreatDoor

namespace Go.Proofs.YtjieelmbgfnllaaGreatDoor
open Go.RowKit Scr

set_option maxRecDepth 100000 in
set_option maxHeartbeats 8000000 in
theorem stept_fail (w : World) (a b c : Int) (o : OpS) (q : List Int) (wv kv : Value) (h1 : SeenWrs w wv o.writes) (h2 : SeenInts w kv q) :
    Calls Tryz.prog 145 #[.agg (rowOf (⟨6, a, b, c, o, q⟩, wv, kv)).toArray] w (StepTPost w ⟨6, a, b, c, o, q⟩) := by
  have HS := Lib.hid (And.intro h1 h2)
  obtain ⟨B, d, rfl, _⟩ := h2
  obtain ⟨A, cw, rfl, _⟩ := h1
  have HB := Lib.hid (Blk.new w 69 (rowOf (⟨6, a, b, c, o, q⟩, .slice A o.writes.length cw, .slice B q.length d)).toArray)
  obtain ⟨nq, hnq⟩ : ∃ nq, nq = q.length := ⟨_, rfl⟩
  rw [← hnq] at HB ⊢
  have HQ := Lib.hid hnq
  clear hnq
  unfold rowOf at HB ⊢
  go_enter Tryz.func145, Tryz.ntmps145
  go_wp2_with fail
  refine (within_walk _ a).mono ?_
  rintro e X ⟨rfl, rfl⟩
  rcases ha : in40 a with _ | _
  · go_wp2
    refine ret_tmps Tryz.results145 rfl ?_
    exact stept_bad (by simp [okS, ha]) ((Mod.refl _ _).alloc _)
  go_wp2_with fail
  refine (within_walk _ b).mono ?_
  rintro e X ⟨rfl, rfl⟩
  rcases hb : in40 b with _ | _
  · go_wp2
    refine ret_tmps Tryz.results145 rfl ?_
    exact stept_bad (by simp [okS, hb]) ((Mod.refl _ _).alloc _)
  go_wp2_with fail
  refine (within_walk _ c).mono ?_
  rintro e X ⟨rfl, rfl⟩
  rcases hc : in40 c with _ | _
  · go_wp2
    refine ret_tmps Tryz.results145 rfl ?_
    exact stept_bad (by simp [okS, hc]) ((Mod.refl _ _).alloc _)
  by_cases zq : nq = 0
  rotate_left
  · have nz : (0 : Int) < (nq : Int) := by omega
    have hq0 : q ≠ [] := fun e => zq (by rw [HQ.out, e]; rfl)
    have HQ0 := Lib.hid hq0
    clear hq0
    go_wp2
    refine ret_tmps Tryz.results145 rfl ?_
    exact stept_bad (by simp [okS, HQ0.out]) ((Mod.refl _ _).alloc _)
  subst zq
  have hq0 : q = [] := List.eq_nil_of_length_eq_zero HQ.out.symm
  have HQ0 := Lib.hid hq0
  have HA := Lib.hid (And.intro ha hb)
  have HH := Lib.hid hc
  clear hq0
  go_wp2_with fail
  refine (empty_walk _ o _ (HS.out.1.new ((Mod.refl _ _).alloc _))).mono ?_
  rintro e W2 ⟨rfl, hm2⟩
  have HM := Lib.hid (((Mod.refl [] w).alloc _).trans hm2)
  have hb2 := hm2.blk HB.out (by simp)
  have hc0 := hb2.cell 0
  have hc1 := hb2.cell 1
  simp at hc0 hc1
  have HB2 := Lib.hid hb2
  clear hm2 hb2
  by_cases ho : o = OpS.zero
  rotate_left
  · rw [decide_eq_false ho]
    have HO := Lib.hid ho
    clear ho
    go_wp2
    refine ret_tmps Tryz.results145 rfl ?_
    exact stept_bad (by simp [okS, HO.out]) HM.out
  rw [decide_eq_true ho]
  have HO := Lib.hid ho
  clear ho
  have haI : I64 a := (in40_iff.1 ha).i64
  obtain ⟨DA, hDA⟩ : ∃ DA : ByteArray, DA.data.toList = Go.Lib.itoa a := ⟨⟨(Go.Lib.itoa a).toArray⟩, rfl⟩
  have hDAz : DA.size ≤ 20 := by rw [Lib.size_eq, hDA]; exact itoa_le a haI
  have HDA := Lib.hid (show ∀ X : World, Calls Tryz.prog 215 #[.int .i64 a] X fun e w' => e = .returned (.string DA) ∧ Mod [] X w' from fun X => by
    refine (digits_walk X a haI).mono ?_
    rintro e w' ⟨rfl, hm⟩
    exact ⟨by rw [str_is hDA], hm⟩)
  have HEDA := Lib.hid hDA
  clear hDA
  have hbI : I64 b := (in40_iff.1 hb).i64
  obtain ⟨DB, hDB⟩ : ∃ DB : ByteArray, DB.data.toList = Go.Lib.itoa b := ⟨⟨(Go.Lib.itoa b).toArray⟩, rfl⟩
  have hDBz : DB.size ≤ 20 := by rw [Lib.size_eq, hDB]; exact itoa_le b hbI
  have HDB := Lib.hid (show ∀ X : World, Calls Tryz.prog 215 #[.int .i64 b] X fun e w' => e = .returned (.string DB) ∧ Mod [] X w' from fun X => by
    refine (digits_walk X b hbI).mono ?_
    rintro e w' ⟨rfl, hm⟩
    exact ⟨by rw [str_is hDB], hm⟩)
  have HEDB := Lib.hid hDB
  clear hDB
  have hcI : I64 c := (in40_iff.1 hc).i64
  obtain ⟨DC, hDC⟩ : ∃ DC : ByteArray, DC.data.toList = Go.Lib.itoa c := ⟨⟨(Go.Lib.itoa c).toArray⟩, rfl⟩
  have hDCz : DC.size ≤ 20 := by rw [Lib.size_eq, hDC]; exact itoa_le c hcI
  have HDC := Lib.hid (show ∀ X : World, Calls Tryz.prog 215 #[.int .i64 c] X fun e w' => e = .returned (.string DC) ∧ Mod [] X w' from fun X => by
    refine (digits_walk X c hcI).mono ?_
    rintro e w' ⟨rfl, hm⟩
    exact ⟨by rw [str_is hDC], hm⟩)
  have HEDC := Lib.hid hDC
  clear hDC
  go_wp2
  refine region_C (fun X => Mod [] w X ∧ Blk X w.heap.size 69 #[.int .i64 6, .int .i64 a, .int .i64 b, .int .i64 c, .int .i64 o.kind, .slice A o.writes.length cw, .bool o.sync, .string ⟨o.key.toArray⟩, .string ⟨o.til.toArray⟩, .int .i64 o.n, .int .i64 o.snap, .slice B 0 d]) (by kernel_rfl) (fun _ _ _ _ _ h => h) (fun hQp => ?_)
  have HC := And.intro HM.out.drew HB2.out.drew
  simp only [List.length_cons, List.length_nil]
  refine anyC_take (i := 0) (v := ?_) (a' := ?_) HC rfl rfl (by kernel_rfl) (by kernel_rfl) (by kernel_rfl) hQp (by rfl) ?_ ?_ ?_
  rotate_left 2
  · intro X hX
    go_simp
    first | rfl | omega | (rw [if_neg (by omega)])
  · simp [Act.put]
    rfl
  refine anyC_take (i := 1) (v := ?_) (a' := ?_) HC rfl rfl (by kernel_rfl) (by kernel_rfl) (by kernel_rfl) hQp (by rfl) ?_ ?_ ?_
  rotate_left 2
  · intro X hX
    have hx := hX.2.cell 1
    simp at hx
    go_simp
    first | rfl | omega | (rw [if_neg (by omega)])
  · simp [Act.put]
    rfl
  refine anyC_take (i := 5) (v := ?_) (a' := ?_) HC rfl rfl (by kernel_rfl) (by kernel_rfl) (by kernel_rfl) hQp (by rfl) ?_ ?_ ?_
  rotate_left 2
  · intro X hX
    go_simp
    first | rfl | omega | (rw [if_neg (by omega)])
  · simp [Act.put]
    rfl
  refine anyC_take (i := 6) (v := ?_) (a' := ?_) HC rfl rfl (by kernel_rfl) (by kernel_rfl) (by kernel_rfl) hQp (by rfl) ?_ ?_ ?_
  rotate_left 2
  · intro X hX
    have hx := hX.2.cell 2
    simp at hx
    go_simp
    first | rfl | omega | (rw [if_neg (by omega)])
  · simp [Act.put]
    rfl
  refine anyC_take (i := 10) (v := ?_) (a' := ?_) HC rfl rfl (by kernel_rfl) (by kernel_rfl) (by kernel_rfl) hQp (by rfl) ?_ ?_ ?_
  rotate_left 2
  · intro X hX
    go_simp
    first | rfl | omega | (rw [if_neg (by omega)])
  · simp [Act.put]
    rfl
  refine anyC_take (i := 11) (v := ?_) (a' := ?_) HC rfl rfl (by kernel_rfl) (by kernel_rfl) (by kernel_rfl) hQp (by rfl) ?_ ?_ ?_
  rotate_left 2
  · intro X hX
    have hx := hX.2.cell 3
    simp at hx
    go_simp
    first | rfl | omega | (rw [if_neg (by omega)])
  · simp [Act.put]
    rfl
  refine anyC_step (i := 2) (by kernel_rfl) rfl (by rfl) ?_
  unfold Oper.wp
  go_simp
  refine (HDA.out _).mono ?_
  rintro e v2 ⟨rfl, hm2⟩
  replace HC := And.intro (HC.1.trans hm2) (hm2.blk HC.2 (by simp))
  refine ⟨HC, ?_⟩
  refine anyC_take (i := 3) (v := .string ((⟨#[102, 97, 105, 108, 32]⟩ : ByteArray) ++ DA)) (a' := ?_) HC rfl rfl (by kernel_rfl) (by kernel_rfl) (by kernel_rfl) hQp (by rfl) ?_ ?_ ?_
  rotate_left 1
  · intro X hX
    go_simp
    first | rfl | omega | (rw [if_neg (by omega)])
  · simp [Act.put]
    rfl
  refine anyC_take (i := 4) (v := .string ((⟨#[102, 97, 105, 108, 32]⟩ : ByteArray) ++ DA ++ (⟨#[32]⟩ : ByteArray))) (a' := ?_) HC rfl rfl (by kernel_rfl) (by kernel_rfl) (by kernel_rfl) hQp (by rfl) ?_ ?_ ?_
  rotate_left 1
  · intro X hX
    go_simp
    first | rfl | omega | (rw [if_neg (by omega)])
  · simp [Act.put]
    rfl
  refine anyC_step (i := 7) (by kernel_rfl) rfl (by rfl) ?_
  unfold Oper.wp
  go_simp
  refine (HDB.out _).mono ?_
  rintro e v7 ⟨rfl, hm7⟩
  replace HC := And.intro (HC.1.trans hm7) (hm7.blk HC.2 (by simp))
  refine ⟨HC, ?_⟩
  refine anyC_take (i := 8) (v := .string ((⟨#[102, 97, 105, 108, 32]⟩ : ByteArray) ++ DA ++ (⟨#[32]⟩ : ByteArray) ++ DB)) (a' := ?_) HC rfl rfl (by kernel_rfl) (by kernel_rfl) (by kernel_rfl) hQp (by rfl) ?_ ?_ ?_
  rotate_left 1
  · intro X hX
    go_simp
    first | rfl | omega | (rw [if_neg (by omega)])
  · simp [Act.put]
    rfl
  refine anyC_take (i := 9) (v := .string ((⟨#[102, 97, 105, 108, 32]⟩ : ByteArray) ++ DA ++ (⟨#[32]⟩ : ByteArray) ++ DB ++ (⟨#[32]⟩ : ByteArray))) (a' := ?_) HC rfl rfl (by kernel_rfl) (by kernel_rfl) (by kernel_rfl) hQp (by rfl) ?_ ?_ ?_
  rotate_left 1
  · intro X hX
    go_simp
    first | rfl | omega | (rw [if_neg (by omega)])
  · simp [Act.put]
    rfl
  refine anyC_step (i := 12) (by kernel_rfl) rfl (by rfl) ?_
  unfold Oper.wp
  go_simp
  refine (HDC.out _).mono ?_
  rintro e v12 ⟨rfl, hm12⟩
  replace HC := And.intro (HC.1.trans hm12) (hm12.blk HC.2 (by simp))
  refine ⟨HC, ?_⟩
  refine anyC_take (i := 13) (v := .string ((⟨#[102, 97, 105, 108, 32]⟩ : ByteArray) ++ DA ++ (⟨#[32]⟩ : ByteArray) ++ DB ++ (⟨#[32]⟩ : ByteArray) ++ DC)) (a' := ?_) HC rfl rfl (by kernel_rfl) (by kernel_rfl) (by kernel_rfl) hQp (by rfl) ?_ ?_ ?_
  rotate_left 1
  · intro X hX
    go_simp
    first | rfl | omega | (rw [if_neg (by omega)])
  · simp [Act.put]
    rfl
  refine anyC_take (i := 14) (v := ?_) (a' := ?_) HC rfl rfl (by kernel_rfl) (by kernel_rfl) (by kernel_rfl) hQp (by rfl) ?_ ?_ ?_
  rotate_left 2
  · intro X hX
    go_simp
    first | rfl | omega | (rw [if_neg (by omega)])
  · simp [Act.put]
    rfl
  refine anyC_take (i := 15) (v := ?_) (a' := ?_) HC rfl rfl (by kernel_rfl) (by kernel_rfl) (by kernel_rfl) hQp (by rfl) ?_ ?_ ?_
  rotate_left 2
  · intro X hX
    go_simp
    first | rfl | omega | (rw [if_neg (by omega)])
  · simp [Act.put]
    rfl
  refine anyC_done (by kernel_rfl) ?_ _
  clear hQp
  go_wp2
  refine ret_tmps Tryz.results145 rfl ?_
  exact stept_good ((⟨#[102, 97, 105, 108, 32]⟩ : ByteArray) ++ DA ++ (⟨#[32]⟩ : ByteArray) ++ DB ++ (⟨#[32]⟩ : ByteArray) ++ DC) (by simp [okS, HO.out, HQ0.out, HA.out.1, HA.out.2, HH.out]) (by simp only [app_str, HEDA.out, HEDB.out, HEDC.out]; simp [shownL, wFail, numS]) (by rw [Lib.size_eq]; simp only [app_str, List.length_append, ← Lib.size_eq]; simp; omega) HC.1
end Go.Proofs.YtjieelmbgfnllaaGreatDoor

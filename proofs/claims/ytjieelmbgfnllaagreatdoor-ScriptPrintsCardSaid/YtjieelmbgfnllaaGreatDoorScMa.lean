/- slices.EqualFunc with same, at two lists of steps that say the same. Conditions: at most 20000 steps; at most 70000 writes and numbers in each. Print at steps that were read. Conditions: the steps are in order; the table of powers and errors.errorType are laid; internal/bytealg's variable MaxLen holds an integer. known: a script is read, and printed. Conditions: the table of powers and errors.errorType are laid; internal/bytealg's variable MaxLen holds an integer. The faults of Parse bear a number; told at what Parse handed back. Conditions: errors.errorType is laid. -/
import Derived.Test.YtjieelmbgfnllaaGreatDoorScSame
namespace Go.Proofs.YtjieelmbgfnllaaGreatDoor
open Go.RowKit Scr

theorem blk_range {w : World} {g : Nat} {t : TypeId} {l : List Value} (h : Blk w g t l.toArray) : w.rangeAt g 0 l := by
  intro j u hu
  rw [Nat.zero_add, h.cell]
  simpa using hu
theorem Seen.range {w : World} {v : Value} {rs : List RStep} (h : Seen w v rs) {i : Nat} {x : RStep} (hx : rs[i]? = some x) : ∃ b o c, v = .slice (some ⟨b, o, none⟩) rs.length c ∧ w.rangeAt b (o + i * 12) (rowOf x) := by
  obtain ⟨b, o, c, rfl, hc⟩ := h.at_ hx
  refine ⟨b, o, c, rfl, fun j u hu => ?_⟩
  rw [Nat.add_assoc]; exact hc j u hu
theorem row_one {x : RStep} {w : World} (h1 : SeenWrs w x.2.1 x.1.op.writes) (h2 : SeenInts w x.2.2 x.1.keep) : (rowOf x).toArray.all (·.oneCell') = true := by
  obtain ⟨_, _, e1, _⟩ := h1
  obtain ⟨_, _, e2, _⟩ := h2
  rw [← Array.all_toList]
  unfold rowOf
  rw [e1, e2]
  rfl
theorem row_size (x : RStep) : (Tryz.prog.info? 69).map (·.size) = some (rowOf x).length := by rw [rowOf_len]; kernel_rfl
theorem row_cells (s : StepS) (wv kv : Value) : stepCells s wv kv = (rowOf (s, wv, kv)).toArray := rfl

set_option maxRecDepth 100000 in
set_option maxHeartbeats 8000000 in
theorem equalfunc_walk (w : World) (v1 v2 : Value) (rs1 rs2 : List RStep) (h1 : Seen w v1 rs1) (h2 : Seen w v2 rs2) (he : rs1.map (·.1) = rs2.map (·.1)) (hn : ∀ x ∈ rs1, x.1.op.writes.length ≤ 70000 ∧ x.1.keep.length ≤ 70000) (hl : rs1.length ≤ 20000) :
    Calls Tryz.prog 86 #[v1, v2, .func (.func 87) #[] #[]] w fun e w' => e = .returned (.bool true) ∧ Mod [] w w' := by
  have HS := Lib.hid (And.intro h1 (And.intro h2 (And.intro he hn)))
  obtain ⟨A, c, rfl, _⟩ := h1.1
  obtain ⟨B, d, rfl, _⟩ := h2.1
  have hlen : rs2.length = rs1.length := by have := congrArg List.length he; simpa using this.symm
  rw [hlen]
  obtain ⟨n, hnn⟩ : ∃ n, n = rs1.length := ⟨_, rfl⟩
  rw [← hnn] at hl ⊢
  have HN := Lib.hid (And.intro hnn hlen)
  clear hnn hlen h1 h2 he hn
  go_enter Tryz.func86, Tryz.ntmps86
  go_wp2
  go_loopw [17] (fun s17 wr => ∃ j : Nat, s17 = .int .i64 j ∧ j ≤ n ∧ Mod [] w wr) (fun s17 _ => n - (RowKit.intOf s17).toNat)
  case atStart => exact ⟨0, by go_num, Nat.zero_le _, Mod.refl _ _⟩
  case round =>
    obtain ⟨j, rfl, hj, hm⟩ := hrel
    have HM := Lib.hid hm
    clear hm
    by_cases hjl : j < n
    · obtain ⟨x, hx⟩ : ∃ x, rs1[j]? = some x := ⟨_, List.getElem?_eq_getElem (by rw [← HN.out.1]; exact hjl)⟩
      obtain ⟨y, hy⟩ : ∃ y, rs2[j]? = some y := ⟨_, List.getElem?_eq_getElem (by rw [HN.out.2, ← HN.out.1]; exact hjl)⟩
      have hxy : y.1 = x.1 := by
        have h0 : (rs1.map (·.1))[j]? = (rs2.map (·.1))[j]? := by rw [HS.out.2.2.1]
        rw [List.getElem?_map, List.getElem?_map, hx, hy] at h0
        exact (Option.some.inj h0).symm
      obtain ⟨s, wv, kv⟩ := x
      obtain ⟨s', wu, ku⟩ := y
      replace hxy : s = s' := hxy.symm
      subst hxy
      obtain ⟨b1, o1, c1, e1, r1⟩ := HS.out.1.range hx
      obtain ⟨b2, o2, c2, e2, r2⟩ := HS.out.2.1.range hy
      have q1 := HS.out.1.2 _ (List.mem_of_getElem? hx)
      have q2 := HS.out.2.1.2 _ (List.mem_of_getElem? hy)
      have q3 := HS.out.2.2.2 _ (List.mem_of_getElem? hx)
      have HR := Lib.hid (And.intro (range_new r1 HM.out) (range_new r2 HM.out))
      have HQ := Lib.hid (And.intro q1 (And.intro q2 (And.intro q3 (And.intro r2 (And.intro (row_one q1.1 q1.2) (row_one q2.1 q2.2))))))
      cases e1
      cases e2
      clear r1 r2 hx hy q1 q2 q3
      have hjn : (j : Int) < (n : Int) := by omega
      go_wp2_with (first | (refine wpList_load_mid rfl 69 _ rfl b1 (o1 + j * 12) rfl (rowOf (s, wv, kv)) _ HR.out.1 Tryz.underlying69 rfl (row_size _) ?_) | (refine wpList_store_step rfl _ _ rfl wr.heap.size (rowOf (s, wv, kv)).toArray rfl rfl zeroStep (Blk.new _ _ _) rfl rfl HQ.out.2.2.2.2.1 ?_; intro W2 hs2 hB2 hM2; replace hM2 := Mod.then ((Mod.refl [] wr).alloc _) hM2 (by simp); have HB := Lib.hid (And.intro hB2 hM2); clear hB2 hM2 hs2) | (refine wpList_load_mid rfl 69 _ rfl b2 (o2 + j * 12) rfl (rowOf (s, wu, ku)) _ (range_new HR.out.2 HB.out.2) Tryz.underlying69 rfl (row_size _) ?_) | (refine wpList_store_step rfl _ _ rfl W2.heap.size (rowOf (s, wu, ku)).toArray rfl rfl zeroStep (Blk.new _ _ _) rfl rfl HQ.out.2.2.2.2.2 ?_; intro W3 hs3 hB3 hM3; replace hM3 := Mod.then ((Mod.refl [] W2).alloc _) hM3 (by simp); have HB3 := Lib.hid (And.intro hB3 (And.intro (hM3.blk HB.out.1 (by simp)) (HB.out.2.trans hM3))); clear hB3 hM3 hs3) | (refine wpList_load_mid rfl 69 _ rfl wr.heap.size 0 rfl (rowOf (s, wv, kv)) _ (blk_range HB3.out.2.1) Tryz.underlying69 rfl (row_size _) ?_) | (refine wpList_load_mid rfl 69 _ rfl W2.heap.size 0 rfl (rowOf (s, wu, ku)) _ (blk_range HB3.out.1) Tryz.underlying69 rfl (row_size _) ?_))
      have HW := Lib.hid (HM.out.trans HB3.out.2.2)
      refine (same_walk W3 s wv kv wu ku (HQ.out.1.1.new HW.out) (HQ.out.2.1.1.new HW.out) (HQ.out.1.2.new HW.out) (HQ.out.2.1.2.new HW.out) HQ.out.2.2.1.1 HQ.out.2.2.1.2).mono ?_
      rintro e w4 ⟨rfl, hm4⟩
      have H4 := Lib.hid (HW.out.trans hm4)
      clear hm4
      go_wp2
      go_roundw
      case rel => exact ⟨j + 1, by go_num, by omega, H4.out⟩
      case measure => simp [RowKit.intOf]; omega
    · go_wp2
      go_ret
      exact ⟨rfl, HM.out⟩
end Go.Proofs.YtjieelmbgfnllaaGreatDoor

namespace Go.Proofs.YtjieelmbgfnllaaGreatDoor
open Go.RowKit Scr

theorem body_parse {l : List StepS} (hc : ∀ s ∈ l, Canon s) (hl : l.length ≤ 20000) (hn : (bodyT l).length ≤ 65536) : parseP (bodyT l) = .ok l :=
  ok_parse hn (by rw [linesP_body l 1 ⟨[], none⟩ hc (by simpa using hl)]; rfl)
theorem body_take {l : List StepS} {j : Nat} {s : StepS} (h : l[j]? = some s) : bodyT (l.take (j + 1)) = bodyT (l.take j) ++ shownL s ++ [10] := by
  rw [take_snoc l j s h]
  unfold bodyT
  rw [List.flatMap_append]
  simp
theorem body_mono {l : List StepS} (j : Nat) : (bodyT (l.take j)).length ≤ (bodyT l).length := by
  have h : bodyT l = bodyT (l.take j) ++ bodyT (l.drop j) := by
    unfold bodyT
    rw [← List.flatMap_append, List.take_append_drop]
  rw [h, List.length_append]; omega

theorem bldF_new {B b : Nat} {bs : List Value} {w w' : World} (h : Lib.IsBuilderF 128 5 B b bs w) (hm : Mod [] w w') : Lib.IsBuilderF 128 5 B b bs w' := by
  have hg : w.grownBy w' none := ⟨hm.os, hm.tape, hm.output, hm.size, fun k hk _ => hm.block k hk (by simp)⟩
  have one : ∀ p, Lib.BuilderAtF 128 5 B b p bs w → Lib.BuilderAtF 128 5 B b p bs w' := by
    intro p hp
    have hl := hp.lt
    obtain ⟨hB, v, hb, hown, hne⟩ := hp
    refine ⟨hB, v, (hm.block b hl (by simp)).trans hb, hown.kept hg ?_, hne⟩
    cases hv : v.ownBlock with
    | none => exact .inl rfl
    | some g => exact .inr (by simp)
  exact h.elim (fun x => .inl (one _ x)) (fun x => .inr (one _ x))

def PrintPost (w : World) (l : List StepS) (e : Ending) (w' : World) : Prop :=
  Mod [] w w' ∧ ((bodyT l).length ≤ 65536 → e = .returned (.tuple #[.string ⟨(bodyT l).toArray⟩, .nilIface])) ∧ (65536 < (bodyT l).length → e = .returned (.tuple #[.string ⟨#[]⟩, .iface 93 (.int .i64 205)]))


theorem flat_le {α : Type} (f : α → Bs) (n : Nat) : ∀ l : List α, (∀ x ∈ l, (f x).length ≤ n) → (l.flatMap f).length ≤ l.length * n
  | [], _ => by simp
  | x :: l, h => by
    rw [List.flatMap_cons, List.length_append, List.length_cons, Nat.add_mul]
    have := h x (List.mem_cons_self ..)
    have := flat_le f n l (fun y hy => h y (List.mem_cons_of_mem _ hy))
    omega
theorem shown_le {s : StepS} (hn : Nice s) : (shownL s).length ≤ 100000000000 := by
  obtain ⟨⟨h1, h2, h3, h4, h5⟩, ha, hb, hc, hm, hs, hk⟩ := hn
  have la := itoa_le _ ha
  have lb := itoa_le _ hb
  have lc := itoa_le _ hc
  have lm := itoa_le _ hm
  have ls := itoa_le _ hs
  have lp := snapS_le _ hs
  have q1 := quoting_le2 _ h1
  have q2 := quoting_le2 _ h2
  have lw := flat_le wrS 600000 s.op.writes (fun x hx => by
    have := quoting_le2 _ (h5 x hx).1
    have := quoting_le2 _ (h5 x hx).2
    unfold wrS
    split <;> simp <;> omega)
  have lk := flat_le numS 30 s.keep (fun x hx => by
    have := itoa_le _ (hk x hx)
    unfold numS
    simp; omega)
  have lw2 : s.op.writes.length * 600000 ≤ 42000000000 := by omega
  have lk2 : s.keep.length * 30 ≤ 2100000 := by omega
  have la2 : (numS s.a).length ≤ 21 := by unfold numS; rw [List.length_cons]; omega
  have e1 : (wWrite.length = 5 ∧ wSync.length = 4 ∧ wGet.length = 3 ∧ wScan.length = 4) ∧ (wSnap.length = 4 ∧ wRelease.length = 7 ∧ wDo.length = 2 ∧ wTick.length = 4) ∧ wFall.length = 4 ∧ wArm.length = 3 ∧ wFail.length = 4 := by decide
  obtain ⟨⟨x1, x2, x3, x4⟩, ⟨x5, x6, x7, x8⟩, x9, x10, x11⟩ := e1
  unfold shownL operatedL
  repeat' split
  all_goals first | omega | (simp only [List.length_append, List.length_cons, List.length_nil]; omega) | simp
theorem shown_str (D : ByteArray) (w : World) (s : StepS) (wv kv : Value) (hD : D.data.toList = shownL s) (hn : Nice s) (ht : tabIs w) (hw : SeenWrs w wv s.op.writes) (hi : SeenInts w kv s.keep) :
    Calls Tryz.prog 81 #[.agg (stepCells s wv kv)] w fun e w' => e = .returned (.string D) ∧ Mod [] w w' := by
  refine (shown_walk w s wv kv hn ht hw hi).mono ?_
  rintro e w' ⟨rfl, hm⟩
  exact ⟨by rw [str_is hD], hm⟩
theorem mod_below {a w w' : World} (h : Mod [] a w) (k : Below a.heap.size w w') : Mod [] a w' :=
  ⟨k.os.trans h.os, k.tape.trans h.tape, k.output.trans h.output, Nat.le_trans h.size k.size, fun i hi hn => (k.block i hi).trans (h.block i hi hn)⟩

theorem wnl_walk (B b : Nat) (l : Bs) (w : World) (h : Bld B b l w) (hl : l.length ≤ 1099511627776) (hBw : B ≤ w.heap.size) :
    Calls Tryz.prog 84 #[.pointer (some ⟨b, 0, none⟩), .int .u8 10] w fun e w' => e = .returned .nilIface ∧ Bld B b (l ++ [10]) w' ∧ Below B w w' := by
  have h1 := wbyte_walk B b l 10 w h hl hBw
  have e : ((10 : UInt8).toNat : Int) = 10 := rfl
  rw [e] at h1
  exact h1

/-- The builder while the lines are laid. -/
def Laying (w : World) (l : List StepS) (j : Nat) (wr : World) : Prop := Bld w.heap.size w.heap.size (bodyT (l.take j)) wr ∧ Mod [] w wr ∧ (bodyT (l.take j)).length ≤ 65536

set_option maxRecDepth 100000 in
set_option maxHeartbeats 8000000 in
theorem print_walk (w : World) (v : Value) (rs : List RStep) (m : Int) (h : Seen w v rs) (hc : ∀ x ∈ rs, Canon x.1 ∧ Nice x.1) (hl : rs.length ≤ 20000) (ht : tabIs w) (hg : errTypeIs w) (hm : w.cell? ⟨3, 0, none⟩ = some (.int .i64 m)) :
    Calls Tryz.prog 23 #[v] w (PrintPost w (rs.map (·.1))) := by
  have HS := Lib.hid (And.intro h (And.intro hc (And.intro ht (And.intro hg hm))))
  obtain ⟨A, c, rfl, _⟩ := h.1
  obtain ⟨n, hnn⟩ : ∃ n, n = rs.length := ⟨_, rfl⟩
  rw [← hnn] at hl ⊢
  have HN := Lib.hid hnn
  clear hnn h hc ht hg hm
  have hl2 : ¬ (20000 : Int) < (n : Int) := by omega
  go_enter Tryz.func23, Tryz.ntmps23
  go_wp2
  go_loopw [16] (fun s16 wr => ∃ j : Nat, s16 = .int .i64 j ∧ j ≤ n ∧ Laying w (rs.map (·.1)) j wr) (fun s16 _ => n - (RowKit.intOf s16).toNat)
  case atStart => exact ⟨0, by go_num, Nat.zero_le _, Lib.fresh_isBuilder _ _ _, (Mod.refl _ _).alloc _, by simp [bodyT]⟩
  case round =>
    obtain ⟨j, rfl, hj, hlay⟩ := hrel
    have HB := Lib.hid hlay
    have hsz := hlay.2.1.size
    clear hlay
    by_cases hjl : j < n
    · obtain ⟨x, hx⟩ : ∃ x, rs[j]? = some x := ⟨_, List.getElem?_eq_getElem (by rw [← HN.out]; exact hjl)⟩
      obtain ⟨s, wv, kv⟩ := x
      obtain ⟨b1, o1, c1, e1, r1⟩ := HS.out.1.range hx
      have q1 := HS.out.1.2 _ (List.mem_of_getElem? hx)
      have q2 := HS.out.2.1 _ (List.mem_of_getElem? hx)
      have HR := Lib.hid (range_new r1 HB.out.2.1)
      have hxm : (rs.map (·.1))[j]? = some s := by rw [List.getElem?_map, hx]; rfl
      have HQ := Lib.hid (And.intro q1 (And.intro q2 (And.intro (row_one q1.1 q1.2) hxm)))
      obtain ⟨D, hD, hDs⟩ := as_str (shownL s) 100000000000 (shown_le q2.2)
      have hD0 : (D.toList == []) = false := by
        rw [Lib.toList_data, hD]
        have := shown_ne q2.1
        simpa using this
      have HD := Lib.hid hD
      cases e1
      clear r1 hx q1 q2 hxm hD
      have hjn : (j : Int) < (n : Int) := by omega
      go_wp2_with (first | (refine wpList_load_mid rfl 69 _ rfl b1 (o1 + j * 12) rfl (rowOf (s, wv, kv)) _ HR.out Tryz.underlying69 rfl (row_size _) ?_) | (refine wpList_store_step rfl _ _ rfl wr.heap.size (rowOf (s, wv, kv)).toArray rfl rfl zeroStep (Blk.new _ _ _) rfl rfl HQ.out.2.2.1 ?_; intro W2 hs2 hB2 hM2; replace hM2 := Mod.then ((Mod.refl [] wr).alloc _) hM2 (by simp); have HB2 := Lib.hid (And.intro hB2 hM2); clear hB2 hM2 hs2) | (refine wpList_load_mid rfl 69 _ rfl wr.heap.size 0 rfl (rowOf (s, wv, kv)) _ (blk_range HB2.out.1) Tryz.underlying69 rfl (row_size _) ?_))
      have HW := Lib.hid (HB.out.2.1.trans HB2.out.2)
      refine (shown_str D W2 s wv kv HD.out HQ.out.2.1.2 (tab_new HS.out.2.2.1 HW.out) (HQ.out.1.1.new HW.out) (HQ.out.1.2.new HW.out)).mono ?_
      rintro e w3 ⟨rfl, hm3⟩
      obtain ⟨acc, hacc⟩ : ∃ acc, acc = bodyT ((rs.map (·.1)).take j) := ⟨_, rfl⟩
      have hab : acc.length ≤ 65536 := by rw [hacc]; exact HB.out.2.2
      have H3 := Lib.hid (show Bld w.heap.size w.heap.size acc w3 ∧ Mod [] w w3 ∧ bodyT ((rs.map (·.1)).take (j + 1)) = acc ++ shownL s ++ [10] from ⟨by rw [hacc]; exact (HB.out.1.new HB2.out.2).new hm3, HW.out.trans hm3, by rw [hacc]; exact body_take HQ.out.2.2.2⟩)
      have hsz3 := H3.out.2.1.size
      have hcl : (Lib.byteCells acc).length = acc.length := Lib.byteCells_length acc
      clear hm3 hacc
      go_wp2_with fail
      refine (Tryz.Builder_Len_f w.heap.size w.heap.size (Lib.byteCells acc) _ (Lib.IsBuilderF.of H3.out.1)).mono ?_
      rintro e w4 ⟨rfl, rfl⟩
      have HDl : D.size = (shownL s).length := by rw [Lib.size_eq, HD.out]
      have HDL := Lib.hid HDl
      clear HDl
      by_cases hlong : 65536 ≤ acc.length + D.size
      · have hlI : (65536 : Int) ≤ (acc.length : Int) + (D.size : Int) := by omega
        go_wp2
        refine ret_tmps Tryz.results23 rfl ?_
        have hbig : 65536 < (bodyT (rs.map (·.1))).length := by
          have h1 := body_mono (l := rs.map (·.1)) (j + 1)
          rw [H3.out.2.2] at h1
          have := HDL.out
          simp only [List.length_append, List.length_cons, List.length_nil] at h1
          omega
        exact ⟨H3.out.2.1, fun h => by omega, fun _ => rfl⟩
      · have hlI : decide ((65536 : Int) ≤ (acc.length : Int) + (D.size : Int)) = false := by simp; omega
        have hlJ : (acc.length : Int) + (D.size : Int) < 65536 := by omega
        go_wp2_with fail
        refine (wstr_walk w.heap.size w.heap.size acc D w4 H3.out.1 (by omega) (by omega) hsz3).mono ?_
        rintro e w5 ⟨rfl, hb5, hk5⟩
        have hsz5 := (mod_below H3.out.2.1 hk5).size
        have H5 := Lib.hid (And.intro hb5 (mod_below H3.out.2.1 hk5))
        clear hb5 hk5
        go_wp2_with fail
        refine (wnl_walk w.heap.size w.heap.size (acc ++ D.data.toList) w5 H5.out.1 (by rw [List.length_append, ← Lib.size_eq]; omega) hsz5).mono ?_
        rintro e w6 ⟨rfl, hb6, hk6⟩
        have H6 := Lib.hid (And.intro hb6 (mod_below H5.out.2 hk6))
        clear hb6 hk6
        go_wp2
        go_roundw
        case rel => exact ⟨j + 1, by go_num, by omega, by rw [H3.out.2.2, ← HD.out]; exact H6.out.1, H6.out.2, by rw [H3.out.2.2]; have := HDL.out; simp only [List.length_append, List.length_cons, List.length_nil]; omega⟩
        case measure => simp [RowKit.intOf]; omega
    · have hjn : j = n := by omega
      have hall : (rs.map (·.1)).take j = rs.map (·.1) := List.take_of_length_le (by rw [List.length_map, ← HN.out]; omega)
      have HE := HB.out
      unfold Laying at HE
      rw [hall] at HE
      have HL := Lib.hid HE
      clear HE hall
      have hcan : ∀ s ∈ rs.map (·.1), Canon s := by
        intro s hs
        obtain ⟨x, hx, rfl⟩ := List.mem_map.1 hs
        exact (HS.out.2.1 x hx).1
      have HP := Lib.hid (body_parse hcan (by rw [List.length_map, ← HN.out]; exact hl) HL.out.2.2)
      clear hcan
      obtain ⟨text, htext⟩ : ∃ text, text = bodyT (rs.map (·.1)) := ⟨_, rfl⟩
      rw [← htext] at HL HP
      have HT := Lib.hid htext
      clear htext
      go_wp2_with fail
      refine (Tryz.Builder_String_any_f w.heap.size w.heap.size text _ (Lib.IsBuilderF.of HL.out.1) hsz).mono ?_
      rintro e w1 ⟨rfl, hf1, hk1⟩
      have H1 := Lib.hid (And.intro hf1 (mod_below HL.out.2.1 hk1))
      clear hf1 hk1
      go_wp2_with fail
      refine (parse_walk w1 ⟨text.toArray⟩ m (H1.out.2.cell HS.out.2.2.2.1 (by simp)) (H1.out.2.cell HS.out.2.2.2.2 (by simp))).mono ?_
      intro e w2 hpp
      have hpp2 : ParsePost w1 text e w2 := hpp
      unfold ParsePost at hpp2
      rw [HP.out] at hpp2
      obtain ⟨v2, rs2, rfl, hmap, hrich, hlens, hlen2, hm2⟩ := hpp2
      have H2 := Lib.hid (And.intro hrich.seen (And.intro hmap (H1.out.2.trans hm2)))
      have H2b := Lib.hid (bldF_new H1.out.1 hm2)
      clear hrich hmap hm2 hpp hlens hlen2
      have hsz2 := H2.out.2.2.size
      obtain ⟨A2, c2, rfl, _⟩ := id H2.out.1.1
      have hl2' : rs2.length = n := by
        have := congrArg List.length H2.out.2.1
        simp only [List.length_map] at this
        rw [this, ← HN.out]
      rw [hl2']
      go_wp2_with fail
      refine (equalfunc_walk w2 _ _ rs2 rs (by rw [← hl2']; exact H2.out.1) (by rw [HN.out]; exact HS.out.1.new H2.out.2.2) H2.out.2.1 (fun x hx => ?_) (by rw [hl2']; exact hl)).mono ?_
      · have hx2 : x.1 ∈ rs.map (·.1) := by rw [← H2.out.2.1]; exact List.mem_map_of_mem hx
        obtain ⟨y, hy, hxy⟩ := List.mem_map.1 hx2
        have := (HS.out.2.1 y hy).2.1
        rw [hxy] at this
        exact ⟨this.2.2.1, this.2.2.2.1⟩
      rintro e w3 ⟨rfl, hm3⟩
      have H3 := Lib.hid (And.intro (bldF_new H2b.out hm3) (H2.out.2.2.trans hm3))
      clear hm3
      have hsz3 := H3.out.2.size
      go_wp2_with fail
      refine (Tryz.Builder_String_any_f w.heap.size w.heap.size text _ H3.out.1 hsz3).mono ?_
      rintro e w4 ⟨rfl, hf4, hk4⟩
      have H4 := Lib.hid (mod_below H3.out.2 hk4)
      clear hf4 hk4
      go_wp2
      refine ret_tmps Tryz.results23 rfl ?_
      have hle := HL.out.2.2
      refine ⟨H4.out, fun _ => by rw [← HT.out]; rfl, fun h => ?_⟩
      rw [HT.out] at hle
      omega
end Go.Proofs.YtjieelmbgfnllaaGreatDoor

namespace Go.Proofs.YtjieelmbgfnllaaGreatDoor
open Go.RowKit Scr

theorem ktext_is : (⟨#[119, 114, 105, 116, 101, 32, 48, 32, 112, 117, 116, 32, 34, 97, 34, 32, 34, 49, 34, 32, 100, 101, 108, 32, 34, 98, 92, 120, 48, 48, 34, 32, 115, 121, 110, 99, 32, 35, 32, 116, 119, 111, 10, 114, 101, 112, 101, 97, 116, 32, 50, 10, 100, 111, 32, 48, 10, 116, 105, 99, 107, 10, 101, 110, 100, 10, 102, 97, 108, 108, 32, 50, 32, 53, 32, 45, 49, 10]⟩ : ByteArray).data.toList = kText := by rfl
theorem kout_is : (⟨kOut.toArray⟩ : ByteArray) = ⟨#[119, 114, 105, 116, 101, 32, 48, 32, 112, 117, 116, 32, 34, 97, 34, 32, 34, 49, 34, 32, 100, 101, 108, 32, 34, 98, 92, 120, 48, 48, 34, 32, 115, 121, 110, 99, 10, 100, 111, 32, 48, 10, 116, 105, 99, 107, 10, 100, 111, 32, 48, 10, 116, 105, 99, 107, 10, 102, 97, 108, 108, 32, 50, 32, 53, 32, 45, 49, 10]⟩ := by rfl
theorem parse_of (w : World) (D : ByteArray) (t : Bs) (h : D.data.toList = t) (m : Int) (hg : errTypeIs w) (hm : w.cell? ⟨3, 0, none⟩ = some (.int .i64 m)) : Calls Tryz.prog 11 #[.string D] w (ParsePost w t) := h ▸ parse_walk w D m hg hm
theorem body_known : bodyT kSteps = kOut := by
  have h1 := bodyL_eq kSteps [] (parse_ord known_parse).1 (by simp)
  rw [known_body, List.length_nil, Nat.zero_add, List.nil_append] at h1
  split at h1
  · exact (Option.some.inj h1).symm
  · cases h1

set_option maxRecDepth 100000 in
set_option maxHeartbeats 2000000 in
theorem known_walk (w : World) (m : Int) (ht : tabIs w) (hg : errTypeIs w) (hm : w.cell? ⟨3, 0, none⟩ = some (.int .i64 m)) :
    Calls Tryz.prog 22 #[] w fun e w' => e = .returned (.bool true) ∧ Mod [] w w' := by
  have HS := Lib.hid (And.intro ht (And.intro hg hm))
  clear ht hg hm
  go_enter Tryz.func22, Tryz.ntmps22
  go_wp2_with fail
  refine (parse_of w _ kText ktext_is m HS.out.2.1 HS.out.2.2).mono ?_
  intro e w1 hpp2
  unfold ParsePost at hpp2
  rw [known_parse] at hpp2
  obtain ⟨v, rs, rfl, hmap, hrich, _, _, hm1⟩ := hpp2
  have hlen : rs.length = 6 := by have := congrArg List.length hmap; simpa [kSteps] using this
  have hrow := hrich.1
  rw [hlen] at hrow
  obtain ⟨g, cap, hv⟩ : ∃ g cap, v = .slice (some ⟨g, 0, none⟩) 6 cap := by
    rcases hrow.2 with ⟨_, h0⟩ | ⟨g, cap, cur, hv, _⟩
    · cases h0
    · exact ⟨g, cap, hv⟩
  subst hv
  obtain ⟨x0, h0⟩ : ∃ x, rs[0]? = some x := ⟨_, List.getElem?_eq_getElem (by omega)⟩
  obtain ⟨x5, h5⟩ : ∃ x, rs[5]? = some x := ⟨_, List.getElem?_eq_getElem (by omega)⟩
  have e0 : kSteps[0]? = some x0.1 := by rw [← hmap, List.getElem?_map, h0]; rfl
  have e5 : kSteps[5]? = some x5.1 := by rw [← hmap, List.getElem?_map, h5]; rfl
  obtain ⟨s0, wv0, kv0⟩ := x0
  obtain ⟨s5, wv5, kv5⟩ := x5
  have cell : ∀ (i j : Nat) (x : RStep) (u : Value), rs[i]? = some x → j < 12 → (rowOf x)[j]? = some u → w1.cell? ⟨g, i * 12 + j, none⟩ = some u := by
    intro i j x u hx hj hu
    have := hrow.cells (g := g) rfl (i * 12 + j) u ((rows_get rs i j x hx hj).trans hu)
    rwa [Addr.add_mid, Nat.zero_add] at this
  have c60 := cell 5 0 _ _ h5 (by decide) rfl
  have c71 := cell 5 11 _ _ h5 (by decide) rfl
  have c5 := cell 0 5 _ _ h0 (by decide) rfl
  have c6 := cell 0 6 _ _ h0 (by decide) rfl
  have k0 := hrich.2.1 _ (List.mem_of_getElem? h0)
  have k5 := hrich.2.1 _ (List.mem_of_getElem? h5)
  simp only [kSteps] at e0 e5
  have e0' : s0 = ⟨1, 0, 0, 0, ⟨1, [⟨[97], false, [49]⟩, ⟨[98, 0], true, []⟩], true, [], [], 0, 0⟩, []⟩ := (Option.some.inj e0).symm
  have e5' : s5 = ⟨4, 2, 0, 0, OpS.zero, [5, -1]⟩ := (Option.some.inj e5).symm
  subst e0' e5'
  clear e0 e5
  have k5b : SeenInts w1 kv5 [5, -1] := SeenRow.own k5.2
  have k0b : WritesAt w1 w.heap.size wv0 [⟨[97], false, [49]⟩, ⟨[98, 0], true, []⟩] := k0.1
  clear k5 k0
  obtain ⟨A5, cap5, rfl, _⟩ := k5b
  have hw0 := k0b
  obtain ⟨g0, cap0, rfl⟩ : ∃ g cap, wv0 = .slice (some ⟨g, 0, none⟩) 2 cap := by
    rcases hw0.2 with ⟨_, h0⟩ | ⟨g, cap, cur, hv, _⟩
    · cases h0
    · exact ⟨g, cap, hv⟩
  have ck := hw0.cells (g := g0) rfl 3 (.string ⟨#[98, 0]⟩) rfl
  rw [Addr.add_mid] at ck
  simp at c60 c71 c5 c6 ck
  have H1 := Lib.hid (And.intro hrich.seen (And.intro hmap (And.intro hm1 hlen)))
  clear hrich hmap hm1 hlen hrow h0 h5 cell hw0 k0b
  go_wp2_with fail
  refine (print_walk w1 _ rs m H1.out.1 (fun x hx => ?_) (by have := H1.out.2.2.2; omega) (tab_new HS.out.1 H1.out.2.2.1) (H1.out.2.2.1.cell HS.out.2.1 (by simp)) (H1.out.2.2.1.cell HS.out.2.2 (by simp))).mono ?_
  · have hx2 : x.1 ∈ kSteps := by rw [← H1.out.2.1]; exact List.mem_map_of_mem hx
    exact ⟨(parse_ord known_parse).1 _ hx2, parse_nice known_parse _ hx2⟩
  intro e w2 hp
  unfold PrintPost at hp
  rw [H1.out.2.1, body_known, kout_is] at hp
  obtain ⟨hm2, hok, _⟩ := hp
  have hee := hok (by decide)
  subst hee
  have H2 := Lib.hid (H1.out.2.2.1.trans hm2)
  clear hm2 hok
  go_wp2
  go_ret
  exact ⟨rfl, H2.out⟩
end Go.Proofs.YtjieelmbgfnllaaGreatDoor

namespace Go.Proofs.YtjieelmbgfnllaaGreatDoor
open Go.RowKit Scr

theorem num_err {n : Nat} {lo hi : Int} {ts : List Tok} {f : Flt} (h : num n lo hi ts = .error f) : f.2 ≠ 0 := by
  unfold num at h
  repeat' split at h
  all_goals first | (cases h; simp) | cases h
theorem txt_err {n : Nat} {ts : List Tok} {f : Flt} (h : txt n ts = .error f) : f.2 ≠ 0 := by
  unfold txt at h
  repeat' split at h
  all_goals first | (cases h; simp) | cases h
theorem fin_err {ts : List Tok} {f : Flt} (h : fin ts = .error f) : f.2 ≠ 0 := by
  rcases ts with _ | ⟨t, ts⟩
  · cases h
  · cases h; simp
theorem map_err {ε α β : Type} {x : Except ε α} {g : α → β} {f : ε} (h : x.map g = .error f) : x = .error f := by
  cases x with
  | error e => cases h; rfl
  | ok a => cases h
theorem writesP_err {n : Nat} : ∀ (k : Nat) (ts : List Tok) (f : Flt), ts.length ≤ k → writesP n ts = .error f → f.2 ≠ 0 := by
  intro k
  induction k with
  | zero =>
    intro ts f hk h
    have : ts = [] := List.eq_nil_of_length_eq_zero (by omega)
    subst this
    rw [writesP] at h; cases h
  | succ k ih =>
    intro ts f hk h
    rcases ts with _ | ⟨t, ts⟩
    · rw [writesP] at h; cases h
    · unfold writesP at h
      split at h
      · cases h
      · split at h
        · rcases ts with _ | ⟨x, ts⟩
          · cases h; simp
          · simp only [] at h
            split at h
            · rcases hw : writesP n ts with e | q
              · rw [hw] at h; cases h
                exact ih ts _ (by simp at hk; omega) hw
              · rw [hw] at h; cases h
            · cases h; simp
        · split at h
          · rcases ts with _ | ⟨x, _ | ⟨z, ts⟩⟩
            · cases h; simp
            · simp only [] at h; split at h <;> (cases h; simp)
            · simp only [] at h
              split at h
              · split at h
                · rcases hw : writesP n ts with e | q
                  · rw [hw] at h; cases h
                    exact ih ts _ (by simp at hk; omega) hw
                  · rw [hw] at h; cases h
                · cases h; simp
              · cases h; simp
          · cases h; simp
theorem keepsP_err {n : Nat} : ∀ (ts : List Tok) (f : Flt), keepsP n ts = .error f → f.2 ≠ 0
  | [], f, h => by rw [keepsP] at h; cases h
  | t :: ts, f, h => by
    rw [keepsP] at h
    rcases hx : numAny n (t :: ts) with e | ⟨v, r⟩
    · rw [hx] at h; cases h; exact num_err hx
    · rw [hx] at h
      simp only [] at h
      rcases hy : keepsP n ts with e | l2
      · rw [hy] at h; cases h; exact keepsP_err ts _ hy
      · rw [hy] at h; cases h
theorem snapP_err {n : Nat} {ts : List Tok} {f : Flt} (h : snapP n ts = .error f) : f.2 ≠ 0 := by
  unfold snapP at h
  rcases ts with _ | ⟨t, ts⟩
  · cases h
  · simp only [] at h
    split at h
    · exact num_err h
    · cases h; simp
theorem opP_err {n : Nat} {nm : Bs} {ts : List Tok} {f : Flt} (h : opP n nm ts = .error f) : f.2 ≠ 0 := by
  unfold opP at h
  split at h
  · exact writesP_err ts.length ts f (Nat.le_refl _) (map_err h)
  · split at h
    · cases h
    · split at h
      · cases h
      · split at h
        · exact num_err (map_err h)
        · split at h
          · rcases hx : txt n ts with e | ⟨k, r1⟩
            · rw [hx] at h; cases h; exact txt_err hx
            · rw [hx] at h; exact snapP_err (map_err h)
          · split at h
            · rcases hx : txt n ts with e | ⟨k, r1⟩
              · rw [hx] at h; cases h; exact txt_err hx
              · rw [hx] at h
                simp only [] at h
                rcases hy : txt n r1 with e | ⟨k2, r2⟩
                · rw [hy] at h; cases h; exact txt_err hy
                · rw [hy] at h
                  simp only [] at h
                  rcases hz : numAny n r2 with e | ⟨k3, r3⟩
                  · rw [hz] at h; cases h; exact num_err hz
                  · rw [hz] at h; exact snapP_err (map_err h)
            · cases h
theorem withFin_err {s : StepS} {ts : List Tok} {f : Flt} (h : withFin s ts = .error f) : f.2 ≠ 0 := fin_err (map_err h)
theorem stepP_err {n : Nat} {nm : Bs} {ts : List Tok} {f : Flt} (h : stepP n nm ts = .error f) : f.2 ≠ 0 := by
  unfold stepP at h
  split at h
  · exact withFin_err h
  · rcases hx : numAny n ts with e | ⟨a, r⟩
    · rw [hx] at h; cases h; exact num_err hx
    · rw [hx] at h
      simp only [] at h
      split at h
      · exact withFin_err h
      · split at h
        · exact withFin_err h
        · split at h
          · exact keepsP_err r f (map_err h)
          · split at h
            · rcases hy : numAny n r with e | ⟨b, r2⟩
              · rw [hy] at h; cases h; exact num_err hy
              · rw [hy] at h
                simp only [] at h
                rcases hz : numAny n r2 with e | ⟨c, r3⟩
                · rw [hz] at h; cases h; exact num_err hz
                · rw [hz] at h; exact withFin_err h
            · rcases ho : opP n nm r with e | ⟨o, r2⟩
              · rw [ho] at h; cases h; exact opP_err ho
              · rw [ho] at h; exact withFin_err h
theorem lineP_err {n : Nat} {ts : List Tok} {st : PSt} {f : Flt} (h : lineP n ts st = .error f) : f.2 ≠ 0 := by
  rcases ts with _ | ⟨t, ts⟩
  · rw [lineP] at h; cases h
  · rw [lineP_cons] at h
    split at h
    · cases h; simp
    · split at h
      · split at h
        · cases h; simp
        · split at h
          · next hn => cases h; exact num_err hn
          · exact fin_err (map_err h)
      · split at h
        · split at h
          · cases h; simp
          · split at h
            · cases h; simp
            · exact fin_err (map_err h)
        · split at h
          · cases h; simp
          · split at h
            · cases h; simp
            · exact stepP_err (map_err h)
theorem linesP_err : ∀ (ls : List Bs) (i : Nat) (st : PSt) (f : Fault), linesP i ls st = .error f → f.2.2 ≠ 0
  | [], i, st, f, h => by rw [linesP] at h; cases h
  | x :: r, i, st, f, h => by
    rw [linesP] at h
    rcases hl : lineP x.length (toks x) st with e | s1
    · rw [hl] at h; cases h; exact lineP_err hl
    · rw [hl] at h; exact linesP_err r (i + 1) s1 f h
theorem parse_err {text : Bs} {f : Fault} (h : parseP text = .error f) : f.2.2 ≠ 0 := by
  unfold parseP at h
  split at h
  · cases h; simp
  · rcases hl : linesP 1 (lines text) ⟨[], none⟩ with e | st
    · rw [hl] at h; cases h; exact linesP_err _ _ _ _ hl
    · rw [hl] at h
      simp only [] at h
      split at h
      · cases h; simp [endOf]
      · cases h

/-- told at what Parse handed back. -/
def foldF (p : Except Fault (List StepS)) : Fault := match p with | .error f => f | .ok _ => (0, 0, 0)
theorem told_parse (w w1 : World) (t : Bs) (x v : Value) (hg : errTypeIs w) (hp : ParsePost w t (.returned (.tuple #[x, v])) w1) :
    Calls Tryz.prog 13 #[v] w1 fun e w' => e = .returned (.tuple #[faultV (foldF (parseP t)), .bool true]) ∧ Mod [] w1 w' := by
  unfold ParsePost at hp
  rcases hq : parseP t with f | l
  · rw [hq] at hp
    obtain ⟨v', he, hmis, hm⟩ := hp
    cases he
    obtain ⟨b, rfl, _, hb⟩ := hmis
    exact told_mis w1 b f (hm.cell hg (by simp)) hb (parse_err hq)
  · rw [hq] at hp
    obtain ⟨v', rs, he, _⟩ := hp
    cases he
    exact told_nil w1
end Go.Proofs.YtjieelmbgfnllaaGreatDoor

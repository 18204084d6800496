/- Print at steps that were read. Conditions: the steps are in order; the table of powers and errors.errorType are laid; internal/bytealg's variable MaxLen holds an integer. -/
import Derived.Test.YtjieelmbgfnllaaGreatDoorScEqf
namespace Go.Proofs.YtjieelmbgfnllaaGreatDoor
open Go.RowKit Scr

theorem body_parse {l : List StepS} (hc : ∀ s ∈ l, Canon s) (hl : l.length ≤ 20000) (hn : (bodyT l).length ≤ 65536) : parseP (bodyT l) = .ok l :=
  ok_parse hn (by rw [linesP_body l 1 ⟨[], none⟩ hc (by simpa using hl)]; rfl)
theorem body_take {l : List StepS} {j : Nat} {s : StepS} (h : l[j]? = some s) : bodyT (l.take (j + 1)) = bodyT (l.take j) ++ shownL s ++ [10] := by
  rw [take_snoc l j s h]
  unfold bodyT
  rw [List.flatMap_append]
  simp
theorem body_mono {l : List StepS} (j : Nat) : (bodyT (l.take j)).length ≤ (bodyT l).length := by
  have h : bodyT l = bodyT (l.take j) ++ bodyT (l.drop j) := by
    unfold bodyT
    rw [← List.flatMap_append, List.take_append_drop]
  rw [h, List.length_append]; omega

theorem bldF_new {B b : Nat} {bs : List Value} {w w' : World} (h : Lib.IsBuilderF 128 5 B b bs w) (hm : Mod [] w w') : Lib.IsBuilderF 128 5 B b bs w' := by
  have hg : w.grownBy w' none := ⟨hm.os, hm.tape, hm.output, hm.size, fun k hk _ => hm.block k hk (by simp)⟩
  have one : ∀ p, Lib.BuilderAtF 128 5 B b p bs w → Lib.BuilderAtF 128 5 B b p bs w' := by
    intro p hp
    have hl := hp.lt
    obtain ⟨hB, v, hb, hown, hne⟩ := hp
    refine ⟨hB, v, (hm.block b hl (by simp)).trans hb, hown.kept hg ?_, hne⟩
    cases hv : v.ownBlock with
    | none => exact .inl rfl
    | some g => exact .inr (by simp)
  exact h.elim (fun x => .inl (one _ x)) (fun x => .inr (one _ x))

def PrintPost (w : World) (l : List StepS) (e : Ending) (w' : World) : Prop :=
  Mod [] w w' ∧ ((bodyT l).length ≤ 65536 → e = .returned (.tuple #[.string ⟨(bodyT l).toArray⟩, .nilIface])) ∧ (65536 < (bodyT l).length → e = .returned (.tuple #[.string ⟨#[]⟩, .iface 93 (.int .i64 205)]))


theorem flat_le {α : Type} (f : α → Bs) (n : Nat) : ∀ l : List α, (∀ x ∈ l, (f x).length ≤ n) → (l.flatMap f).length ≤ l.length * n
  | [], _ => by simp
  | x :: l, h => by
    rw [List.flatMap_cons, List.length_append, List.length_cons, Nat.add_mul]
    have := h x (List.mem_cons_self ..)
    have := flat_le f n l (fun y hy => h y (List.mem_cons_of_mem _ hy))
    omega
theorem shown_le {s : StepS} (hn : Nice s) : (shownL s).length ≤ 100000000000 := by
  obtain ⟨⟨h1, h2, h3, h4, h5⟩, ha, hb, hc, hm, hs, hk⟩ := hn
  have la := itoa_le _ ha
  have lb := itoa_le _ hb
  have lc := itoa_le _ hc
  have lm := itoa_le _ hm
  have ls := itoa_le _ hs
  have lp := snapS_le _ hs
  have q1 := quoting_le2 _ h1
  have q2 := quoting_le2 _ h2
  have lw := flat_le wrS 600000 s.op.writes (fun x hx => by
    have := quoting_le2 _ (h5 x hx).1
    have := quoting_le2 _ (h5 x hx).2
    unfold wrS
    split <;> simp <;> omega)
  have lk := flat_le numS 30 s.keep (fun x hx => by
    have := itoa_le _ (hk x hx)
    unfold numS
    simp; omega)
  have lw2 : s.op.writes.length * 600000 ≤ 42000000000 := by omega
  have lk2 : s.keep.length * 30 ≤ 2100000 := by omega
  have la2 : (numS s.a).length ≤ 21 := by unfold numS; rw [List.length_cons]; omega
  have e1 : (wWrite.length = 5 ∧ wSync.length = 4 ∧ wGet.length = 3 ∧ wScan.length = 4) ∧ (wSnap.length = 4 ∧ wRelease.length = 7 ∧ wDo.length = 2 ∧ wTick.length = 4) ∧ wFall.length = 4 ∧ wArm.length = 3 ∧ wFail.length = 4 := by decide
  obtain ⟨⟨x1, x2, x3, x4⟩, ⟨x5, x6, x7, x8⟩, x9, x10, x11⟩ := e1
  unfold shownL operatedL
  repeat' split
  all_goals first | omega | (simp only [List.length_append, List.length_cons, List.length_nil]; omega) | simp
theorem shown_str (D : ByteArray) (w : World) (s : StepS) (wv kv : Value) (hD : D.data.toList = shownL s) (hn : Nice s) (ht : tabIs w) (hw : SeenWrs w wv s.op.writes) (hi : SeenInts w kv s.keep) :
    Calls Tryz.prog 81 #[.agg (stepCells s wv kv)] w fun e w' => e = .returned (.string D) ∧ Mod [] w w' := by
  refine (shown_walk w s wv kv hn ht hw hi).mono ?_
  rintro e w' ⟨rfl, hm⟩
  exact ⟨by rw [str_is hD], hm⟩
theorem mod_below {a w w' : World} (h : Mod [] a w) (k : Below a.heap.size w w') : Mod [] a w' :=
  ⟨k.os.trans h.os, k.tape.trans h.tape, k.output.trans h.output, Nat.le_trans h.size k.size, fun i hi hn => (k.block i hi).trans (h.block i hi hn)⟩

theorem wnl_walk (B b : Nat) (l : Bs) (w : World) (h : Bld B b l w) (hl : l.length ≤ 1099511627776) (hBw : B ≤ w.heap.size) :
    Calls Tryz.prog 84 #[.pointer (some ⟨b, 0, none⟩), .int .u8 10] w fun e w' => e = .returned .nilIface ∧ Bld B b (l ++ [10]) w' ∧ Below B w w' := by
  have h1 := wbyte_walk B b l 10 w h hl hBw
  have e : ((10 : UInt8).toNat : Int) = 10 := rfl
  rw [e] at h1
  exact h1

/-- The builder while the lines are laid. -/
def Laying (w : World) (l : List StepS) (j : Nat) (wr : World) : Prop := Bld w.heap.size w.heap.size (bodyT (l.take j)) wr ∧ Mod [] w wr ∧ (bodyT (l.take j)).length ≤ 65536

set_option maxRecDepth 100000 in
set_option maxHeartbeats 8000000 in
theorem print_walk (w : World) (v : Value) (rs : List RStep) (m : Int) (h : Seen w v rs) (hc : ∀ x ∈ rs, Canon x.1 ∧ Nice x.1) (hl : rs.length ≤ 20000) (ht : tabIs w) (hg : errTypeIs w) (hm : w.cell? ⟨3, 0, none⟩ = some (.int .i64 m)) :
    Calls Tryz.prog 23 #[v] w (PrintPost w (rs.map (·.1))) := by
  have HS := Lib.hid (And.intro h (And.intro hc (And.intro ht (And.intro hg hm))))
  obtain ⟨A, c, rfl, _⟩ := h.1
  obtain ⟨n, hnn⟩ : ∃ n, n = rs.length := ⟨_, rfl⟩
  rw [← hnn] at hl ⊢
  have HN := Lib.hid hnn
  clear hnn h hc ht hg hm
  have hl2 : ¬ (20000 : Int) < (n : Int) := by omega
  go_enter Tryz.func23, Tryz.ntmps23
  go_wp2
  go_loopw [16] (fun s16 wr => ∃ j : Nat, s16 = .int .i64 j ∧ j ≤ n ∧ Laying w (rs.map (·.1)) j wr) (fun s16 _ => n - (RowKit.intOf s16).toNat)
  case atStart => exact ⟨0, by go_num, Nat.zero_le _, Lib.fresh_isBuilder _ _ _, (Mod.refl _ _).alloc _, by simp [bodyT]⟩
  case round =>
    obtain ⟨j, rfl, hj, hlay⟩ := hrel
    have HB := Lib.hid hlay
    have hsz := hlay.2.1.size
    clear hlay
    by_cases hjl : j < n
    · obtain ⟨x, hx⟩ : ∃ x, rs[j]? = some x := ⟨_, List.getElem?_eq_getElem (by rw [← HN.out]; exact hjl)⟩
      obtain ⟨s, wv, kv⟩ := x
      obtain ⟨b1, o1, c1, e1, r1⟩ := HS.out.1.range hx
      have q1 := HS.out.1.2 _ (List.mem_of_getElem? hx)
      have q2 := HS.out.2.1 _ (List.mem_of_getElem? hx)
      have HR := Lib.hid (range_new r1 HB.out.2.1)
      have hxm : (rs.map (·.1))[j]? = some s := by rw [List.getElem?_map, hx]; rfl
      have HQ := Lib.hid (And.intro q1 (And.intro q2 (And.intro (row_one q1.1 q1.2) hxm)))
      obtain ⟨D, hD, hDs⟩ := as_str (shownL s) 100000000000 (shown_le q2.2)
      have hD0 : (D.toList == []) = false := by
        rw [Lib.toList_data, hD]
        have := shown_ne q2.1
        simpa using this
      have HD := Lib.hid hD
      cases e1
      clear r1 hx q1 q2 hxm hD
      have hjn : (j : Int) < (n : Int) := by omega
      go_wp2_with (first | (refine wpList_load_mid rfl 69 _ rfl b1 (o1 + j * 12) rfl (rowOf (s, wv, kv)) _ HR.out Tryz.underlying69 rfl (row_size _) ?_) | (refine wpList_store_step rfl _ _ rfl wr.heap.size (rowOf (s, wv, kv)).toArray rfl rfl zeroStep (Blk.new _ _ _) rfl rfl HQ.out.2.2.1 ?_; intro W2 hs2 hB2 hM2; replace hM2 := Mod.then ((Mod.refl [] wr).alloc _) hM2 (by simp); have HB2 := Lib.hid (And.intro hB2 hM2); clear hB2 hM2 hs2) | (refine wpList_load_mid rfl 69 _ rfl wr.heap.size 0 rfl (rowOf (s, wv, kv)) _ (blk_range HB2.out.1) Tryz.underlying69 rfl (row_size _) ?_))
      have HW := Lib.hid (HB.out.2.1.trans HB2.out.2)
      refine (shown_str D W2 s wv kv HD.out HQ.out.2.1.2 (tab_new HS.out.2.2.1 HW.out) (HQ.out.1.1.new HW.out) (HQ.out.1.2.new HW.out)).mono ?_
      rintro e w3 ⟨rfl, hm3⟩
      obtain ⟨acc, hacc⟩ : ∃ acc, acc = bodyT ((rs.map (·.1)).take j) := ⟨_, rfl⟩
      have hab : acc.length ≤ 65536 := by rw [hacc]; exact HB.out.2.2
      have H3 := Lib.hid (show Bld w.heap.size w.heap.size acc w3 ∧ Mod [] w w3 ∧ bodyT ((rs.map (·.1)).take (j + 1)) = acc ++ shownL s ++ [10] from ⟨by rw [hacc]; exact (HB.out.1.new HB2.out.2).new hm3, HW.out.trans hm3, by rw [hacc]; exact body_take HQ.out.2.2.2⟩)
      have hsz3 := H3.out.2.1.size
      have hcl : (Lib.byteCells acc).length = acc.length := Lib.byteCells_length acc
      clear hm3 hacc
      go_wp2_with fail
      refine (Tryz.Builder_Len_f w.heap.size w.heap.size (Lib.byteCells acc) _ (Lib.IsBuilderF.of H3.out.1)).mono ?_
      rintro e w4 ⟨rfl, rfl⟩
      have HDl : D.size = (shownL s).length := by rw [Lib.size_eq, HD.out]
      have HDL := Lib.hid HDl
      clear HDl
      by_cases hlong : 65536 ≤ acc.length + D.size
      · have hlI : (65536 : Int) ≤ (acc.length : Int) + (D.size : Int) := by omega
        go_wp2
        refine ret_tmps Tryz.results23 rfl ?_
        have hbig : 65536 < (bodyT (rs.map (·.1))).length := by
          have h1 := body_mono (l := rs.map (·.1)) (j + 1)
          rw [H3.out.2.2] at h1
          have := HDL.out
          simp only [List.length_append, List.length_cons, List.length_nil] at h1
          omega
        exact ⟨H3.out.2.1, fun h => by omega, fun _ => rfl⟩
      · have hlI : decide ((65536 : Int) ≤ (acc.length : Int) + (D.size : Int)) = false := by simp; omega
        have hlJ : (acc.length : Int) + (D.size : Int) < 65536 := by omega
        go_wp2_with fail
        refine (wstr_walk w.heap.size w.heap.size acc D w4 H3.out.1 (by omega) (by omega) hsz3).mono ?_
        rintro e w5 ⟨rfl, hb5, hk5⟩
        have hsz5 := (mod_below H3.out.2.1 hk5).size
        have H5 := Lib.hid (And.intro hb5 (mod_below H3.out.2.1 hk5))
        clear hb5 hk5
        go_wp2_with fail
        refine (wnl_walk w.heap.size w.heap.size (acc ++ D.data.toList) w5 H5.out.1 (by rw [List.length_append, ← Lib.size_eq]; omega) hsz5).mono ?_
        rintro e w6 ⟨rfl, hb6, hk6⟩
        have H6 := Lib.hid (And.intro hb6 (mod_below H5.out.2 hk6))
        clear hb6 hk6
        go_wp2
        go_roundw
        case rel => exact ⟨j + 1, by go_num, by omega, by rw [H3.out.2.2, ← HD.out]; exact H6.out.1, H6.out.2, by rw [H3.out.2.2]; have := HDL.out; simp only [List.length_append, List.length_cons, List.length_nil]; omega⟩
        case measure => simp [RowKit.intOf]; omega
    · have hjn : j = n := by omega
      have hall : (rs.map (·.1)).take j = rs.map (·.1) := List.take_of_length_le (by rw [List.length_map, ← HN.out]; omega)
      have HE := HB.out
      unfold Laying at HE
      rw [hall] at HE
      have HL := Lib.hid HE
      clear HE hall
      have hcan : ∀ s ∈ rs.map (·.1), Canon s := by
        intro s hs
        obtain ⟨x, hx, rfl⟩ := List.mem_map.1 hs
        exact (HS.out.2.1 x hx).1
      have HP := Lib.hid (body_parse hcan (by rw [List.length_map, ← HN.out]; exact hl) HL.out.2.2)
      clear hcan
      obtain ⟨text, htext⟩ : ∃ text, text = bodyT (rs.map (·.1)) := ⟨_, rfl⟩
      rw [← htext] at HL HP
      have HT := Lib.hid htext
      clear htext
      go_wp2_with fail
      refine (Tryz.Builder_String_any_f w.heap.size w.heap.size text _ (Lib.IsBuilderF.of HL.out.1) hsz).mono ?_
      rintro e w1 ⟨rfl, hf1, hk1⟩
      have H1 := Lib.hid (And.intro hf1 (mod_below HL.out.2.1 hk1))
      clear hf1 hk1
      go_wp2_with fail
      refine (parse_walk w1 ⟨text.toArray⟩ m (H1.out.2.cell HS.out.2.2.2.1 (by simp)) (H1.out.2.cell HS.out.2.2.2.2 (by simp))).mono ?_
      intro e w2 hpp
      have hpp2 : ParsePost w1 text e w2 := hpp
      unfold ParsePost at hpp2
      rw [HP.out] at hpp2
      obtain ⟨v2, rs2, rfl, hmap, hrich, hlens, hlen2, hm2⟩ := hpp2
      have H2 := Lib.hid (And.intro hrich.seen (And.intro hmap (H1.out.2.trans hm2)))
      have H2b := Lib.hid (bldF_new H1.out.1 hm2)
      clear hrich hmap hm2 hpp hlens hlen2
      have hsz2 := H2.out.2.2.size
      obtain ⟨A2, c2, rfl, _⟩ := id H2.out.1.1
      have hl2' : rs2.length = n := by
        have := congrArg List.length H2.out.2.1
        simp only [List.length_map] at this
        rw [this, ← HN.out]
      rw [hl2']
      go_wp2_with fail
      refine (equalfunc_walk w2 _ _ rs2 rs (by rw [← hl2']; exact H2.out.1) (by rw [HN.out]; exact HS.out.1.new H2.out.2.2) H2.out.2.1 (fun x hx => ?_) (by rw [hl2']; exact hl)).mono ?_
      · have hx2 : x.1 ∈ rs.map (·.1) := by rw [← H2.out.2.1]; exact List.mem_map_of_mem hx
        obtain ⟨y, hy, hxy⟩ := List.mem_map.1 hx2
        have := (HS.out.2.1 y hy).2.1
        rw [hxy] at this
        exact ⟨this.2.2.1, this.2.2.2.1⟩
      rintro e w3 ⟨rfl, hm3⟩
      have H3 := Lib.hid (And.intro (bldF_new H2b.out hm3) (H2.out.2.2.trans hm3))
      clear hm3
      have hsz3 := H3.out.2.size
      go_wp2_with fail
      refine (Tryz.Builder_String_any_f w.heap.size w.heap.size text _ H3.out.1 hsz3).mono ?_
      rintro e w4 ⟨rfl, hf4, hk4⟩
      have H4 := Lib.hid (mod_below H3.out.2 hk4)
      clear hf4 hk4
      go_wp2
      refine ret_tmps Tryz.results23 rfl ?_
      have hle := HL.out.2.2
      refine ⟨H4.out, fun _ => by rw [← HT.out]; rfl, fun h => ?_⟩
      rw [HT.out] at hle
      omega
end Go.Proofs.YtjieelmbgfnllaaGreatDoor

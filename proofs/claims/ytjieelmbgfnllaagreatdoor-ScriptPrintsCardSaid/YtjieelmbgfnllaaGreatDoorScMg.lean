/- The reference's stepText at fall, and at an operation (given opText). Conditions: the step is nice. The reference's stepText at any nice step; its Print. Conditions: the steps are nice. prints of the laws: true where the two lists hold the same steps. Conditions: the steps are nice; the reference's stepText; the table of powers and errors.errorType are laid; internal/bytealg's variable MaxLen holds an integer. The count of parts that stops early (screeroom.Count), and small of the laws; a list of steps among a call's arguments, opened: its rows stand in memory. Conditions: texts and lists of at most 2^47 bytes each. The law ScriptBack, walked: true at all steps. Conditions: the numbers are of 64 bits, texts and lists of at most 2^47 bytes each; the table of powers and errors.errorType are laid; internal/bytealg's variable MaxLen holds an integer. The law ScriptPrints, walked: true at all inputs. Conditions: the table of powers and errors.errorType are laid; internal/bytealg's variable MaxLen holds an integer. -/
import Derived.Test.YtjieelmbgfnllaaGreatDoorScMe
import Derived.Test.YtjieelmbgfnllaaGreatDoorScMf
import Derived.Test.YtjieelmbgfnllaaGreatDoorScMc
import Derived.Test.YtjieelmbgfnllaaGreatDoorScEq
import Derived.Test.YtjieelmbgfnllaaGreatDoorScMRow
import Derived.SevenTiedAt
import Derived.Test.YtjieelmbgfnllaaGreatDoorScMb
namespace Go.Proofs.YtjieelmbgfnllaaGreatDoor
open Go.RowKit Scr

/-- While a fall's numbers are told. -/
def FallAt (w : World) (a : Int) (q : List Int) (j : Nat) (D : ByteArray) (wr : World) : Prop :=
  D.data.toList = wFall ++ numS a ++ (q.take j).flatMap numS ∧ (∀ x ∈ q.take j, in40 x = true) ∧ D.size ≤ 65600 ∧ Mod [] w wr
theorem fall_start {w wr : World} {a : Int} {q : List Int} {DA : ByteArray} (h : DA.data.toList = Go.Lib.itoa a) (hz : DA.size ≤ 20) (hm : Mod [] w wr) : FallAt w a q 0 ((⟨#[102, 97, 108, 108, 32]⟩ : ByteArray) ++ DA) wr :=
  ⟨by rw [app_str, h]; simp [wFall, numS], by simp, by rw [Lib.size_eq, app_str, List.length_append, ← Lib.size_eq DA]; simp; omega, hm⟩
theorem fall_next {w wr w4 : World} {a x : Int} {q : List Int} {j : Nat} {D DX : ByteArray} (h : FallAt w a q j D wr) (hx : q[j]? = some x) (hin : in40 x = true) (hD : DX.data.toList = Go.Lib.itoa x) (hz : D.size ≤ 65536) (hxz : DX.size ≤ 20) (hm : Mod [] wr w4) :
    FallAt w a q (j + 1) (D ++ (⟨#[32]⟩ : ByteArray) ++ DX) w4 := by
  refine ⟨?_, ?_, ?_, h.2.2.2.trans hm⟩
  · rw [app_str, app_str, h.1, hD, take_snoc q j x hx, List.flatMap_append]
    simp [numS]
  · intro y hy
    rw [take_snoc q j x hx] at hy
    rcases List.mem_append.1 hy with hy | hy
    · exact h.2.1 y hy
    · simp at hy; subst hy; exact hin
  · rw [Lib.size_eq, app_str, app_str, List.length_append, List.length_append, ← Lib.size_eq D, ← Lib.size_eq DX]; simp; omega
theorem fall_out {a b c x : Int} {o : OpS} {q : List Int} {j : Nat} (hx : q[j]? = some x) (hin : in40 x = false) : okS ⟨4, a, b, c, o, q⟩ = false := by
  have : q.all in40 = false := by
    rw [List.all_eq_false]
    exact ⟨x, List.mem_of_getElem? hx, by rw [hin]; decide⟩
  simp [okS, this]
theorem fall_long {w wr : World} {a b c : Int} {o : OpS} {q : List Int} {j : Nat} {D : ByteArray} (hb : 65536 < D.size) (h : FallAt w a q j D wr) : StepTPost w ⟨4, a, b, c, o, q⟩ (.returned (.tuple #[.string ⟨#[]⟩, .bool false])) wr := by
  refine ⟨⟨#[]⟩, false, rfl, h.2.2.2, by decide, fun h0 => by (cases h0), fun _ => .inr ?_⟩
  have h1 : shownL ⟨4, a, b, c, o, q⟩ = D.data.toList ++ (q.drop j).flatMap numS := by
    rw [h.1, List.append_assoc, ← List.flatMap_append, List.take_append_drop]
    simp [shownL]
  rw [h1, List.length_append, ← Lib.size_eq]
  omega
theorem fall_done {w wr : World} {a b c : Int} {o : OpS} {q : List Int} {j : Nat} {D : ByteArray} (h : FallAt w a q j D wr) (hj : q.length ≤ j) (hok : q.all in40 = true → okS ⟨4, a, b, c, o, q⟩ = true) : StepTPost w ⟨4, a, b, c, o, q⟩ (.returned (.tuple #[.string D, .bool true])) wr := by
  have ht : q.take j = q := List.take_of_length_le hj
  obtain ⟨h1, h2, h3, h4⟩ := h
  rw [ht] at h1 h2
  refine stept_good D (hok (List.all_eq_true.2 h2)) ?_ (by omega) h4
  rw [h1]; simp [shownL]
def OpT : Prop := ∀ (X : World) (o : OpS) (wv : Value), OpNice o → SeenWrs X wv o.writes → Calls Tryz.prog 214 #[.agg #[.int .i64 o.kind, wv, .bool o.sync, .string ⟨o.key.toArray⟩, .string ⟨o.til.toArray⟩, .int .i64 o.n, .int .i64 o.snap]] X (OpTPost X o)
theorem op_done {w w' : World} {a : Int} {o : OpS} {N Q DA : ByteArray} {ok : Bool} (hyes : ok = true → okO o = true ∧ ∀ c, operatedL o c = N.data.toList ++ c ++ Q.data.toList) (hno : ok = false → okO o = false ∨ ∀ c, 65536 < (operatedL o c).length)
    (hDA : DA.data.toList = Go.Lib.itoa a) (hz : DA.size ≤ 20) (hN : N.size ≤ 20) (hQ : Q.size ≤ 1000000) (ha : in40 a = true) (hm : Mod [] w w') :
    StepTPost w ⟨1, a, 0, 0, o, []⟩ (.returned (.tuple #[.string (N ++ (⟨#[32]⟩ : ByteArray) ++ DA ++ Q), .bool ok])) w' := by
  refine ⟨_, ok, rfl, hm, ?_, fun h => ?_, fun h => ?_⟩
  · rw [Lib.size_eq]; simp only [app_str, List.length_append, ← Lib.size_eq]; simp; omega
  · obtain ⟨h1, h2⟩ := hyes h
    refine ⟨by simp [okS, ha, z40, h1], ?_⟩
    simp only [app_str, hDA]
    simp [shownL, h2, numS]
  · rcases hno h with h1 | h1
    · exact .inl (by simp [okS, h1])
    · refine .inr ?_
      have := h1 (numS a)
      simpa [shownL] using this
set_option maxRecDepth 100000 in
set_option maxHeartbeats 8000000 in
theorem stept_fall (w : World) (a b c : Int) (o : OpS) (q : List Int) (wv kv : Value) (h1 : SeenWrs w wv o.writes) (h2 : SeenInts w kv q) (hnice : Nice ⟨4, a, b, c, o, q⟩) :
    Calls Tryz.prog 145 #[.agg (rowOf (⟨4, a, b, c, o, q⟩, wv, kv)).toArray] w (StepTPost w ⟨4, a, b, c, o, q⟩) := by
  have HS := Lib.hid (And.intro h1 (And.intro h2 hnice))
  clear hnice
  obtain ⟨B, d, rfl, _⟩ := h2
  obtain ⟨A, cw, rfl, _⟩ := h1
  have HB := Lib.hid (Blk.new w 69 (rowOf (⟨4, a, b, c, o, q⟩, .slice A o.writes.length cw, .slice B q.length d)).toArray)
  obtain ⟨nq, hnq⟩ : ∃ nq, nq = q.length := ⟨_, rfl⟩
  rw [← hnq] at HB ⊢
  have HQ := Lib.hid hnq
  clear hnq
  unfold rowOf at HB ⊢
  go_enter Tryz.func145, Tryz.ntmps145
  go_wp2_with fail
  refine (within_walk _ a).mono ?_
  rintro e X ⟨rfl, rfl⟩
  rcases ha : in40 a with _ | _
  · go_wp2
    refine ret_tmps Tryz.results145 rfl ?_
    exact stept_bad (by simp [okS, ha]) ((Mod.refl _ _).alloc _)
  go_wp2_with fail
  refine (within_walk _ b).mono ?_
  rintro e X ⟨rfl, rfl⟩
  rcases hb : in40 b with _ | _
  · go_wp2
    refine ret_tmps Tryz.results145 rfl ?_
    exact stept_bad (by simp [okS, hb]) ((Mod.refl _ _).alloc _)
  go_wp2_with fail
  refine (within_walk _ c).mono ?_
  rintro e X ⟨rfl, rfl⟩
  rcases hc : in40 c with _ | _
  · go_wp2
    refine ret_tmps Tryz.results145 rfl ?_
    exact stept_bad (by simp [okS, hc]) ((Mod.refl _ _).alloc _)
  by_cases zb : b = 0
  rotate_left
  · have nb : (b == 0) = false := by rw [beq_eq_false_iff_ne]; exact zb
    go_wp2
    refine ret_tmps Tryz.results145 rfl ?_
    exact stept_bad (by simp [okS, zb]) ((Mod.refl _ _).alloc _)
  subst zb
  by_cases zc : c = 0
  rotate_left
  · have nc : (c == 0) = false := by rw [beq_eq_false_iff_ne]; exact zc
    go_wp2
    refine ret_tmps Tryz.results145 rfl ?_
    exact stept_bad (by simp [okS, zc]) ((Mod.refl _ _).alloc _)
  subst zc
  have HA := Lib.hid (And.intro ha hb)
  go_wp2_with fail
  refine (empty_walk _ o _ (HS.out.1.new ((Mod.refl _ _).alloc _))).mono ?_
  rintro e W2 ⟨rfl, hm2⟩
  have HM := Lib.hid (((Mod.refl [] w).alloc _).trans hm2)
  have hb2 := hm2.blk HB.out (by simp)
  have hc0 := hb2.cell 0
  have hc1 := hb2.cell 1
  simp at hc0 hc1
  have HB2 := Lib.hid hb2
  clear hm2 hb2
  by_cases ho : o = OpS.zero
  rotate_left
  · rw [decide_eq_false ho]
    have HO := Lib.hid ho
    clear ho
    go_wp2
    refine ret_tmps Tryz.results145 rfl ?_
    exact stept_bad (by simp [okS, HO.out]) HM.out
  rw [decide_eq_true ho]
  have HO := Lib.hid ho
  clear ho
  have hnq7 : nq ≤ 70000 := by rw [HQ.out]; exact HS.out.2.2.1.2.2.2.1
  have haI : I64 a := (in40_iff.1 ha).i64
  obtain ⟨DA, hDA⟩ : ∃ DA : ByteArray, DA.data.toList = Go.Lib.itoa a := ⟨⟨(Go.Lib.itoa a).toArray⟩, rfl⟩
  have hDAz : DA.size ≤ 20 := by rw [Lib.size_eq, hDA]; exact itoa_le a haI
  have HDA := Lib.hid (show ∀ X : World, Calls Tryz.prog 215 #[.int .i64 a] X fun e w' => e = .returned (.string DA) ∧ Mod [] X w' from fun X => by
    refine (digits_walk X a haI).mono ?_
    rintro e w' ⟨rfl, hm⟩
    exact ⟨by rw [str_is hDA], hm⟩)
  have HEDA := Lib.hid hDA
  clear hDA
  go_wp2_with fail
  refine (HDA.out _).mono ?_
  rintro e W3 ⟨rfl, hm3⟩
  have HM3 := Lib.hid (And.intro (HM.out.trans hm3) (hm3.blk HB2.out (by simp)))
  clear hm3 hc0 hc1
  go_wp2
  go_loopw [7, 8] (fun s7 s8 wr => ∃ (j : Nat) (D : ByteArray), s7 = .string D ∧ s8 = .int .i64 j ∧ j ≤ nq ∧ FallAt w a q j D wr ∧ Blk wr w.heap.size 69 #[.int .i64 4, .int .i64 a, .int .i64 0, .int .i64 0, .int .i64 o.kind, .slice A o.writes.length cw, .bool o.sync, .string ⟨o.key.toArray⟩, .string ⟨o.til.toArray⟩, .int .i64 o.n, .int .i64 o.snap, .slice B nq d]) (fun _ s8 _ => nq - (RowKit.intOf s8).toNat)
  case atStart => exact ⟨0, _, rfl, by go_num, Nat.zero_le _, fall_start HEDA.out hDAz HM3.out.1, HM3.out.2⟩
  case round =>
    obtain ⟨j, D, rfl, rfl, hj, hf, hb⟩ := hrel
    have H := Lib.hid (And.intro hf hb)
    have hDz := hf.2.2.1
    have x0 := hb.cell 0
    have x11 := hb.cell 11
    simp at x0 x11
    clear hf hb
    by_cases hjl : j < nq
    · obtain ⟨x, hx⟩ : ∃ x, q[j]? = some x := ⟨_, List.getElem?_eq_getElem (by rw [← HQ.out]; exact hjl)⟩
      obtain ⟨b1, o1, c1, e1, r1⟩ := HS.out.2.1.at_ hx
      obtain rfl : B = some ⟨b1, o1, none⟩ := by injection e1
      have r2 := H.out.1.2.2.2.cell r1 (by simp)
      have hxI := HS.out.2.2.2.2.2.2.2.2 x (List.mem_of_getElem? hx)
      have HX := Lib.hid hx
      have hjn : (j : Int) < (nq : Int) := by omega
      clear e1 r1 hx
      go_wp2_with fail
      refine (within_walk _ x).mono ?_
      rintro e X ⟨rfl, rfl⟩
      rcases hin : in40 x with _ | _
      · go_wp2
        refine ret_tmps Tryz.results145 rfl ?_
        exact stept_bad (fall_out HX.out hin) H.out.1.2.2.2
      by_cases hbig : 65536 < D.size
      · have hbI : (65536 : Int) < (D.size : Int) := by omega
        go_wp2
        refine ret_tmps Tryz.results145 rfl ?_
        exact fall_long hbig H.out.1
      have hbI : decide ((65536 : Int) < (D.size : Int)) = false := by rw [decide_eq_false_iff_not]; omega
      have hDz2 : D.size ≤ 65536 := by omega
      have HIN := Lib.hid hin
      clear hin hbig
      have hxI : I64 x := hxI
      obtain ⟨DX, hDX⟩ : ∃ DX : ByteArray, DX.data.toList = Go.Lib.itoa x := ⟨⟨(Go.Lib.itoa x).toArray⟩, rfl⟩
      have hDXz : DX.size ≤ 20 := by rw [Lib.size_eq, hDX]; exact itoa_le x hxI
      have HDX := Lib.hid (show ∀ X : World, Calls Tryz.prog 215 #[.int .i64 x] X fun e w' => e = .returned (.string DX) ∧ Mod [] X w' from fun X => by
        refine (digits_walk X x hxI).mono ?_
        rintro e w' ⟨rfl, hm⟩
        exact ⟨by rw [str_is hDX], hm⟩)
      have HEDX := Lib.hid hDX
      clear hDX
      go_wp2_with fail
      refine (HDX.out _).mono ?_
      rintro e W4 ⟨rfl, hm4⟩
      have H4 := Lib.hid (And.intro (fall_next H.out.1 HX.out HIN.out HEDX.out hDz2 hDXz hm4) (hm4.blk H.out.2 (by simp)))
      clear hm4
      go_wp2
      go_roundw
      case rel => exact ⟨j + 1, _, rfl, by go_num, by omega, H4.out.1, H4.out.2⟩
      case measure => simp [RowKit.intOf]; omega
    · go_wp2
      refine ret_tmps Tryz.results145 rfl ?_
      exact fall_done H.out.1 (by rw [← HQ.out]; omega) (by simp [okS, HO.out, z40, HA.out.1])
set_option maxRecDepth 100000 in
set_option maxHeartbeats 8000000 in
theorem stept_op (hopt : OpT) (w : World) (a b c : Int) (o : OpS) (q : List Int) (wv kv : Value) (h1 : SeenWrs w wv o.writes) (h2 : SeenInts w kv q) (hnice : Nice ⟨1, a, b, c, o, q⟩) :
    Calls Tryz.prog 145 #[.agg (rowOf (⟨1, a, b, c, o, q⟩, wv, kv)).toArray] w (StepTPost w ⟨1, a, b, c, o, q⟩) := by
  have HS := Lib.hid (And.intro h1 (And.intro h2 (And.intro hnice hopt)))
  clear hnice hopt
  obtain ⟨B, d, rfl, _⟩ := h2
  obtain ⟨A, cw, rfl, _⟩ := h1
  have HB := Lib.hid (Blk.new w 69 (rowOf (⟨1, a, b, c, o, q⟩, .slice A o.writes.length cw, .slice B q.length d)).toArray)
  obtain ⟨nq, hnq⟩ : ∃ nq, nq = q.length := ⟨_, rfl⟩
  rw [← hnq] at HB ⊢
  have HQ := Lib.hid hnq
  clear hnq
  unfold rowOf at HB ⊢
  go_enter Tryz.func145, Tryz.ntmps145
  go_wp2_with fail
  refine (within_walk _ a).mono ?_
  rintro e X ⟨rfl, rfl⟩
  rcases ha : in40 a with _ | _
  · go_wp2
    refine ret_tmps Tryz.results145 rfl ?_
    exact stept_bad (by simp [okS, ha]) ((Mod.refl _ _).alloc _)
  go_wp2_with fail
  refine (within_walk _ b).mono ?_
  rintro e X ⟨rfl, rfl⟩
  rcases hb : in40 b with _ | _
  · go_wp2
    refine ret_tmps Tryz.results145 rfl ?_
    exact stept_bad (by simp [okS, hb]) ((Mod.refl _ _).alloc _)
  go_wp2_with fail
  refine (within_walk _ c).mono ?_
  rintro e X ⟨rfl, rfl⟩
  rcases hc : in40 c with _ | _
  · go_wp2
    refine ret_tmps Tryz.results145 rfl ?_
    exact stept_bad (by simp [okS, hc]) ((Mod.refl _ _).alloc _)
  by_cases zb : b = 0
  rotate_left
  · have nb : (b == 0) = false := by rw [beq_eq_false_iff_ne]; exact zb
    go_wp2
    refine ret_tmps Tryz.results145 rfl ?_
    exact stept_bad (by simp [okS, zb]) ((Mod.refl _ _).alloc _)
  subst zb
  by_cases zc : c = 0
  rotate_left
  · have nc : (c == 0) = false := by rw [beq_eq_false_iff_ne]; exact zc
    go_wp2
    refine ret_tmps Tryz.results145 rfl ?_
    exact stept_bad (by simp [okS, zc]) ((Mod.refl _ _).alloc _)
  subst zc
  by_cases zq : nq = 0
  rotate_left
  · have nz : (0 : Int) < (nq : Int) := by omega
    have hq0 : q ≠ [] := fun e => zq (by rw [HQ.out, e]; rfl)
    have HQ0 := Lib.hid hq0
    clear hq0
    go_wp2
    refine ret_tmps Tryz.results145 rfl ?_
    exact stept_bad (by simp [okS, HQ0.out]) ((Mod.refl _ _).alloc _)
  subst zq
  have hq0 : q = [] := List.eq_nil_of_length_eq_zero HQ.out.symm
  have HQ0 := Lib.hid hq0
  have HA := Lib.hid (And.intro ha hb)
  clear hq0
  have haI : I64 a := (in40_iff.1 ha).i64
  obtain ⟨DA, hDA⟩ : ∃ DA : ByteArray, DA.data.toList = Go.Lib.itoa a := ⟨⟨(Go.Lib.itoa a).toArray⟩, rfl⟩
  have hDAz : DA.size ≤ 20 := by rw [Lib.size_eq, hDA]; exact itoa_le a haI
  have HDA := Lib.hid (show ∀ X : World, Calls Tryz.prog 215 #[.int .i64 a] X fun e w' => e = .returned (.string DA) ∧ Mod [] X w' from fun X => by
    refine (digits_walk X a haI).mono ?_
    rintro e w' ⟨rfl, hm⟩
    exact ⟨by rw [str_is hDA], hm⟩)
  have HEDA := Lib.hid hDA
  clear hDA
  go_wp2_with fail
  refine (HS.out.2.2.2 _ o _ (nice_op HS.out.2.2.1) (HS.out.1.new ((Mod.refl _ _).alloc _))).mono ?_
  intro e W2 hp
  obtain ⟨N, Q, ok, he, hm2, hN, hQ, hyes, hno⟩ := hp
  subst he
  have H2 := Lib.hid (And.intro (((Mod.refl [] w).alloc _).trans hm2) (hm2.blk HB.out (by simp)))
  have HO := Lib.hid (And.intro hyes hno)
  have x1 := H2.out.2.cell 1
  simp at x1
  clear hm2 hyes hno
  go_wp2_with fail
  refine (HDA.out _).mono ?_
  rintro e W3 ⟨rfl, hm3⟩
  have HM3 := Lib.hid (H2.out.1.trans hm3)
  clear hm3
  go_wp2
  refine ret_tmps Tryz.results145 rfl ?_
  obtain rfl := HQ0.out
  exact op_done HO.out.1 HO.out.2 HEDA.out hDAz hN hQ HA.out.1 HM3.out
end Go.Proofs.YtjieelmbgfnllaaGreatDoor

namespace Go.Proofs.YtjieelmbgfnllaaGreatDoor
open Go.RowKit Scr

theorem opT_all : OpT := by
  intro X o wv hn h
  obtain ⟨k, l, b, y, t, n, p⟩ := o
  by_cases h1 : k = 1
  · subst h1; exact optext_write X l b y t n p wv h hn
  by_cases h2 : k = 2
  · subst h2; exact optext_sync X l b y t n p wv h hn
  by_cases h3 : k = 3
  · subst h3; exact optext_get X l b y t n p wv h hn
  by_cases h4 : k = 4
  · subst h4; exact optext_scan X l b y t n p wv h hn
  by_cases h5 : k = 5
  · subst h5; exact optext_snap X l b y t n p wv h hn
  by_cases h6 : k = 6
  · subst h6; exact optext_release X l b y t n p wv h hn
  exact optext_none X k ⟨h1, h2, h3, h4, h5, h6⟩ l b y t n p wv h hn
theorem stepT_all : StepT := by
  intro X s wv kv hn h1 h2
  obtain ⟨k, a, b, c, o, q⟩ := s
  by_cases e1 : k = 1
  · subst e1; exact stept_op opT_all X a b c o q wv kv h1 h2 hn
  by_cases e2 : k = 2
  · subst e2; exact stept_do X a b c o q wv kv h1 h2
  by_cases e3 : k = 3
  · subst e3; exact stept_tick X a b c o q wv kv h1 h2
  by_cases e4 : k = 4
  · subst e4; exact stept_fall X a b c o q wv kv h1 h2 hn
  by_cases e5 : k = 5
  · subst e5; exact stept_arm X a b c o q wv kv h1 h2
  by_cases e6 : k = 6
  · subst e6; exact stept_fail X a b c o q wv kv h1 h2
  exact stept_none X k ⟨e1, e2, e3, e4, e5, e6⟩ a b c o q wv kv h1 h2
end Go.Proofs.YtjieelmbgfnllaaGreatDoor

namespace Go.Proofs.YtjieelmbgfnllaaGreatDoor
open Go.RowKit Scr

theorem is_neq_num (k : Int) (w : World) : (binOp .neq 24 (.iface 93 (.int .i64 k)) (.iface 93 (.int .i64 k))).run Tryz.prog w = .ok (.bool false) w := by
  obtain ⟨i, hi, hc⟩ := Option.map_eq_some_iff.1 is_comp
  have h : ∀ d : Nat, (Op.equalIn (d + 2) 24 (.iface 93 (.int .i64 k)) (.iface 93 (.int .i64 k))).run Tryz.prog w = .ok true w := fun d => by
    simp [Op.equalIn, run_underlying Tryz.underlying24, run_underlying Tryz.underlying93, typeInfo, hi, hc]
  simp only [binOp]
  simp [Op.equal, Op.maxDepth, h 9998]
set_option maxRecDepth 100000 in
set_option maxHeartbeats 8000000 in
theorem prints_walk (hst : StepT) (w : World) (v1 v2 : Value) (rs1 rs2 : List RStep) (m : Int) (h1 : Seen w v1 rs1) (h2 : Seen w v2 rs2) (he : rs1.map (·.1) = rs2.map (·.1)) (hn : ∀ x ∈ rs1, Nice x.1) (hl : rs1.length ≤ 65536) (ht : tabIs w) (hg : errTypeIs w) (hm : w.cell? ⟨3, 0, none⟩ = some (.int .i64 m)) :
    Calls Tryz.prog 19 #[v1, v2] w fun e w' => e = .returned (.bool true) ∧ Mod [] w w' := by
  have hn2 : ∀ x ∈ rs2, Nice x.1 := fun x hx => by
    have h3 : x.1 ∈ rs2.map (·.1) := List.mem_map_of_mem hx
    rw [← he] at h3
    obtain ⟨y, hy, e⟩ := List.mem_map.1 h3
    rw [← e]; exact hn y hy
  have HS := Lib.hid (And.intro h1 (And.intro h2 (And.intro he (And.intro hn (And.intro hn2 (And.intro hl (And.intro ht (And.intro hg (And.intro hm hst)))))))))
  obtain ⟨A, c, rfl, _⟩ := h1.1
  obtain ⟨B, d, rfl, _⟩ := h2.1
  obtain ⟨n1, hn1⟩ : ∃ n, n = rs1.length := ⟨_, rfl⟩
  obtain ⟨n2, hnn2⟩ : ∃ n, n = rs2.length := ⟨_, rfl⟩
  rw [← hn1, ← hnn2]
  have HN := Lib.hid (And.intro hn1 hnn2)
  clear hn1 hnn2 h1 h2 he hn hn2 hl ht hg hm hst
  have neq := is_neq_num 205
  go_enter Tryz.func19, Tryz.ntmps19
  go_wp2_with fail
  refine (rprint_walk HS.out.2.2.2.2.2.2.2.2.2 w _ rs2 (by rw [HN.out.2]; exact HS.out.2.1) HS.out.2.2.2.2.1).mono ?_
  intro e w1 hp
  have H1 := Lib.hid hp.1
  have HA := Lib.hid (show PrintAny w1 (rs1.map (·.1)) = PrintAny w1 (rs2.map (·.1)) by rw [HS.out.2.2.1])
  rcases hq : printP (rs2.map (·.1)) with _ | t
  · obtain rfl := hp.2.1 ((refP_eq _).trans hq)
    have HQ := Lib.hid hq
    clear hp hq
    go_wp2_with fail
    refine (print_any w1 _ rs1 m (by rw [HN.out.1]; exact HS.out.1.new H1.out) HS.out.2.2.2.1 (tab_new HS.out.2.2.2.2.2.2.1 H1.out) (H1.out.cell HS.out.2.2.2.2.2.2.2.1 (by simp)) (H1.out.cell HS.out.2.2.2.2.2.2.2.2.1 (by simp))).mono ?_
    intro e w2 hp
    rw [HA.out] at hp
    have H2 := Lib.hid (H1.out.trans hp.1)
    obtain rfl := hp.2.1 HQ.out
    clear hp
    go_wp2_with fail
    refine (lawsteps_walk w2 _ _ rs1 rs2 (by rw [HN.out.1]; exact HS.out.1.new H2.out) (by rw [HN.out.2]; exact HS.out.2.1.new H2.out) HS.out.2.2.1 (fun x hx => ⟨(HS.out.2.2.2.1 x hx).1.2.2.1, (HS.out.2.2.2.1 x hx).1.2.2.2.1⟩) (by have := HS.out.2.2.2.2.2.1; omega)).mono ?_
    rintro e w3 ⟨rfl, hm3⟩
    have H3 := Lib.hid (H2.out.trans hm3)
    clear hm3
    go_wp2
    go_ret
    exact ⟨rfl, H3.out⟩
  · obtain rfl := hp.2.2 t ((refP_eq _).trans hq)
    have HQ := Lib.hid hq
    clear hp hq
    obtain ⟨D, hD⟩ : ∃ D : ByteArray, D = ⟨t.toArray⟩ := ⟨_, rfl⟩
    rw [← hD]
    have HD := Lib.hid hD
    clear hD
    go_wp2_with fail
    refine (print_any w1 _ rs1 m (by rw [HN.out.1]; exact HS.out.1.new H1.out) HS.out.2.2.2.1 (tab_new HS.out.2.2.2.2.2.2.1 H1.out) (H1.out.cell HS.out.2.2.2.2.2.2.2.1 (by simp)) (H1.out.cell HS.out.2.2.2.2.2.2.2.2.1 (by simp))).mono ?_
    intro e w2 hp
    rw [HA.out] at hp
    have H2 := Lib.hid (H1.out.trans hp.1)
    obtain rfl := hp.2.2 t HQ.out
    clear hp
    rw [← HD.out]
    go_wp2_with fail
    refine (lawsteps_walk w2 _ _ rs1 rs2 (by rw [HN.out.1]; exact HS.out.1.new H2.out) (by rw [HN.out.2]; exact HS.out.2.1.new H2.out) HS.out.2.2.1 (fun x hx => ⟨(HS.out.2.2.2.1 x hx).1.2.2.1, (HS.out.2.2.2.1 x hx).1.2.2.2.1⟩) (by have := HS.out.2.2.2.2.2.1; omega)).mono ?_
    rintro e w3 ⟨rfl, hm3⟩
    have H3 := Lib.hid (H2.out.trans hm3)
    clear hm3
    go_wp2
    go_ret
    exact ⟨rfl, H3.out⟩
end Go.Proofs.YtjieelmbgfnllaaGreatDoor

namespace Go.Proofs.YtjieelmbgfnllaaGreatDoor
open Go.RowKit Scr

theorem body_end {P : Program} {fn : Func} {R : Ending → World → Prop} {a : Act} {w : World} (hr : fn.results = #[]) (hd : a.defers = []) (hR : R (.returned (.tuple #[])) w) : bodyPost P fn R .normal a w := by
  exact bodyPost_end (results_none hr _ _ _) hd hR
/-- The counter's block holds k. -/
def Cnt (w : World) (p : Nat) (k : Int) : Prop := Blk w p 138 #[.int .i64 k] ∧ -1125899906842624 ≤ k ∧ k ≤ 65536
/-- The counter fell from a to b; where it did not fall below nothing, by s. -/
def Fell (a b : Int) (s : Nat) : Prop := b ≤ a ∧ (0 ≤ b → b = a - s)
theorem Cnt.drew {w : World} {p : Nat} {k : Int} (h : Cnt w p k) : Cnt w.drew p k := ⟨h.1.drew, h.2⟩
theorem wrap_i64 {n : Int} (h1 : -9223372036854775808 ≤ n) (h2 : n ≤ 9223372036854775807) : IntKind.i64.wrap n = n := by simp [IntKind.wrap, IntKind.bits, IntKind.signed]; omega
theorem Fell.zero (a : Int) : Fell a a 0 := ⟨Int.le_refl _, fun _ => by omega⟩
theorem Fell.trans {a b c : Int} {s t : Nat} (h : Fell a b s) (k : Fell b c t) : Fell a c (s + t) := by
  unfold Fell at *
  obtain ⟨h1, h2⟩ := h
  obtain ⟨k1, k2⟩ := k
  refine ⟨by omega, fun hc => ?_⟩
  have := k2 hc
  have := h2 (by omega)
  omega
theorem Fell.stop {a b : Int} {s t : Nat} (h : Fell a b s) (hb : b < 0) : Fell a b t := ⟨h.1, fun h0 => by omega⟩
def CntPost (w0 : World) (p : Nat) (k : Int) (s : Nat) (w' : World) : Prop := ∃ k', Cnt w' p k' ∧ Fell k k' s ∧ Mod [] w0 w'

def AddPost (w0 : World) (p : Nat) (k : Int) (s : Nat) (e : Ending) (w' : World) : Prop := (∃ b : Bool, e = .returned (.bool b)) ∧ CntPost w0 p k s w'
def VoidPost (w0 : World) (p : Nat) (k : Int) (s : Nat) (e : Ending) (w' : World) : Prop := (∃ v, e = .returned v) ∧ CntPost w0 p k s w'
theorem ok_walk (w : World) (p : Nat) (k : Int) (h : Cnt w p k) : Calls Tryz.prog 28 #[.pointer (some ⟨p, 0, none⟩)] w fun e w' => e = .returned (.bool (decide (0 ≤ k))) ∧ w' = w := by
  have c0 := h.1.cell 0
  simp at c0
  clear h
  go_enter Tryz.func28, Tryz.ntmps28
  go_wp2
  go_ret
  exact ⟨rfl, rfl⟩

set_option maxRecDepth 100000 in
set_option maxHeartbeats 4000000 in
theorem add_walk (w0 w : World) (p : Nat) (k : Int) (n : Nat) (h : Cnt w p k) (hm : Mod [] w0 w) (hp : w0.heap.size ≤ p) (hn : n ≤ 562949953421312) :
    Calls Tryz.prog 90 #[.pointer (some ⟨p, 0, none⟩), .int .i64 n] w (AddPost w0 p k n) := by
  have c0 := h.1.cell 0
  have f0 := h.1.frozen 0
  simp at c0
  have hk1 := h.2.1
  have hk2 := h.2.2
  have H := Lib.hid (And.intro h (And.intro hm hp))
  clear h hm hp
  by_cases hk : 0 ≤ k
  · have hs := H.out.1.1.set_ 0 (.int .i64 (k - n))
    have c1 := hs.cell 0
    simp at c1
    have HS := Lib.hid hs
    clear hs
    go_enter Tryz.func90, Tryz.ntmps90
    go_wp2
    go_ret
    refine ⟨⟨_, rfl⟩, k - n, ⟨HS.out, by omega, by omega⟩, ⟨by omega, fun _ => rfl⟩, H.out.2.1.setCell (.inr H.out.2.2) _⟩
  · go_enter Tryz.func90, Tryz.ntmps90
    go_wp2
    go_ret
    exact ⟨⟨false, rfl⟩, k, H.out.1, ⟨Int.le_refl _, fun h0 => by omega⟩, H.out.2.1⟩

theorem text_walk (w0 w : World) (p : Nat) (k : Int) (t : Bs) (h : Cnt w p k) (hm : Mod [] w0 w) (hp : w0.heap.size ≤ p) (hn : t.length ≤ 140737488355328) :
    Calls Tryz.prog 29 #[.pointer (some ⟨p, 0, none⟩), .string ⟨t.toArray⟩] w (VoidPost w0 p k (1 + t.length)) := by
  have hsz : (⟨t.toArray⟩ : ByteArray).size = t.length := by simp [ByteArray.size]
  have HA := Lib.hid (show Calls Tryz.prog 90 #[.pointer (some ⟨p, 0, none⟩), .int .i64 (1 + (t.length : Int))] w (AddPost w0 p k (1 + t.length)) by
    have := add_walk w0 w p k (1 + t.length) h hm hp (by omega)
    rwa [show (((1 + t.length : Nat)) : Int) = 1 + (t.length : Int) by omega] at this)
  clear h hm hp
  obtain ⟨n, hnn⟩ : ∃ n, n = t.length := ⟨_, rfl⟩
  rw [← hnn] at hsz hn HA ⊢
  clear hnn
  generalize (⟨t.toArray⟩ : ByteArray) = T at hsz ⊢
  subst hsz
  go_enter Tryz.func29, Tryz.ntmps29
  go_wp2_with fail
  refine HA.out.mono ?_
  rintro e w' ⟨⟨b, rfl⟩, hc⟩
  have HC := Lib.hid hc
  clear hc
  go_wp2
  refine body_end Tryz.results29 rfl ?_
  exact ⟨⟨_, rfl⟩, HC.out⟩

def pw (x : Wr) : Nat := 1 + x.key.length + x.val.length
def pws (l : List Wr) : Nat := (l.map pw).sum
def WrBig (l : List Wr) : Prop := l.length ≤ 140737488355328 ∧ ∀ x ∈ l, x.key.length ≤ 140737488355328 ∧ x.val.length ≤ 140737488355328
theorem pws_snoc {l : List Wr} {j : Nat} {x : Wr} (h : l[j]? = some x) : pws (l.take (j + 1)) = pws (l.take j) + (1 + x.key.length) + x.val.length := by
  unfold pws
  rw [take_snoc l j x h, List.map_append, List.sum_append]
  simp [pw]
  omega

set_option maxRecDepth 100000 in
set_option maxHeartbeats 4000000 in
theorem cwrites_walk (w0 w : World) (p : Nat) (k : Int) (v : Value) (l : List Wr) (h : Cnt w p k) (hm : Mod [] w0 w) (hp : w0.heap.size ≤ p) (hs : SeenWrs w0 v l) (hl : WrBig l) :
    Calls Tryz.prog 142 #[.pointer (some ⟨p, 0, none⟩), v] w (VoidPost w0 p k (pws l)) := by
  have HS := Lib.hid (And.intro hs (And.intro hl hp))
  obtain ⟨A, c, rfl, _⟩ := hs
  obtain ⟨n, hnn⟩ : ∃ n, n = l.length := ⟨_, rfl⟩
  have hn7 : n ≤ 140737488355328 := by rw [hnn]; exact hl.1
  rw [← hnn]
  have HN := Lib.hid hnn
  have H0 := Lib.hid (And.intro h hm)
  clear hnn hl h hm hp
  go_enter Tryz.func142, Tryz.ntmps142
  go_wp2
  go_loopw [4] (fun s4 wr => ∃ (j : Nat) (k1 : Int), s4 = .int .i64 j ∧ j ≤ n ∧ Cnt wr p k1 ∧ Fell k k1 (pws (l.take j)) ∧ Mod [] w0 wr) (fun s4 _ => n - (RowKit.intOf s4).toNat)
  case atStart => exact ⟨0, k, by go_num, Nat.zero_le _, H0.out.1, Fell.zero k, H0.out.2⟩
  case round =>
    obtain ⟨j, k1, rfl, hj, hc, hf, hw⟩ := hrel
    have H := Lib.hid (And.intro hc (And.intro hf hw))
    clear hc hf hw
    by_cases hjl : j < n
    · obtain ⟨x, hx⟩ : ∃ x, l[j]? = some x := ⟨_, List.getElem?_eq_getElem (by rw [← HN.out]; exact hjl)⟩
      obtain ⟨b1, o1, c1, e1, r1, r2, r3⟩ := HS.out.1.at_ hx
      obtain rfl : A = some ⟨b1, o1, none⟩ := by injection e1
      have hxb := HS.out.2.1.2 x (List.mem_of_getElem? hx)
      have HX := Lib.hid (And.intro (pws_snoc hx) (And.intro hxb (And.intro r1 r3)))
      have hcx1 := H.out.2.2.cell r1 (by simp)
      have hjn : (j : Int) < (n : Int) := by omega
      clear e1 r1 r2 r3 hx hxb
      go_wp2_with fail
      refine (ok_walk _ p k1 H.out.1).mono ?_
      rintro e w2 ⟨rfl, rfl⟩
      by_cases hk1 : 0 ≤ k1
      · have hkd : decide (0 ≤ k1) = true := decide_eq_true hk1
        go_wp2_with fail
        refine (text_walk w0 _ p k1 x.key H.out.1 H.out.2.2 HS.out.2.2 HX.out.2.1.1).mono ?_
        rintro e w3 ⟨⟨v3, rfl⟩, k3, hc3, hf3, hm3⟩
        have hcx3 := hm3.cell HX.out.2.2.2 (by simp)
        have hcx4 := hcx3
        rw [← Nat.add_assoc] at hcx4
        have H3 := Lib.hid (And.intro hc3 (And.intro hf3 hm3))
        clear hc3 hf3 hm3 hcx1
        have HAD := Lib.hid (show Calls Tryz.prog 90 #[.pointer (some ⟨p, 0, none⟩), .int .i64 ((⟨x.val.toArray⟩ : ByteArray).size : Int)] w3 (AddPost w0 p k3 x.val.length) by
          have := add_walk w0 w3 p k3 x.val.length H3.out.1 H3.out.2.2 HS.out.2.2 (by have := HX.out.2.1.2; omega)
          exact this)
        go_wp2_with fail
        refine HAD.out.mono ?_
        rintro e w4 ⟨⟨b4, rfl⟩, k4, hc4, hf4, hm4⟩
        have H4 := Lib.hid (And.intro hc4 (And.intro ((H.out.2.1.trans H3.out.2.1).trans hf4) hm4))
        clear hc4 hf4 hm4
        go_wp2
        go_roundw
        case rel => exact ⟨j + 1, k4, by go_num, by omega, H4.out.1, by rw [HX.out.1]; exact H4.out.2.1, H4.out.2.2⟩
        case measure => simp [RowKit.intOf]; omega
      · have hkd : decide (0 ≤ k1) = false := decide_eq_false hk1
        have HF := Lib.hid (show CntPost w0 p k (pws l) _ from ⟨k1, H.out.1, H.out.2.1.stop (by omega), H.out.2.2⟩)
        go_wp2
        refine body_end Tryz.results142 rfl ?_
        exact ⟨⟨_, rfl⟩, HF.out⟩
    · have hall : l.take j = l := List.take_of_length_le (by rw [← HN.out]; omega)
      have HF := Lib.hid (show CntPost w0 p k (pws l) wr from ⟨k1, H.out.1, by have := H.out.2.1; rwa [hall] at this, H.out.2.2⟩)
      clear hall
      go_wp2
      refine body_end Tryz.results142 rfl ?_
      exact ⟨⟨_, rfl⟩, HF.out⟩

def ps (s : StepS) : Nat := 1 + s.keep.length + (s.op.key.length + s.op.til.length) + pws s.op.writes
def StBig (s : StepS) : Prop := s.keep.length ≤ 140737488355328 ∧ s.op.key.length ≤ 140737488355328 ∧ s.op.til.length ≤ 140737488355328 ∧ WrBig s.op.writes
def pss (rs : List RStep) : Nat := (rs.map fun x => ps x.1).sum
theorem pss_snoc {l : List RStep} {j : Nat} {x : RStep} (h : l[j]? = some x) : pss (l.take (j + 1)) = pss (l.take j) + (1 + x.1.keep.length) + (x.1.op.key.length + x.1.op.til.length) + pws x.1.op.writes := by
  unfold pss
  rw [take_snoc l j x h, List.map_append, List.sum_append]
  simp [ps]
  omega

set_option maxRecDepth 100000 in
set_option maxHeartbeats 4000000 in
theorem csteps_walk (w0 w : World) (p : Nat) (k : Int) (v : Value) (rs : List RStep) (h : Cnt w p k) (hm : Mod [] w0 w) (hp : w0.heap.size ≤ p) (hs : Seen w0 v rs) (hn : rs.length ≤ 140737488355328) (hl : ∀ x ∈ rs, StBig x.1) :
    Calls Tryz.prog 64 #[.pointer (some ⟨p, 0, none⟩), v] w (VoidPost w0 p k (pss rs)) := by
  have HS := Lib.hid (And.intro hs (And.intro hl hp))
  obtain ⟨A, c, rfl, _⟩ := hs.1
  obtain ⟨n, hnn⟩ : ∃ n, n = rs.length := ⟨_, rfl⟩
  rw [← hnn] at hn ⊢
  have HN := Lib.hid hnn
  have H0 := Lib.hid (And.intro h hm)
  clear hnn hl h hm hp hs
  go_enter Tryz.func64, Tryz.ntmps64
  go_wp2
  go_loopw [4] (fun s4 wr => ∃ (j : Nat) (k1 : Int), s4 = .int .i64 j ∧ j ≤ n ∧ Cnt wr p k1 ∧ Fell k k1 (pss (rs.take j)) ∧ Mod [] w0 wr) (fun s4 _ => n - (RowKit.intOf s4).toNat)
  case atStart => exact ⟨0, k, by go_num, Nat.zero_le _, H0.out.1, Fell.zero k, H0.out.2⟩
  case round =>
    obtain ⟨j, k1, rfl, hj, hc, hf, hw⟩ := hrel
    have H := Lib.hid (And.intro hc (And.intro hf hw))
    clear hc hf hw
    by_cases hjl : j < n
    · obtain ⟨x, hx⟩ : ∃ x, rs[j]? = some x := ⟨_, List.getElem?_eq_getElem (by rw [← HN.out]; exact hjl)⟩
      obtain ⟨b1, o1, c1, e1, r1⟩ := HS.out.1.at_ hx
      have q1 := HS.out.1.2 _ (List.mem_of_getElem? hx)
      have hxb := HS.out.2.1 x (List.mem_of_getElem? hx)
      have hps := pss_snoc hx
      obtain ⟨s, wv, kv⟩ := x
      have hr5 := r1 5 wv rfl
      have hr7 := r1 7 (.string ⟨s.op.key.toArray⟩) rfl
      have hr8 := r1 8 (.string ⟨s.op.til.toArray⟩) rfl
      have hr11 := r1 11 kv rfl
      have HX := Lib.hid (And.intro hps (And.intro hxb (And.intro q1 (And.intro hr5 (And.intro hr7 (And.intro hr8 hr11))))))
      obtain ⟨Ak, ck, ek, _⟩ := id q1.2
      obtain rfl : A = some ⟨b1, o1, none⟩ := by injection e1
      have hcx := H.out.2.2.cell hr11 (by simp)
      have hjn : (j : Int) < (n : Int) := by omega
      simp only at ek
      subst ek
      clear e1 r1 q1 hxb hps hx hr5 hr7 hr8 hr11
      have hcx2 := hcx
      rw [← Nat.add_assoc] at hcx2
      obtain ⟨nk, hnk⟩ : ∃ nk, nk = s.keep.length := ⟨_, rfl⟩
      rw [← hnk] at hcx hcx2
      have hnk7 : nk ≤ 140737488355328 := by rw [hnk]; exact HX.out.2.1.1
      have HNK := Lib.hid hnk
      clear hnk
      go_wp2_with fail
      refine (ok_walk _ p k1 H.out.1).mono ?_
      rintro e w2 ⟨rfl, rfl⟩
      by_cases hk1 : 0 ≤ k1
      · have hkd : decide (0 ≤ k1) = true := decide_eq_true hk1
        have HAD := Lib.hid (show Calls Tryz.prog 90 #[.pointer (some ⟨p, 0, none⟩), .int .i64 (1 + (nk : Int))] _ (AddPost w0 p k1 (1 + nk)) from by
          have := add_walk w0 _ p k1 (1 + nk) H.out.1 H.out.2.2 HS.out.2.2 (by omega)
          rwa [show (((1 + nk : Nat)) : Int) = 1 + (nk : Int) by omega] at this)
        go_wp2_with fail
        refine HAD.out.mono ?_
        rintro e w3 ⟨⟨b3, rfl⟩, k3, hc3, hf3, hm3⟩
        have H3 := Lib.hid (And.intro hc3 (And.intro hf3 hm3))
        clear hc3 hf3 hm3 hcx hcx2
        obtain ⟨kl, hkl⟩ : ∃ kl, kl = s.op.key.length := ⟨_, rfl⟩
        obtain ⟨tl, htl⟩ : ∃ tl, tl = s.op.til.length := ⟨_, rfl⟩
        have hkl7 : kl ≤ 140737488355328 := by rw [hkl]; exact HX.out.2.1.2.1
        have htl7 : tl ≤ 140737488355328 := by rw [htl]; exact HX.out.2.1.2.2.1
        have HKL := Lib.hid (And.intro hkl htl)
        clear hkl htl
        go_wp2
        refine region_C (fun X => Mod [] w0 X) (by kernel_rfl) (fun _ _ _ _ _ h => h) (fun hQp => ?_)
        have HC := H3.out.2.2.drew
        simp only [List.length_cons, List.length_nil]
        refine anyC_take (i := 0) (v := ?_) (a' := ?_) HC rfl rfl (by kernel_rfl) (by kernel_rfl) (by kernel_rfl) hQp (by rfl) ?_ ?_ ?_
        rotate_left 2
        · intro X hX
          go_simp
          first | rfl | (rw [if_neg (by omega)])
        · simp [Act.put]
          rfl
        refine anyC_take (i := 1) (v := ?_) (a' := ?_) HC rfl rfl (by kernel_rfl) (by kernel_rfl) (by kernel_rfl) hQp (by rfl) ?_ ?_ ?_
        rotate_left 2
        · intro X hX
          go_simp
          first | rfl | (rw [if_neg (by omega)])
        · simp [Act.put]
          rfl
        refine anyC_take (i := 2) (v := ?_) (a' := ?_) HC rfl rfl (by kernel_rfl) (by kernel_rfl) (by kernel_rfl) hQp (by rfl) ?_ ?_ ?_
        rotate_left 2
        · intro X hX
          go_simp
          first | rfl | (rw [if_neg (by omega)])
        · simp [Act.put]
          rfl
        refine anyC_take (i := 3) (v := ?_) (a' := ?_) HC rfl rfl (by kernel_rfl) (by kernel_rfl) (by kernel_rfl) hQp (by rfl) ?_ ?_ ?_
        rotate_left 2
        · intro X hX
          go_simp
          first | rfl | (rw [if_neg (by omega)])
        · simp [Act.put]
          rfl
        refine anyC_take (i := 4) (v := ?_) (a' := ?_) HC rfl rfl (by kernel_rfl) (by kernel_rfl) (by kernel_rfl) hQp (by rfl) ?_ ?_ ?_
        rotate_left 2
        · intro X hX
          go_simp
          first | rfl | (rw [if_neg (by omega)])
        · simp [Act.put]
          rfl
        refine anyC_take (i := 5) (v := ?_) (a' := ?_) HC rfl rfl (by kernel_rfl) (by kernel_rfl) (by kernel_rfl) hQp (by rfl) ?_ ?_ ?_
        rotate_left 2
        · intro X hX
          go_simp
          first | rfl | (rw [if_neg (by omega)])
        · simp [Act.put]
          rfl
        refine anyC_take (i := 6) (v := ?_) (a' := ?_) HC rfl rfl (by kernel_rfl) (by kernel_rfl) (by kernel_rfl) hQp (by rfl) ?_ ?_ ?_
        rotate_left 2
        · intro X hX
          have hx := hX.cell HX.out.2.2.2.2.1 (by simp)
          have hx2 := hx
          rw [← Nat.add_assoc] at hx2
          have hx3 := hX.cell HX.out.2.2.2.2.1 (by simp)
          rw [show o1 + (j * 12 + 7) = o1 + j * 12 + 4 + 3 from by omega] at hx3
          go_simp
          first | rfl | (rw [if_neg (by omega)])
        · simp [Act.put]
          rfl
        refine anyC_take (i := 7) (v := .int .i64 (kl : Int)) (a' := ?_) HC rfl rfl (by kernel_rfl) (by kernel_rfl) (by kernel_rfl) hQp (by rfl) ?_ ?_ ?_
        rotate_left 1
        · intro X hX
          go_simp
          rw [HKL.out.1]
        · simp [Act.put]
          rfl
        refine anyC_take (i := 8) (v := ?_) (a' := ?_) HC rfl rfl (by kernel_rfl) (by kernel_rfl) (by kernel_rfl) hQp (by rfl) ?_ ?_ ?_
        rotate_left 2
        · intro X hX
          go_simp
          first | rfl | (rw [if_neg (by omega)])
        · simp [Act.put]
          rfl
        refine anyC_take (i := 9) (v := ?_) (a' := ?_) HC rfl rfl (by kernel_rfl) (by kernel_rfl) (by kernel_rfl) hQp (by rfl) ?_ ?_ ?_
        rotate_left 2
        · intro X hX
          go_simp
          first | rfl | (rw [if_neg (by omega)])
        · simp [Act.put]
          rfl
        refine anyC_take (i := 10) (v := ?_) (a' := ?_) HC rfl rfl (by kernel_rfl) (by kernel_rfl) (by kernel_rfl) hQp (by rfl) ?_ ?_ ?_
        rotate_left 2
        · intro X hX
          go_simp
          first | rfl | (rw [if_neg (by omega)])
        · simp [Act.put]
          rfl
        refine anyC_take (i := 11) (v := ?_) (a' := ?_) HC rfl rfl (by kernel_rfl) (by kernel_rfl) (by kernel_rfl) hQp (by rfl) ?_ ?_ ?_
        rotate_left 2
        · intro X hX
          go_simp
          first | rfl | (rw [if_neg (by omega)])
        · simp [Act.put]
          rfl
        refine anyC_take (i := 12) (v := ?_) (a' := ?_) HC rfl rfl (by kernel_rfl) (by kernel_rfl) (by kernel_rfl) hQp (by rfl) ?_ ?_ ?_
        rotate_left 2
        · intro X hX
          go_simp
          first | rfl | (rw [if_neg (by omega)])
        · simp [Act.put]
          rfl
        refine anyC_take (i := 13) (v := ?_) (a' := ?_) HC rfl rfl (by kernel_rfl) (by kernel_rfl) (by kernel_rfl) hQp (by rfl) ?_ ?_ ?_
        rotate_left 2
        · intro X hX
          have hx := hX.cell HX.out.2.2.2.2.2.1 (by simp)
          have hx2 := hx
          rw [← Nat.add_assoc] at hx2
          have hx3 := hX.cell HX.out.2.2.2.2.2.1 (by simp)
          rw [show o1 + (j * 12 + 8) = o1 + j * 12 + 4 + 4 from by omega] at hx3
          go_simp
          first | rfl | (rw [if_neg (by omega)])
        · simp [Act.put]
          rfl
        refine anyC_take (i := 14) (v := .int .i64 (tl : Int)) (a' := ?_) HC rfl rfl (by kernel_rfl) (by kernel_rfl) (by kernel_rfl) hQp (by rfl) ?_ ?_ ?_
        rotate_left 1
        · intro X hX
          go_simp
          rw [HKL.out.2]
        · simp [Act.put]
          rfl
        refine anyC_take (i := 15) (v := .int .i64 ((kl : Int) + tl)) (a' := ?_) HC rfl rfl (by kernel_rfl) (by kernel_rfl) (by kernel_rfl) hQp (by rfl) ?_ ?_ ?_
        rotate_left 1
        · intro X hX
          go_simp
          rw [wrap_i64 (by omega) (by omega)]
        · simp [Act.put]
          rfl
        have HAD2 := Lib.hid (show Calls Tryz.prog 90 #[.pointer (some ⟨p, 0, none⟩), .int .i64 ((kl : Int) + (tl : Int))] w3.drew (AddPost w0 p k3 (kl + tl)) from by
          have := add_walk w0 w3.drew p k3 (kl + tl) H3.out.1.drew HC HS.out.2.2 (by omega)
          rwa [show (((kl + tl : Nat)) : Int) = (kl : Int) + (tl : Int) by omega] at this)
        refine anyC_step (i := 16) (by kernel_rfl) rfl (by rfl) ?_
        unfold Oper.wp
        go_simp
        refine HAD2.out.mono ?_
        rintro e w4 ⟨⟨b4, rfl⟩, k4, hc4, hf4, hm4⟩
        refine ⟨hm4, ?_⟩
        refine anyC_done (by kernel_rfl) ?_ _
        clear hQp HC
        have hw5 := hm4.cell HX.out.2.2.2.1 (by simp)
        have hw6 := hw5
        rw [← Nat.add_assoc] at hw6
        have hw7 := hw5
        rw [show o1 + (j * 12 + 5) = o1 + j * 12 + 4 + 1 from by omega] at hw7
        have H4 := Lib.hid (And.intro hc4 (And.intro ((H.out.2.1.trans H3.out.2.1).trans hf4) hm4))
        clear hc4 hf4 hm4
        go_wp2_with fail
        refine (cwrites_walk w0 w4 p k4 wv s.op.writes H4.out.1 H4.out.2.2 HS.out.2.2 HX.out.2.2.1.1 HX.out.2.1.2.2.2).mono ?_
        rintro e w5 ⟨⟨v5, rfl⟩, k5, hc5, hf5, hm5⟩
        have H5 := Lib.hid (And.intro hc5 (And.intro (H4.out.2.1.trans hf5) hm5))
        clear hc5 hf5 hm5 hw5 hw6 hw7
        go_wp2
        go_roundw
        case rel => exact ⟨j + 1, k5, by go_num, by omega, H5.out.1, by rw [HX.out.1]; show Fell k k5 (pss (rs.take j) + (1 + s.keep.length) + (s.op.key.length + s.op.til.length) + pws s.op.writes); rw [← HKL.out.1, ← HKL.out.2, ← HNK.out]; exact H5.out.2.1, H5.out.2.2⟩
        case measure => simp [RowKit.intOf]; omega
      · have hkd : decide (0 ≤ k1) = false := decide_eq_false hk1
        have HF := Lib.hid (show CntPost w0 p k (pss rs) _ from ⟨k1, H.out.1, H.out.2.1.stop (by omega), H.out.2.2⟩)
        go_wp2
        refine body_end Tryz.results64 rfl ?_
        exact ⟨⟨_, rfl⟩, HF.out⟩
    · have hall : rs.take j = rs := List.take_of_length_le (by rw [← HN.out]; omega)
      have HF := Lib.hid (show CntPost w0 p k (pss rs) _ from ⟨k1, H.out.1, by have := H.out.2.1; rwa [hall] at this, H.out.2.2⟩)
      clear hall
      go_wp2
      refine body_end Tryz.results64 rfl ?_
      exact ⟨⟨_, rfl⟩, HF.out⟩

theorem sum_mem {α : Type} (f : α → Nat) : ∀ {l : List α} {x : α}, x ∈ l → f x ≤ (l.map f).sum
  | y :: l, x, h => by
    rw [List.map_cons, List.sum_cons]
    rcases List.mem_cons.1 h with rfl | h
    · omega
    · have := sum_mem f h; omega
theorem len_sum {α : Type} (f : α → Nat) (hf : ∀ x, 1 ≤ f x) : ∀ l : List α, l.length ≤ (l.map f).sum
  | [] => by simp
  | x :: l => by
    rw [List.map_cons, List.sum_cons, List.length_cons]
    have := len_sum f hf l
    have := hf x
    omega
theorem pss_lim {rs : List RStep} (h : pss rs ≤ 65536) : rs.length ≤ 65536 ∧ ∀ x ∈ rs, Lim 70000 x.1 := by
  have h1 := len_sum (fun x : RStep => ps x.1) (fun x => by unfold ps; omega) rs
  refine ⟨Nat.le_trans h1 h, fun x hx => ?_⟩
  have h2 := sum_mem (fun x : RStep => ps x.1) hx
  have h3 : ps x.1 ≤ 65536 := Nat.le_trans h2 h
  unfold ps at h3
  have h4 := len_sum pw (fun x => by unfold pw; omega) x.1.op.writes
  unfold pws at h3
  refine ⟨by omega, by omega, by omega, by omega, fun y hy => ?_⟩
  have h5 := sum_mem pw hy
  have h6 : pw y = 1 + y.key.length + y.val.length := rfl
  omega

def SmallPost (w : World) (rs : List RStep) (e : Ending) (w' : World) : Prop := ∃ b : Bool, e = .returned (.bool b) ∧ (b = true → pss rs ≤ 65536) ∧ Mod [] w w'
set_option maxRecDepth 100000 in
set_option maxHeartbeats 4000000 in
theorem small_walk (w : World) (v : Value) (rs : List RStep) (hs : Seen w v rs) (hn : rs.length ≤ 140737488355328) (hl : ∀ x ∈ rs, StBig x.1) :
    Calls Tryz.prog 17 #[v] w (SmallPost w rs) := by
  have HS := Lib.hid (And.intro hs (And.intro hn hl))
  clear hs hn hl
  have HM := Lib.hid (show ∀ X : World, Calls Tryz.prog 27 #[.int .i64 65536] X fun e w' => e = .returned (.pointer (some ⟨X.heap.size, 0, none⟩)) ∧ w' = X.alloc (.cells #[.int .i64 65536] 138) from fun X => by
    go_enter Tryz.func27, Tryz.ntmps27
    go_wp2
    go_ret
    exact ⟨rfl, rfl⟩)
  go_enter Tryz.func17, Tryz.ntmps17
  go_wp2_with fail
  refine (HM.out _).mono ?_
  rintro e w1 ⟨rfl, rfl⟩
  go_wp2_with fail
  refine (csteps_walk w _ w.heap.size 65536 v rs ⟨Blk.new _ _ _, by omega, by omega⟩ ((Mod.refl _ _).alloc _) (Nat.le_refl _) HS.out.1 HS.out.2.1 HS.out.2.2).mono ?_
  rintro e w2 ⟨⟨v2, rfl⟩, k2, hc2, hf2, hm2⟩
  have H2 := Lib.hid (And.intro hc2 (And.intro hf2 hm2))
  clear hc2 hf2 hm2
  go_wp2_with fail
  refine (ok_walk w2 w.heap.size k2 H2.out.1).mono ?_
  rintro e w3 ⟨rfl, rfl⟩
  have HF := Lib.hid (show ∀ b : Bool, b = decide (0 ≤ k2) → (b = true → pss rs ≤ 65536) from fun b hb h => by
    rw [hb] at h
    have h0 := of_decide_eq_true h
    have := H2.out.2.1.2 h0
    omega)
  go_wp2
  go_ret
  exact ⟨_, rfl, HF.out _ rfl, H2.out.2.2⟩

open Go.ChangeShapes Go.WideShapes Go.ChangeAt Go.RowKit Scr

theorem pick_list {α : Type} (Q : Nat → α → Prop) : ∀ n : Nat, (∀ i, i < n → ∃ x, Q i x) → ∃ l : List α, l.length = n ∧ ∀ i x, l[i]? = some x → Q i x
  | 0, _ => ⟨[], rfl, fun i x h => by simp at h⟩
  | n + 1, h => by
    obtain ⟨l, hl, hq⟩ := pick_list Q n (fun i hi => h i (by omega))
    obtain ⟨x, hx⟩ := h n (by omega)
    refine ⟨l ++ [x], by simp [hl], fun i y hy => ?_⟩
    by_cases hi : i < n
    · rw [List.getElem?_append_left (by omega)] at hy
      exact hq i y hy
    · rw [List.getElem?_append_right (by omega)] at hy
      have h0 : i - l.length = 0 := by
        rcases Nat.eq_zero_or_pos (i - l.length) with h0 | h0
        · exact h0
        · rw [List.getElem?_eq_none (by simp; omega)] at hy; cases hy
      rw [h0] at hy
      simp at hy
      subst hy
      have : i = n := by omega
      subst this
      exact hx
theorem flat_get {α β : Type} {k : Nat} (f : α → List β) (hf : ∀ x, (f x).length = k) : ∀ (l : List α) (i j : Nat) (x : α), l[i]? = some x → j < k → (l.flatMap f)[i * k + j]? = (f x)[j]?
  | [], i, j, x, h, _ => by simp at h
  | y :: t, 0, j, x, h, hj => by
    simp at h; subst h
    rw [List.flatMap_cons, Nat.zero_mul, Nat.zero_add, List.getElem?_append_left (by rw [hf]; exact hj)]
  | y :: t, i + 1, j, x, h, hj => by
    rw [List.flatMap_cons, List.getElem?_append_right (by rw [hf, Nat.add_mul]; omega), hf, show (i + 1) * k + j - k = i * k + j from by rw [Nat.add_mul]; omega]
    exact flat_get f hf t i j x (by simpa using h) hj
theorem flat_len {α β : Type} {k : Nat} (f : α → List β) (hf : ∀ x, (f x).length = k) : ∀ l : List α, (l.flatMap f).length = l.length * k
  | [] => by simp
  | x :: t => by rw [List.flatMap_cons, List.length_append, hf, flat_len f hf t, List.length_cons, Nat.add_mul]; omega
theorem weights_mem {H : Type} {P : Program} {e : TypeId} : ∀ {l : List (DataW H)} {d : DataW H} {n : Nat}, d ∈ l → n ∈ d.weights P e → n ∈ DataW.weightsAll P e l
  | x :: t, d, n, hd, hn => by
    rw [DataW.weightsAll]
    rcases List.mem_cons.1 hd with rfl | hd
    · exact List.mem_append_left _ hn
    · exact List.mem_append_right _ (weights_mem hd hn)
theorem spot_none {w : World} {a : Addr} {v : Value} (h : w.cell? a = some v) : a.spot = none := by
  unfold World.cell? at h
  rcases hs : a.spot with _ | y
  · rfl
  · rw [hs] at h; split at h <;> simp at h
def Few {H : Type} (P : Program) (t : TypeId) (d : DataW H) : Prop := ∀ n ∈ d.weights P t, n ≤ reachBytes
/-- A list of rows of k cells each. -/
theorem open_rows {H : Type} {enc : TypeId × Value → H} {W : World} {α : Type} {t e : TypeId} {k : Nat} (ht : Tryz.prog.underlying t = some (.slice e)) (hk : Tryz.prog.cellsOf e = k) (hk0 : 0 < k) (encA : α → List Value) (hlen : ∀ x, (encA x).length = k) (R : α → Prop)
    (one : ∀ n cs (y : DataW H × List MemPlace), DataW.trod enc Tryz.prog W 0 (fun _ => true) true n e cs = some y → Few Tryz.prog e y.1 → ∃ x, cs = encA x ∧ R x)
    {n : Nat} {v : Value} {y : DataW H × List MemPlace} (h : DataW.trod enc Tryz.prog W 0 (fun _ => true) true n t [v] = some y) (hz : Few Tryz.prog t y.1) :
    ∃ l : List α, SeenRow W v l.length (l.flatMap encA) ∧ (∀ x ∈ l, R x) ∧ l.length * Tryz.prog.bytesOf e ≤ reachBytes := by
  rcases DataW.trod_slice ht h with ⟨hcs, hy⟩ | ⟨a, len, cap, elems, rest, m, _, hcs, hy, hb, hl, hm, hel, hcell, _, _⟩
  · simp at hcs
    subst hcs
    exact ⟨[], ⟨none, 0, rfl, fun j u hu => by simp at hu⟩, fun x hx => by (cases hx), by simp⟩
  · simp at hcs
    subst hcs
    subst hy
    have hz0 : Few Tryz.prog t (DataW.slice (elems.map (·.1)) (rest.map (·.1))) := hz
    have hzw : ∀ q ∈ ((elems.map (·.1)).length + (rest.map (·.1)).length) * Tryz.prog.bytesOf e :: (DataW.weightsAll Tryz.prog e (elems.map (·.1)) ++ DataW.weightsAll Tryz.prog e (rest.map (·.1))), q ≤ reachBytes := by
      have h0 := hz0
      unfold Few DataW.weights at h0
      rw [ht] at h0
      exact h0
    obtain ⟨l, hll, hq⟩ := pick_list (fun i (x : α) => R x ∧ W.cells? 0 (a.add (i * k)) k = some (encA x)) len (fun i hi => by
      have h0 := hcell i hi
      have hi2 : i < elems.length := by omega
      rw [List.getElem?_eq_getElem hi2, hk, Option.bind_eq_some_iff] at h0
      obtain ⟨cs, hc1, hc2⟩ := h0
      obtain ⟨x, rfl, hR⟩ := one _ _ _ hc2 (fun q hqm => hzw q (List.mem_cons_of_mem _ (List.mem_append_left _ (weights_mem (List.mem_map_of_mem (List.getElem_mem hi2)) hqm))))
      exact ⟨x, hR, hc1⟩)
    refine ⟨l, ⟨some a, cap, by rw [hll], fun j u hu => ?_⟩, fun x hx => ?_, ?_⟩
    · have hj : j < l.length * k := by
        have := (List.getElem?_eq_some_iff.1 hu).1
        rwa [flat_len encA hlen] at this
      have hi : j / k < l.length := by rw [Nat.div_lt_iff_lt_mul hk0]; exact hj
      have hr : j % k < k := Nat.mod_lt _ hk0
      have hjd : j / k * k + j % k = j := by rw [Nat.mul_comm]; exact Nat.div_add_mod j k
      obtain ⟨x, hx⟩ : ∃ x, l[j / k]? = some x := ⟨_, List.getElem?_eq_getElem hi⟩
      have hux : (encA x)[j % k]? = some u := by rw [← flat_get encA hlen l (j / k) (j % k) x hx hr, hjd]; exact hu
      have hcx := (World.cells?_some (hq _ _ hx).2).2.2 (j % k) hr
      rw [hux] at hcx
      have hl0 : 0 < l.length := Nat.lt_of_le_of_lt (Nat.zero_le _) hi
      obtain ⟨x0, hx0⟩ : ∃ x0, l[0]? = some x0 := ⟨_, List.getElem?_eq_getElem hl0⟩
      have hc0 := (World.cells?_some (hq _ _ hx0).2).2.2 0 hk0
      rw [Nat.zero_mul, List.getElem?_eq_getElem (by rw [hlen]; exact hk0)] at hc0
      have hs : a.spot = none := spot_none hc0
      obtain ⟨b, o, sp⟩ := a
      simp only at hs
      subst hs
      refine ⟨b, o, rfl, ?_⟩
      have e : o + (j / k * k) + j % k = o + j := by rw [Nat.add_assoc, hjd]
      rw [add_plain, add_plain, e] at hcx
      exact hcx
    · obtain ⟨i, hi⟩ := List.getElem?_of_mem hx
      exact (hq i x hi).1
    · have h0 := hzw _ (List.mem_cons_self ..)
      rw [List.length_map, List.length_map] at h0
      rw [hll, ← hel]
      exact Nat.le_trans (Nat.mul_le_mul_right _ (Nat.le_add_right _ _)) h0

theorem c_str : Tryz.prog.cellsOf 9 = 1 := by kernel_rfl
theorem c_bool : Tryz.prog.cellsOf 4 = 1 := by kernel_rfl
theorem c_int : Tryz.prog.cellsOf 3 = 1 := by kernel_rfl
theorem c_wr : Tryz.prog.cellsOf 71 = 3 := by kernel_rfl
theorem c_op : Tryz.prog.cellsOf 67 = 7 := by kernel_rfl
theorem c_step : Tryz.prog.cellsOf 69 = 12 := by kernel_rfl
theorem c_wrs : Tryz.prog.cellsOf 65 = 1 := by kernel_rfl
theorem c_ints : Tryz.prog.cellsOf 36 = 1 := by kernel_rfl
theorem b_wr : 1 ≤ Tryz.prog.bytesOf 71 := of_decide_eq_true (by kernel_rfl)
theorem b_int : 1 ≤ Tryz.prog.bytesOf 3 := of_decide_eq_true (by kernel_rfl)
theorem b_step : 1 ≤ Tryz.prog.bytesOf 69 := of_decide_eq_true (by kernel_rfl)
theorem str_back (s : ByteArray) : (⟨s.data.toList.toArray⟩ : ByteArray) = s := by cases s; rfl
theorem reach_is : reachBytes ≤ 140737488355328 := by unfold reachBytes; decide
theorem few_len {l b : Nat} (hb : 1 ≤ b) (h : l * b ≤ reachBytes) : l ≤ 140737488355328 := by
  have := Nat.le_mul_of_pos_right l hb
  have := reach_is; omega
section
variable {H : Type} {enc : TypeId × Value → H} {W : World}
set_option maxRecDepth 100000 in
theorem one_write : ∀ n cs (y : DataW H × List MemPlace), DataW.trod enc Tryz.prog W 0 (fun _ => true) true n 71 cs = some y → Few Tryz.prog 71 y.1 → ∃ x : Wr, cs = encWr x ∧ (x.key.length ≤ 140737488355328 ∧ x.val.length ≤ 140737488355328) := by
  intro n cs y h hz
  obtain ⟨xs, m, _, rfl, hl, hxl, hf⟩ := DataW.trod_struct Tryz.underlying71 h
  rw [c_wr] at hl
  obtain ⟨c0, c1, c2, rfl⟩ : ∃ c0 c1 c2, cs = [c0, c1, c2] := by
    match cs, hl with
    | [a, b, c], _ => exact ⟨_, _, _, rfl⟩
  obtain ⟨y0, y1, y2, rfl⟩ : ∃ y0 y1 y2, xs = [y0, y1, y2] := by
    match xs, hxl with
    | [a, b, c], _ => exact ⟨_, _, _, rfl⟩
  have h0 := hf 0 _ rfl
  have h1 := hf 1 _ rfl
  have h2 := hf 2 _ rfl
  simp [c_str, c_bool] at h0 h1 h2
  obtain ⟨s0, e0, rfl, _⟩ := DataW.trod_string Tryz.underlying9 h0
  obtain ⟨b1, e1, rfl⟩ := DataW.trod_bool Tryz.underlying4 h1
  obtain ⟨s2, e2, rfl, _⟩ := DataW.trod_string Tryz.underlying9 h2
  simp at e0 e1 e2
  subst e0 e1 e2
  have z0 := hz s0.data.toList.length (by simp [DataW.weights, DataW.weightsEach, Tryz.underlying71])
  have z2 := hz s2.data.toList.length (by simp [DataW.weights, DataW.weightsEach, Tryz.underlying71])
  replace z0 := Nat.le_trans z0 reach_is
  replace z2 := Nat.le_trans z2 reach_is
  exact ⟨⟨s0.data.toList, b1, s2.data.toList⟩, by unfold encWr; simp only [str_back], z0, z2⟩
theorem wf_i64 {n : Int} (h : (Lit.int .i64 n).wf = true) : I64 n := by
  unfold I64
  simp [Lit.wf, IntKind.min, IntKind.max, IntKind.bits, IntKind.signed] at h
  omega
theorem one_int : ∀ n cs (y : DataW H × List MemPlace), DataW.trod enc Tryz.prog W 0 (fun _ => true) true n 3 cs = some y → Few Tryz.prog 3 y.1 → ∃ x : Int, cs = [Value.int .i64 x] ∧ I64 x := by
  intro n cs y h _
  obtain ⟨x, rfl, _, hw⟩ := DataW.trod_int Tryz.underlying3 h
  exact ⟨x, rfl, wf_i64 hw⟩
theorem flat_one : ∀ l : List Int, (l.flatMap fun x => [Value.int .i64 x]) = l.map (Value.int .i64)
  | [] => rfl
  | x :: t => by rw [List.flatMap_cons, flat_one t]; rfl
theorem open_wrs {n : Nat} {v : Value} {y : DataW H × List MemPlace} (h : DataW.trod enc Tryz.prog W 0 (fun _ => true) true n 65 [v] = some y) (hz : Few Tryz.prog 65 y.1) : ∃ l, SeenWrs W v l ∧ WrBig l := by
  obtain ⟨l, h1, h2, h3⟩ := open_rows Tryz.underlying65 c_wr (by decide) encWr (fun x => rfl) (fun x => x.key.length ≤ 140737488355328 ∧ x.val.length ≤ 140737488355328) one_write h hz
  exact ⟨l, h1, few_len b_wr h3, h2⟩
theorem open_nums {n : Nat} {v : Value} {y : DataW H × List MemPlace} (h : DataW.trod enc Tryz.prog W 0 (fun _ => true) true n 36 [v] = some y) (hz : Few Tryz.prog 36 y.1) : ∃ l, SeenInts W v l ∧ (∀ x ∈ l, I64 x) ∧ l.length ≤ 140737488355328 := by
  obtain ⟨l, h1, h2, h3⟩ := open_rows Tryz.underlying36 c_int (by decide) (fun x => [Value.int .i64 x]) (fun x => rfl) I64 one_int h hz
  rw [flat_one] at h1
  exact ⟨l, h1, h2, few_len b_int h3⟩
def StepIn (W : World) (x : RStep) : Prop := (SeenWrs W x.2.1 x.1.op.writes ∧ SeenInts W x.2.2 x.1.keep) ∧ StBig x.1 ∧ (I64 x.1.a ∧ I64 x.1.b ∧ I64 x.1.c ∧ I64 x.1.op.n ∧ I64 x.1.op.snap ∧ ∀ y ∈ x.1.keep, I64 y)
set_option maxRecDepth 100000 in
theorem one_step : ∀ n cs (y : DataW H × List MemPlace), DataW.trod enc Tryz.prog W 0 (fun _ => true) true n 69 cs = some y → Few Tryz.prog 69 y.1 → ∃ x : RStep, cs = rowOf x ∧ StepIn W x := by
  intro n cs y h hz
  obtain ⟨xs, m, _, rfl, hl, hxl, hf⟩ := DataW.trod_struct Tryz.underlying69 h
  rw [c_step] at hl
  obtain ⟨c0, c1, c2, c3, c4, c5, c6, c7, c8, c9, c10, c11, rfl⟩ : ∃ c0 c1 c2 c3 c4 c5 c6 c7 c8 c9 c10 c11, cs = [c0, c1, c2, c3, c4, c5, c6, c7, c8, c9, c10, c11] := by
    match cs, hl with
    | [a0, a1, a2, a3, a4, a5, a6, a7, a8, a9, a10, a11], _ => exact ⟨_, _, _, _, _, _, _, _, _, _, _, _, rfl⟩
  obtain ⟨y0, y1, y2, y3, y4, y5, rfl⟩ : ∃ y0 y1 y2 y3 y4 y5, xs = [y0, y1, y2, y3, y4, y5] := by
    match xs, hxl with
    | [a0, a1, a2, a3, a4, a5], _ => exact ⟨_, _, _, _, _, _, rfl⟩
  have h0 := hf 0 _ rfl
  have h1 := hf 1 _ rfl
  have h2 := hf 2 _ rfl
  have h3 := hf 3 _ rfl
  have h4 := hf 4 _ rfl
  have h5 := hf 5 _ rfl
  simp [c_int, c_op, c_ints] at h0 h1 h2 h3 h4 h5
  obtain ⟨n0, e0, rfl, _⟩ := DataW.trod_int Tryz.underlying3 h0
  obtain ⟨n1, e1, rfl, w1⟩ := DataW.trod_int Tryz.underlying3 h1
  obtain ⟨n2, e2, rfl, w2⟩ := DataW.trod_int Tryz.underlying3 h2
  obtain ⟨n3, e3, rfl, w3⟩ := DataW.trod_int Tryz.underlying3 h3
  obtain ⟨zs, m2, _, rfl, _, hzl, hg⟩ := DataW.trod_struct Tryz.underlying67 h4
  obtain ⟨z0, z1, z2, z3, z4, z5, z6, rfl⟩ : ∃ z0 z1 z2 z3 z4 z5 z6, zs = [z0, z1, z2, z3, z4, z5, z6] := by
    match zs, hzl with
    | [a0, a1, a2, a3, a4, a5, a6], _ => exact ⟨_, _, _, _, _, _, _, rfl⟩
  have g0 := hg 0 _ rfl
  have g1 := hg 1 _ rfl
  have g2 := hg 2 _ rfl
  have g3 := hg 3 _ rfl
  have g4 := hg 4 _ rfl
  have g5 := hg 5 _ rfl
  have g6 := hg 6 _ rfl
  simp [c_int, c_str, c_bool, c_wrs] at g0 g1 g2 g3 g4 g5 g6
  obtain ⟨q0, f0, rfl, _⟩ := DataW.trod_int Tryz.underlying3 g0
  obtain ⟨q2, f2, rfl⟩ := DataW.trod_bool Tryz.underlying4 g2
  obtain ⟨q3, f3, rfl, _⟩ := DataW.trod_string Tryz.underlying9 g3
  obtain ⟨q4, f4, rfl, _⟩ := DataW.trod_string Tryz.underlying9 g4
  obtain ⟨q5, f5, rfl, v5⟩ := DataW.trod_int Tryz.underlying3 g5
  obtain ⟨q6, f6, rfl, v6⟩ := DataW.trod_int Tryz.underlying3 g6
  simp at e0 e1 e2 e3 f0 f2 f3 f4 f5 f6
  subst e0 e1 e2 e3 f0 f2 f3 f4 f5 f6
  obtain ⟨lw, hw1, hw2⟩ := open_wrs g1 (fun q hq => hz q (by simp [DataW.weights, DataW.weightsEach, Tryz.underlying69, Tryz.underlying67, hq]))
  obtain ⟨lk, hk1, hk2, hk3⟩ := open_nums h5 (fun q hq => hz q (by simp [DataW.weights, DataW.weightsEach, Tryz.underlying69, Tryz.underlying67, hq]))
  have t3 := hz q3.data.toList.length (by simp [DataW.weights, DataW.weightsEach, Tryz.underlying69, Tryz.underlying67])
  have t4 := hz q4.data.toList.length (by simp [DataW.weights, DataW.weightsEach, Tryz.underlying69, Tryz.underlying67])
  replace t3 := Nat.le_trans t3 reach_is
  replace t4 := Nat.le_trans t4 reach_is
  refine ⟨(⟨n0, n1, n2, n3, ⟨q0, lw, q2, q3.data.toList, q4.data.toList, q5, q6⟩, lk⟩, c5, c11), ?_, ⟨hw1, hk1⟩, ⟨hk3, t3, t4, hw2⟩, wf_i64 w1, wf_i64 w2, wf_i64 w3, wf_i64 v5, wf_i64 v6, hk2⟩
  unfold rowOf
  simp only [str_back]
theorem open_steps {v : Value} {d : DataW H} {p : List MemPlace} (h : DataW.Trod enc Tryz.prog W 0 (fun _ => true) true 22 v d p) (hz : Few Tryz.prog 22 d) (hv : ∃ a n c, v = .slice a n c) :
    ∃ rs, Seen W v rs ∧ rs.length ≤ 140737488355328 ∧ ∀ x ∈ rs, StepIn W x := by
  obtain ⟨a, n, c, rfl⟩ := hv
  obtain ⟨fuel, hf⟩ := h
  obtain ⟨l, h1, h2, h3⟩ := open_rows Tryz.underlying22 c_step (by decide) rowOf rowOf_len (StepIn W) one_step (y := (d, p)) hf hz
  exact ⟨l, ⟨h1, fun x hx => (h2 x hx).1⟩, few_len b_step h3, h2⟩
end
end Go.Proofs.YtjieelmbgfnllaaGreatDoor

namespace Go.Proofs.YtjieelmbgfnllaaGreatDoor
open Go.RowKit Scr

def Nums (s : StepS) : Prop := I64 s.a ∧ I64 s.b ∧ I64 s.c ∧ I64 s.op.n ∧ I64 s.op.snap ∧ ∀ x ∈ s.keep, I64 x
set_option maxRecDepth 100000 in
set_option maxHeartbeats 8000000 in
theorem back_walk (w : World) (v : Value) (rs : List RStep) (m : Int) (hs : Seen w v rs) (hn : rs.length ≤ 140737488355328) (hl : ∀ x ∈ rs, StBig x.1 ∧ Nums x.1) (ht : tabIs w) (hg : errTypeIs w) (hm : w.cell? ⟨3, 0, none⟩ = some (.int .i64 m)) :
    Calls Tryz.prog 5 #[v] w fun e w' => e = .returned (.bool true) ∧ Mod [] w w' := by
  have HS := Lib.hid (And.intro ht (And.intro hg (And.intro hm (And.intro hs (And.intro hn hl)))))
  obtain ⟨A, c, rfl, _⟩ := hs.1
  obtain ⟨n, hnn⟩ : ∃ n, n = rs.length := ⟨_, rfl⟩
  rw [← hnn]
  have HN := Lib.hid hnn
  clear hnn hs hn hl ht hg hm
  go_enter Tryz.func5, Tryz.ntmps5
  go_wp2_with fail
  refine (small_walk w _ rs (by rw [HN.out]; exact HS.out.2.2.2.1) HS.out.2.2.2.2.1 (fun x hx => (HS.out.2.2.2.2.2 x hx).1)).mono ?_
  rintro e w1 ⟨b, rfl, hb, hm1⟩
  have H1 := Lib.hid (And.intro hb hm1)
  clear hb hm1
  rcases b with _ | _
  · go_wp2
    go_ret
    exact ⟨rfl, H1.out.2⟩
  have HL := Lib.hid (pss_lim (H1.out.1 rfl))
  have HNI := Lib.hid (show ∀ x ∈ rs, Nice x.1 from fun x hx => ⟨HL.out.2 x hx, (HS.out.2.2.2.2.2 x hx).2⟩)
  go_wp2_with fail
  refine (known_walk w1 m (tab_new HS.out.1 H1.out.2) (H1.out.2.cell HS.out.2.1 (by simp)) (H1.out.2.cell HS.out.2.2.1 (by simp))).mono ?_
  rintro e w2 ⟨rfl, hm2⟩
  have H2 := Lib.hid (H1.out.2.trans hm2)
  clear hm2
  go_wp2_with fail
  refine (print_any w2 _ rs m (by rw [HN.out]; exact HS.out.2.2.2.1.new H2.out) HNI.out (tab_new HS.out.1 H2.out) (H2.out.cell HS.out.2.1 (by simp)) (H2.out.cell HS.out.2.2.1 (by simp))).mono ?_
  intro e w3 hp
  have H3 := Lib.hid (H2.out.trans hp.1)
  have H23 := Lib.hid hp.1
  rcases hq : printP (rs.map (·.1)) with _ | t
  · obtain rfl := hp.2.1 hq
    clear hp hq
    go_wp2
    go_ret
    exact ⟨rfl, H3.out⟩
  obtain rfl := hp.2.2 t hq
  have hback := printP_back hq
  clear hp hq
  obtain ⟨D, hD⟩ : ∃ D : ByteArray, D = ⟨t.toArray⟩ := ⟨_, rfl⟩
  have hDs : D.size ≤ 65536 := by rw [hD, Lib.size_eq]; exact hback.2.1
  have hn2 : n ≤ 20000 := by rw [HN.out]; have := hback.2.2; simpa using this
  have HB := Lib.hid (And.intro hback (show D.data.toList = t by rw [hD]))
  rw [← hD]
  clear hD hback
  go_wp2_with fail
  refine (parse_of _ _ _ HB.out.2 m (H3.out.cell HS.out.2.1 (by simp)) (H3.out.cell HS.out.2.2.1 (by simp))).mono ?_
  intro e w4 hp
  obtain ⟨x4, v4, rfl, hm4, _, hv4⟩ := parse_split3 hp
  obtain ⟨rfl, rs2, A4, c4, rfl, g1, g2, g3⟩ := hv4 _ HB.out.1.1
  have H4 := Lib.hid (And.intro (H3.out.trans hm4) (And.intro g1 (And.intro g2 (And.intro g3 (canon_rows HB.out.1.1 g1)))))
  clear hp hm4 hv4 g1 g2 g3
  have hDi : (D.size : Int) ≤ 65536 := by omega
  have hni : (n : Int) ≤ 20000 := by omega
  go_wp2_with fail
  refine (lawsteps_walk w4 _ _ rs2 rs H4.out.2.2.1 (by rw [HN.out]; exact HS.out.2.2.2.1.new H4.out.1) H4.out.2.1 (fun x hx => ⟨(H4.out.2.2.2.2 x hx).2.1.2.2.1, (H4.out.2.2.2.2 x hx).2.1.2.2.2.1⟩) (by have := H4.out.2.2.2.1; omega)).mono ?_
  rintro e w5 ⟨rfl, hm5⟩
  have H5 := Lib.hid (H4.out.1.trans hm5)
  clear hm5
  go_wp2
  go_ret
  exact ⟨rfl, H5.out⟩
end Go.Proofs.YtjieelmbgfnllaaGreatDoor

namespace Go.Proofs.YtjieelmbgfnllaaGreatDoor
open Go.RowKit Scr

theorem nice_a {s : StepS} (h : Nice s) {a : Int} (ha : I64 a) : Nice { s with a := a } := ⟨h.1, ha, h.2.2⟩
theorem mem_set_of {α : Type} {l : List α} {k : Nat} {a x : α} (h : x ∈ l.set k a) : x = a ∨ x ∈ l := by
  rcases List.mem_or_eq_of_mem_set h with h | h
  · exact .inr h
  · exact .inl h
theorem nice_key {s : StepS} (h : Nice s) {k : Nat} {y : Wr} (hy : s.op.writes[k]? = some y) : Nice { s with op := { s.op with writes := s.op.writes.set k { y with key := [33] } } } := by
  obtain ⟨⟨h1, h2, h3, h4, h5⟩, h6⟩ := h
  refine ⟨⟨h1, h2, by simpa using h3, h4, fun x hx => ?_⟩, h6⟩
  rcases mem_set_of hx with rfl | hx
  · exact ⟨by show ([33] : Bs).length ≤ 70000; decide, (h5 y (List.mem_of_getElem? hy)).2⟩
  · exact h5 x hx
theorem nice_keep {s : StepS} (h : Nice s) {k : Nat} {a : Int} (ha : I64 a) : Nice { s with keep := s.keep.set k a } := by
  obtain ⟨⟨h1, h2, h3, h4, h5⟩, h6, h7, h8, h9, h10, h11⟩ := h
  refine ⟨⟨h1, h2, h3, by simpa using h4, h5⟩, h6, h7, h8, h9, h10, fun x hx => ?_⟩
  rcases mem_set_of hx with rfl | hx
  · exact ha
  · exact h11 x hx
theorem wrap_I64 (a : Int) : I64 (RowKit.wrap64 a) := by
  unfold I64 RowKit.wrap64
  omega
/-- While the lent steps are written over. -/
def Over (w : World) (lo p : Nat) (R : RoomV) (n g c : Nat) (X : List LS) (wr : World) : Prop :=
  X.length = n ∧ (∀ x ∈ X, Nice x.s) ∧ LentAt wr lo p R X g c ∧ Mod [] w wr
theorem mem_ls {X : List LS} {i : Nat} {x : LS} (h : ∀ x ∈ X, Nice x.s) (hx : Nice x.s) : ∀ y ∈ X.set i x, Nice y.s := by
  intro y hy
  rcases mem_set_of hy with rfl | hy
  · exact hx
  · exact h y hy
theorem Over.setA {w wr : World} {lo p : Nat} {R : RoomV} {n g c : Nat} {X : List LS} (h : Over w lo p R n g c X wr) (hl : w.heap.size ≤ lo) {i : Nat} {x : LS} (hx : X[i]? = some x) {a : Int} (ha : I64 a) :
    Over w lo p R n g c (X.set i { x with s := { x.s with a := a } }) (wr.setCell ⟨g, i * 12 + 1, none⟩ (.int .i64 a)) :=
  ⟨by simpa using h.1, mem_ls h.2.1 (nice_a (h.2.1 x (List.mem_of_getElem? hx)) ha), h.2.2.1.setA hx a, h.2.2.2.setCell (.inr (by have := h.2.2.1.top.1; show _ ≤ g; omega)) _⟩
theorem Over.setKey {w wr : World} {lo p : Nat} {R : RoomV} {n g c : Nat} {X : List LS} (h : Over w lo p R n g c X wr) (hl : w.heap.size ≤ lo) {i k : Nat} {x : LS} {y : Wr} (hx : X[i]? = some x) (hy : x.s.op.writes[k]? = some y) :
    Over w lo p R n g c (X.set i { x with s := { x.s with op := { x.s.op with writes := x.s.op.writes.set k { y with key := [33] } } } }) (wr.setCell ⟨x.gw, k * 3, none⟩ (.string ⟨#[33]⟩)) :=
  ⟨by simpa using h.1, mem_ls h.2.1 (nice_key (h.2.1 x (List.mem_of_getElem? hx)) hy), h.2.2.1.setKey hx hy [33], h.2.2.2.setCell (.inr (by have := (h.2.2.1.wb hx).1; show _ ≤ x.gw; omega)) _⟩
theorem Over.setKeep {w wr : World} {lo p : Nat} {R : RoomV} {n g c : Nat} {X : List LS} (h : Over w lo p R n g c X wr) (hl : w.heap.size ≤ lo) {i k : Nat} {x : LS} (hx : X[i]? = some x) (hk : k < x.s.keep.length) {a : Int} (ha : I64 a) :
    Over w lo p R n g c (X.set i { x with s := { x.s with keep := x.s.keep.set k a } }) (wr.setCell ⟨x.gk, k, none⟩ (.int .i64 a)) :=
  ⟨by simpa using h.1, mem_ls h.2.1 (nice_keep (h.2.1 x (List.mem_of_getElem? hx)) ha), h.2.2.1.setKeep hx hk a, h.2.2.2.setCell (.inr (by have := (h.2.2.1.kb hx).1; show _ ≤ x.gk; omega)) _⟩
theorem Over.new {w wr w' : World} {lo p : Nat} {R : RoomV} {n g c : Nat} {X : List LS} (h : Over w lo p R n g c X wr) (hm : Mod [] wr w') : Over w lo p R n g c X w' := ⟨h.1, h.2.1, h.2.2.1.new hm, h.2.2.2.trans hm⟩
theorem Over.row {w wr : World} {lo p : Nat} {R : RoomV} {n g c : Nat} {X : List LS} (h : Over w lo p R n g c X wr) {i j : Nat} {x : LS} (hx : X[i]? = some x) {u : Value} (hu : (rowOf x.row)[j]? = some u) : wr.cell? ⟨g, i * 12 + j, none⟩ = some u := by
  have hj : j < 12 := (List.getElem?_eq_some_iff.1 hu).1
  refine h.2.2.1.top.2.cell ?_
  rw [rows_get _ i j x.row ?_ hj]
  · exact hu
  · rw [List.getElem?_append_left (by rw [List.length_map]; exact (List.getElem?_eq_some_iff.1 hx).1), List.getElem?_map, hx]; rfl
theorem Over.rowf {w wr : World} {lo p : Nat} {R : RoomV} {n g c : Nat} {X : List LS} (h : Over w lo p R n g c X wr) (j : Nat) : wr.frozen? ⟨g, j, none⟩ = false := h.2.2.1.top.2.frozen j
theorem Over.key {w wr : World} {lo p : Nat} {R : RoomV} {n g c : Nat} {X : List LS} (h : Over w lo p R n g c X wr) {i k : Nat} {x : LS} {y : Wr} (hx : X[i]? = some x) (hy : x.s.op.writes[k]? = some y) : wr.cell? ⟨x.gw, k * 3, none⟩ = some (.string ⟨y.key.toArray⟩) := by
  refine (h.2.2.1.wb hx).2.cell (j := k * 3 + 0) ?_
  rw [encs_get _ k 0 y ?_ (by decide)]
  · rfl
  · rw [List.getElem?_append_left (List.getElem?_eq_some_iff.1 hy).1]; exact hy
theorem Over.keep {w wr : World} {lo p : Nat} {R : RoomV} {n g c : Nat} {X : List LS} (h : Over w lo p R n g c X wr) {i k : Nat} {x : LS} (hx : X[i]? = some x) (hk : k < x.s.keep.length) : ∃ z, wr.cell? ⟨x.gk, k, none⟩ = some (.int .i64 z) := by
  refine ⟨x.s.keep[k], (h.2.2.1.kb hx).2.cell ?_⟩
  rw [List.getElem?_append_left (by rw [List.length_map]; exact hk), List.getElem?_map, List.getElem?_eq_getElem hk]; rfl
theorem get_set_same {X : List LS} {i : Nat} {x y : LS} (hx : X[i]? = some x) : (X.set i y)[i]? = some y := by
  rw [List.getElem?_set, if_pos rfl, if_pos (List.getElem?_eq_some_iff.1 hx).1]

theorem now_next {w3 wr w4 w5 : World} {v v5 : Value} {Y : List RStep} {y : RStep} {O : Obj} (h : OwnSteps wr w3.heap.size v Y) (hm3 : Mod [] w3 wr) (hm : Mod [] wr w4) (h1 : WritesAt w4 wr.heap.size y.2.1 y.1.op.writes) (h2 : IntsAt w4 wr.heap.size y.2.2 y.1.keep)
    (ho : w5.ownsRow w3.heap.size 69 12 v5 (Y.length + 1) (Y.flatMap rowOf ++ rowOf y)) (hg : (w4.alloc O).grownBy w5 v.ownBlock) : OwnSteps w5 w3.heap.size v5 (Y ++ [y]) := by
  have hA : Mod [] w4 (w4.alloc O) := (Mod.refl [] w4).alloc O
  have h' := h.new (hm.trans hA)
  refine ⟨by simpa using ho, fun x hx => ?_⟩
  rcases List.mem_append.1 hx with hx | hx
  · exact ⟨owns_grown (h'.2 x hx).1 h'.1 (by decide) hg, owns_grown (h'.2 x hx).2 h'.1 (by decide) hg⟩
  · simp at hx; subst hx
    exact ⟨owns_grown (owns_mod (owns_mono h1 hm3.size) hA (by simp)) h'.1 (by decide) hg, owns_grown (owns_mod (owns_mono h2 hm3.size) hA (by simp)) h'.1 (by decide) hg⟩

set_option maxRecDepth 100000 in
set_option maxHeartbeats 16000000 in
theorem prints_law (w : World) (v : Value) (rs : List RStep) (m : Int) (hs : Seen w v rs) (hn : rs.length ≤ 140737488355328) (hx : ∀ x ∈ rs, StBig x.1 ∧ Nums x.1) (ht : tabIs w) (hg : errTypeIs w) (hm : w.cell? ⟨3, 0, none⟩ = some (.int .i64 m)) :
    Calls Tryz.prog 4 #[v] w fun e w' => e = .returned (.bool true) ∧ Mod [] w w' := by
  have HS := Lib.hid (And.intro ht (And.intro hg (And.intro hm (And.intro hs (And.intro hn hx)))))
  obtain ⟨A, c, rfl, _⟩ := hs.1
  obtain ⟨n, hnn⟩ : ∃ n, n = rs.length := ⟨_, rfl⟩
  rw [← hnn] at hn ⊢
  have HN := Lib.hid hnn
  clear hnn hs hx ht hg hm hn
  go_enter Tryz.func4, Tryz.ntmps4
  go_wp2_with fail
  refine (small_walk w _ rs (by rw [HN.out]; exact HS.out.2.2.2.1) HS.out.2.2.2.2.1 (fun x hx => (HS.out.2.2.2.2.2 x hx).1)).mono ?_
  rintro e w1 ⟨b, rfl, hb, hm1⟩
  have H1 := Lib.hid (And.intro hb hm1)
  clear hb hm1
  rcases b with _ | _
  · go_wp2
    go_ret
    exact ⟨rfl, H1.out.2⟩
  have HL := Lib.hid (pss_lim (H1.out.1 rfl))
  have HNI := Lib.hid (show ∀ x ∈ rs, Nice x.1 from fun x hx => ⟨HL.out.2 x hx, (HS.out.2.2.2.2.2 x hx).2⟩)
  have hn6 : n ≤ 65536 := by rw [HN.out]; exact HL.out.1
  have hz1 := H1.out.2.size
  go_wp2_with fail
  refine (rsteps_walk w1 _ w1.heap.size w1.heap.size ⟨nilS, nilS, nilS, nilS, nilS, nilS⟩ _ rs (room_new w1 w1.heap.size (Nat.le_refl _)) ((Mod.refl [] w1).alloc _) (Nat.le_refl _) (by rw [HN.out]; exact HS.out.2.2.2.1.new H1.out.2) (fun x hx => ⟨(HNI.out x hx).1.2.2.1, (HNI.out x hx).1.2.2.2.1⟩) (by rw [← HN.out]; omega) (by simp)).mono ?_
  rintro e w2 ⟨X0, R, g, c2, rfl, hX, hL, hT⟩
  rw [← HN.out]
  have hXl : X0.length = n := by have h := congrArg List.length hX; simp at h; rw [h, HN.out]
  have H2 := Lib.hid (show Over w w1.heap.size w1.heap.size R n g c2 X0 w2 from ⟨hXl, fun x hx => by
    have h : x.s ∈ rs.map (·.1) := by rw [← hX]; exact List.mem_map_of_mem hx
    obtain ⟨y, hy, e⟩ := List.mem_map.1 h
    rw [← e]; exact HNI.out y hy, hL, hT.new (H1.out.2.alloc _) hz1⟩)
  have HX0 := Lib.hid (show (X0.map LS.row).map (·.1) = rs.map (·.1) by rw [List.map_map]; exact hX)
  clear hX hL hT hXl
  go_wp2_with fail
  refine (prints_walk stepT_all w2 _ _ (X0.map LS.row) rs m (by have h := H2.out.2.2.1.seen; rw [H2.out.1] at h; exact h) (by rw [HN.out]; exact HS.out.2.2.2.1.new H2.out.2.2.2) HX0.out (fun y hy => by obtain ⟨x, hx, rfl⟩ := List.mem_map.1 hy; exact H2.out.2.1 x hx) (by rw [List.length_map, H2.out.1]; exact hn6) (tab_new HS.out.1 H2.out.2.2.2) (H2.out.2.2.2.cell HS.out.2.1 (by simp)) (H2.out.2.2.2.cell HS.out.2.2.1 (by simp))).mono ?_
  rintro e w3 ⟨rfl, hm3⟩
  have H3 := Lib.hid (H2.out.new hm3)
  clear hm3
  go_wp2_with fail
  refine (prints_walk stepT_all w3 _ _ (X0.map LS.row) rs m (by have h := H3.out.2.2.1.seen; rw [H3.out.1] at h; exact h) (by rw [HN.out]; exact HS.out.2.2.2.1.new H3.out.2.2.2) HX0.out (fun y hy => by obtain ⟨x, hx, rfl⟩ := List.mem_map.1 hy; exact H3.out.2.1 x hx) (by rw [List.length_map, H3.out.1]; exact hn6) (tab_new HS.out.1 H3.out.2.2.2) (H3.out.2.2.2.cell HS.out.2.1 (by simp)) (H3.out.2.2.2.cell HS.out.2.2.1 (by simp))).mono ?_
  rintro e w4 ⟨rfl, hm4⟩
  have H4 := Lib.hid (H3.out.new hm4)
  clear hm4
  go_wp2
  go_loopw [5] (fun s5 wr => ∃ (i : Nat) (X : List LS), s5 = .int .i64 i ∧ i ≤ n ∧ Over w w1.heap.size w1.heap.size R n g c2 X wr) (fun s5 _ => n - (RowKit.intOf s5).toNat)
  case atStart => exact ⟨0, X0, by go_num, Nat.zero_le _, H4.out⟩
  case round =>
    obtain ⟨i, X, rfl, hi, hov⟩ := hrel
    have H := Lib.hid hov
    clear hov
    by_cases hin : i < n
    · obtain ⟨x, hx⟩ : ∃ x, X[i]? = some x := ⟨_, List.getElem?_eq_getElem (by rw [H.out.1]; exact hin)⟩
      have hini : (i : Int) < (n : Int) := by omega
      have q1 := H.out.row hx (j := 1) (u := .int .i64 x.s.a) rfl
      have q1f := H.out.rowf (i * 12 + 1)
      have HX := Lib.hid hx
      clear hx
      obtain ⟨nw, hnw⟩ : ∃ nw, nw = x.s.op.writes.length := ⟨_, rfl⟩
      have hw7 : nw ≤ 70000 := by rw [hnw]; exact (H.out.2.1 x (List.mem_of_getElem? HX.out)).1.2.2.1
      have HNW := Lib.hid hnw
      clear hnw
      go_wp2
      go_loopw [6] (fun s6 wr => ∃ (k : Nat) (X2 : List LS) (x2 : LS), s6 = .int .i64 k ∧ k ≤ nw ∧ X2[i]? = some x2 ∧ x2.s.op.writes.length = nw ∧ Over w w1.heap.size w1.heap.size R n g c2 X2 wr) (fun s6 _ => nw - (RowKit.intOf s6).toNat)
      case atStart => exact ⟨0, X.set i { x with s := { x.s with a := RowKit.wrap64 (x.s.a + 1) } }, { x with s := { x.s with a := RowKit.wrap64 (x.s.a + 1) } }, by go_num, Nat.zero_le _, get_set_same HX.out, HNW.out.symm, H.out.setA hz1 HX.out (wrap_I64 _)⟩
      case round =>
        obtain ⟨k, X2, x2, rfl, hk, hx2, hlen, hov⟩ := hrel
        have q5 := hov.row hx2 (j := 5) (u := .slice (some ⟨x2.gw, 0, none⟩) x2.s.op.writes.length (x2.s.op.writes.length + 4)) rfl
        rw [hlen] at q5
        have H2 := Lib.hid (And.intro hx2 (And.intro hlen hov))
        clear hx2 hlen hov q1 q1f
        by_cases hkn : k < nw
        · obtain ⟨y, hy⟩ : ∃ y, x2.s.op.writes[k]? = some y := ⟨_, List.getElem?_eq_getElem (by rw [H2.out.2.1]; exact hkn)⟩
          have q6 := H2.out.2.2.key H2.out.1 hy
          have q6f := (H2.out.2.2.2.2.1.wb H2.out.1).2.frozen (k * 3)
          have HY := Lib.hid hy
          have hkni : (k : Int) < (nw : Int) := by omega
          clear hy
          go_wp2
          go_roundw
          case rel => exact ⟨k + 1, _, _, by go_num, by omega, get_set_same H2.out.1, by simpa using H2.out.2.1, H2.out.2.2.setKey hz1 H2.out.1 HY.out⟩
          case measure => simp [RowKit.intOf]; omega
        · obtain ⟨nk, hnk⟩ : ∃ nk, nk = x2.s.keep.length := ⟨_, rfl⟩
          have hk7 : nk ≤ 70000 := by rw [hnk]; exact (H2.out.2.2.2.1 x2 (List.mem_of_getElem? H2.out.1)).1.2.2.2.1
          have HNK := Lib.hid hnk
          have hkni : ¬ (k : Int) < (nw : Int) := by omega
          clear hnk
          go_wp2
          go_loopw [7] (fun s7 wr => ∃ (k2 : Nat) (X3 : List LS) (x3 : LS), s7 = .int .i64 k2 ∧ k2 ≤ nk ∧ X3[i]? = some x3 ∧ x3.s.keep.length = nk ∧ Over w w1.heap.size w1.heap.size R n g c2 X3 wr) (fun s7 _ => nk - (RowKit.intOf s7).toNat)
          case atStart => exact ⟨0, X2, x2, by go_num, Nat.zero_le _, H2.out.1, HNK.out.symm, H2.out.2.2⟩
          case round =>
            obtain ⟨k2, X3, x3, rfl, hk2, hx3, hlen, hov⟩ := hrel
            have r5 := hov.row hx3 (j := 11) (u := .slice (some ⟨x3.gk, 0, none⟩) x3.s.keep.length (x3.s.keep.length + 4)) rfl
            rw [hlen] at r5
            have H3 := Lib.hid (And.intro hx3 (And.intro hlen hov))
            clear hx3 hlen hov q5
            by_cases hkn2 : k2 < nk
            · obtain ⟨z, r6⟩ := H3.out.2.2.keep H3.out.1 (k := k2) (by rw [H3.out.2.1]; exact hkn2)
              have r6f := (H3.out.2.2.2.2.1.kb H3.out.1).2.frozen k2
              have hkni2 : (k2 : Int) < (nk : Int) := by omega
              go_wp2
              go_roundw
              case rel => exact ⟨k2 + 1, _, _, by go_num, by omega, get_set_same H3.out.1, by simpa using H3.out.2.1, H3.out.2.2.setKeep hz1 H3.out.1 (by rw [H3.out.2.1]; exact hkn2) (by unfold I64; omega)⟩
              case measure => simp [RowKit.intOf]; omega
            · have hkni2 : ¬ (k2 : Int) < (nk : Int) := by omega
              go_wp2
              go_roundw
              case rel => exact ⟨i + 1, X3, by go_num, by omega, H3.out.2.2⟩
              case measure => simp [RowKit.intOf]; omega
    · have hXl : X.length = n := H.out.1
      obtain ⟨wo, hwo⟩ : ∃ wo, wo = wr := ⟨_, rfl⟩
      subst hwo
      have hnin : ¬ (i : Int) < (n : Int) := by omega
      obtain ⟨i0, gi, gz0, gz1, gz2⟩ := info_parts info_step
      have HI := Lib.hid (And.intro gi (And.intro gz0 (And.intro gz1 gz2)))
      have HXL := Lib.hid hXl
      clear gi gz0 gz1 gz2 hXl hi hin
      go_wp2
      go_loopw [8, 9] (fun s8 s9 wr => ∃ (j : Nat) (A2 : Option Addr) (c3 : Nat) (Y : List RStep), s9 = .int .i64 j ∧ s8 = .slice A2 j c3 ∧ j ≤ n ∧ Y.map (·.1) = (X.take j).map (·.s) ∧ j = Y.length ∧ OwnSteps wr wo.heap.size (.slice A2 j c3) Y ∧ Mod [] wo wr) (fun _ s9 _ => n - (RowKit.intOf s9).toNat)
      case atStart => exact ⟨0, none, 0, [], by go_num, rfl, Nat.zero_le _, by simp, rfl, ⟨⟨by simp, .inl ⟨rfl, rfl⟩⟩, by simp⟩, Mod.refl _ _⟩
      case round =>
        obtain ⟨j, A2, c3, Y, rfl, rfl, hj, hY, hjY, hown, hmr⟩ := hrel
        have HY := Lib.hid (And.intro hY (And.intro hjY (And.intro hown hmr)))
        have HO := Lib.hid (H.out.new hmr)
        have hwz := hmr.size
        clear hY hjY hown hmr
        by_cases hjn : j < n
        · obtain ⟨x, hx⟩ : ∃ x, X[j]? = some x := ⟨_, List.getElem?_eq_getElem (by rw [HXL.out]; exact hjn)⟩
          have hxr : (X.map LS.row)[j]? = some x.row := by rw [List.getElem?_map, hx]; rfl
          have hseen := HO.out.2.2.1.seen
          obtain ⟨b1, o1, c1, e1, r1⟩ := hseen.range hxr
          have q1 := hseen.2 _ (List.mem_of_getElem? hxr)
          have q2 := H.out.2.1 x (List.mem_of_getElem? hx)
          injection e1 with e1 e2 e3
          injection e1 with e1
          injection e1 with e1 e4
          subst e1
          subst e4
          rw [Nat.zero_add] at r1
          have HX := Lib.hid (And.intro hx (And.intro r1 (And.intro q1 q2)))
          clear hx hxr hseen r1 q1 q2 e2 e3
          have hjni : (j : Int) < (n : Int) := by omega
          go_wp2_with (refine wpList_load_mid rfl 69 _ rfl g (j * 12) rfl (rowOf x.row) _ HX.out.2.1 Tryz.underlying69 rfl (row_size _) ?_)
          refine (twin_walk wr x.s _ _ HX.out.2.2.1.1 HX.out.2.2.1.2 HX.out.2.2.2.1.2.2.1 HX.out.2.2.2.1.2.2.2.1).mono ?_
          rintro e w5 ⟨A5, n5, c5, B5, m5, d5, he, hW5, hK5, hm5⟩
          obtain rfl : e = .returned (.agg #[.int .i64 x.s.kind, .int .i64 x.s.a, .int .i64 x.s.b, .int .i64 x.s.c, .int .i64 x.s.op.kind, .slice A5 n5 c5, .bool x.s.op.sync, .string ⟨x.s.op.key.toArray⟩, .string ⟨x.s.op.til.toArray⟩, .int .i64 x.s.op.n, .int .i64 x.s.op.snap, .slice B5 m5 d5]) := he
          have H5 := Lib.hid (And.intro hW5 (And.intro hK5 hm5))
          have hz5 := hm5.size
          clear hW5 hK5 hm5
          go_wp2_with (at_builtin; refine wpList_append_seen rfl _ _ 22 rfl wo.heap.size 69 i0 (.agg zeroStep) 12 144 Tryz.underlying22 HI.out.1 HI.out.2.1 HI.out.2.2.1 HI.out.2.2.2 rfl (by decide) (.slice A2 j c3) Y.length (Y.flatMap rowOf) rfl (((HY.out.2.2.1.new H5.out.2.2).1).alloc _) _ 1 (rowOf (x.s, .slice A5 n5 c5, .slice B5 m5 d5)) rfl (seen_new _ _ _ _ _) rfl (rows_one12 _ _ _ _ _ _ _) (by rw [← HY.out.2.1]; unfold maxLen; omega) (by rw [← HY.out.2.1]; omega) (by simp <;> omega) ?_; intro A6 c6 nn w6 hnn hown hg6 hat; rw [← HY.out.2.1] at hnn; subst hnn; have H6 := Lib.hid (And.intro (now_next (y := (x.s, .slice A5 n5 c5, .slice B5 m5 d5)) HY.out.2.2.1 HY.out.2.2.2 H5.out.2.2 H5.out.1 H5.out.2.1 hown hg6) (((HY.out.2.2.2.trans H5.out.2.2).alloc _).grown hg6 (fun k hk => .inr (own_ge HY.out.2.2.1.1 hk)))); clear hown hg6 hat)
          go_wp2
          go_roundw
          case rel => exact ⟨j + 1, A6, c6, Y ++ [(x.s, .slice A5 n5 c5, .slice B5 m5 d5)], by go_num, rfl, by omega, by rw [List.map_append, HY.out.1, take_snoc X j x HX.out.1, List.map_append]; rfl, by rw [List.length_append, ← HY.out.2.1]; rfl, H6.out.1, H6.out.2⟩
          case measure => simp [RowKit.intOf]; omega
        · have hjN : j = n := by omega
          subst hjN
          have hjni : ¬ (j : Int) < (j : Int) := by omega
          have HE := Lib.hid (show (X.map LS.row).map (·.1) = Y.map (·.1) by rw [HY.out.1, List.take_of_length_le (by rw [HXL.out]; exact Nat.le_refl _), List.map_map]; rfl)
          go_wp2_with fail
          refine (prints_walk stepT_all wr _ _ (X.map LS.row) Y m (by have h := HO.out.2.2.1.seen; rw [HXL.out] at h; exact h) (by have h := HY.out.2.2.1.seen; exact h) HE.out (fun y hy => by obtain ⟨x, hx, rfl⟩ := List.mem_map.1 hy; exact H.out.2.1 x hx) (by rw [List.length_map, HXL.out]; exact hn6) (tab_new HS.out.1 HO.out.2.2.2) (HO.out.2.2.2.cell HS.out.2.1 (by simp)) (HO.out.2.2.2.cell HS.out.2.2.1 (by simp))).mono ?_
          rintro e w7 ⟨rfl, hm7⟩
          have H7 := Lib.hid (HO.out.new hm7)
          clear hm7
          go_wp2_with fail
          refine (hold_walk w7 _ _ _ _ _ _ _ _ _ H7.out.2.2.1 (by rw [List.map_map]; rfl) (by rw [List.map_map]; rfl) (by simp) (by rw [List.length_map, HXL.out]; omega) (by rw [List.length_map, HXL.out]; omega) (by simp) (fun y hy => by obtain ⟨x, hx, rfl⟩ := List.mem_map.1 hy; exact (H.out.2.1 x hx).1.2.2.2.1) (fun y hy => by obtain ⟨x, hx, rfl⟩ := List.mem_map.1 hy; exact (H.out.2.1 x hx).1.2.2.1) (fun y hy => by obtain rfl := List.mem_singleton.1 hy; show (X.map LS.row).length ≤ 70000; rw [List.length_map, HXL.out]; omega)).mono ?_
          rintro e w8 ⟨rfl, hm8⟩
          have H8 := Lib.hid (H7.out.2.2.2.trans hm8)
          clear hm8
          go_wp2
          go_ret
          exact ⟨rfl, H8.out⟩
end Go.Proofs.YtjieelmbgfnllaaGreatDoor

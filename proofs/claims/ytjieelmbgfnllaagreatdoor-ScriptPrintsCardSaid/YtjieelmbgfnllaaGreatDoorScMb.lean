/- Parse, by what its answer is. Conditions: none. slices.EqualFunc by same, and Print, at any steps. Conditions: the steps are nice (numbers of 64 bits; at most 70000 bytes, writes, numbers); the table of powers and errors.errorType are laid; internal/bytealg's variable MaxLen holds an integer. -/
import Derived.Test.YtjieelmbgfnllaaGreatDoorScMa
import Derived.Test.YtjieelmbgfnllaaGreatDoorScSameG
namespace Go.Proofs.YtjieelmbgfnllaaGreatDoor
open Go.RowKit Scr

theorem parse_split3 {w w1 : World} {t : Bs} {e : Ending} (hp : ParsePost w t e w1) : ∃ x v, e = .returned (.tuple #[x, v]) ∧ Mod [] w w1 ∧ (∀ f, parseP t = .error f → x = .slice none 0 0 ∧ ∃ b, v = .iface 92 (.pointer (some ⟨b, 0, none⟩))) ∧ (∀ l, parseP t = .ok l → v = .nilIface ∧ ∃ rs A c, x = .slice A rs.length c ∧ rs.map (·.1) = l ∧ Seen w1 x rs ∧ rs.length ≤ 20000) := by
  unfold ParsePost at hp
  rcases hq : parseP t with f | l
  · rw [hq] at hp
    obtain ⟨v', he, ⟨b, rfl, _, _⟩, hm⟩ := hp
    exact ⟨_, _, he, hm, fun f' _ => ⟨rfl, b, rfl⟩, fun l h => by cases h⟩
  · rw [hq] at hp
    obtain ⟨v', rs, he, h1, h2, h3, h4, hm⟩ := hp
    refine ⟨_, _, he, hm, fun f h => by (cases h), fun l' hl => ⟨rfl, rs, ?_⟩⟩
    cases hl
    have hs := h2.seen
    obtain ⟨A, c, rfl, _⟩ := id hs.1
    exact ⟨A, c, rfl, h1, hs, h4⟩
theorem canon_rows {t : Bs} {l : List StepS} {rs : List RStep} (h : parseP t = .ok l) (he : rs.map (·.1) = l) : ∀ x ∈ rs, Canon x.1 ∧ Nice x.1 := by
  intro x hx
  have hm : x.1 ∈ l := by rw [← he]; exact List.mem_map_of_mem hx
  exact ⟨(parse_ord h).1 _ hm, parse_nice h _ hm⟩
end Go.Proofs.YtjieelmbgfnllaaGreatDoor

namespace Go.Proofs.YtjieelmbgfnllaaGreatDoor
open Go.RowKit Scr

theorem drop_at {α : Type} {l : List α} {i : Nat} {c : α} (h : l[i]? = some c) : l.drop i = c :: l.drop (i + 1) := by
  obtain ⟨hi, rfl⟩ := List.getElem?_eq_some_iff.1 h
  exact List.drop_eq_getElem_cons hi
/-- What Print answers at any steps. -/
def PrintAny (w : World) (l : List StepS) (e : Ending) (w' : World) : Prop :=
  Mod [] w w' ∧ (printP l = none → e = .returned (.tuple #[.string ⟨#[]⟩, .iface 93 (.int .i64 205)])) ∧ (∀ b, printP l = some b → e = .returned (.tuple #[.string ⟨b.toArray⟩, .nilIface]))
theorem printAny_none {w w' : World} {l : List StepS} (h : printP l = none) (hm : Mod [] w w') : PrintAny w l (.returned (.tuple #[.string ⟨#[]⟩, .iface 93 (.int .i64 205)])) w' :=
  ⟨hm, fun _ => rfl, fun b hb => by rw [h] at hb; cases hb⟩
theorem printAny_some {w w' : World} {l : List StepS} {b : Bs} (h : printP l = some b) (hm : Mod [] w w') : PrintAny w l (.returned (.tuple #[.string ⟨b.toArray⟩, .nilIface])) w' :=
  ⟨hm, fun h0 => by rw [h] at h0; (cases h0), fun b' hb => by rw [h] at hb; cases hb; rfl⟩
theorem print_stops {l : List StepS} (hl : l.length ≤ 20000) (h : bodyL [] l = none) : printP l = none := by
  unfold printP
  rw [if_neg (by omega), h]
theorem print_ends {l : List StepS} {b : Bs} (hl : l.length ≤ 20000) (h : bodyL [] l = some b) : (∀ f, parseP b = .error f → printP l = none) ∧ (∀ again, parseP b = .ok again → again = l → printP l = some b) ∧ (∀ again, parseP b = .ok again → again ≠ l → printP l = none) := by
  refine ⟨fun f hf => ?_, fun again ha he => ?_, fun again ha he => ?_⟩
  · unfold printP
    rw [if_neg (by omega), h]
    simp only [hf]
  · unfold printP
    rw [if_neg (by omega), h]
    simp only [ha]
    rw [if_pos he]
  · unfold printP
    rw [if_neg (by omega), h]
    simp only [ha]
    rw [if_neg he]
def LayingG (w : World) (l : List StepS) (j : Nat) (acc : Bs) (wr : World) : Prop := Bld w.heap.size w.heap.size acc wr ∧ Mod [] w wr ∧ acc.length ≤ 65536 ∧ bodyL [] l = bodyL acc (l.drop j)

set_option maxRecDepth 100000 in
set_option maxHeartbeats 8000000 in
theorem equalfunc_any (w : World) (v1 v2 : Value) (rs1 rs2 : List RStep) (h1 : Seen w v1 rs1) (h2 : Seen w v2 rs2) (hn : ∀ x ∈ rs1, x.1.op.writes.length ≤ 70000 ∧ x.1.keep.length ≤ 70000) (hl : rs1.length ≤ 20000) :
    Calls Tryz.prog 86 #[v1, v2, .func (.func 87) #[] #[]] w fun e w' => e = .returned (.bool (decide (rs1.map (·.1) = rs2.map (·.1)))) ∧ Mod [] w w' := by
  have HS := Lib.hid (And.intro h1 (And.intro h2 (And.intro True.intro hn)))
  obtain ⟨A, c, rfl, _⟩ := h1.1
  obtain ⟨B, d, rfl, _⟩ := h2.1
  by_cases hlen : rs2.length = rs1.length
  rotate_left
  · have hne : ¬ (rs1.length : Int) = (rs2.length : Int) := by omega
    rw [decide_eq_false (fun e => hlen (by have := congrArg List.length e; simpa using this.symm))]
    generalize rs1.length = n1 at hne ⊢
    generalize rs2.length = n2 at hne ⊢
    clear hlen HS hl h1 h2 hn
    go_enter Tryz.func86, Tryz.ntmps86
    go_wp2
    go_ret
    exact ⟨rfl, Mod.refl _ _⟩
  rw [hlen]
  obtain ⟨R, hR⟩ : ∃ R, R = decide (rs1.map (·.1) = rs2.map (·.1)) := ⟨_, rfl⟩
  rw [← hR]
  have HR0 := Lib.hid hR
  clear hR
  obtain ⟨n, hnn⟩ : ∃ n, n = rs1.length := ⟨_, rfl⟩
  rw [← hnn] at hl ⊢
  have HN := Lib.hid (And.intro hnn hlen)
  clear hnn hlen h1 h2 hn
  go_enter Tryz.func86, Tryz.ntmps86
  go_wp2
  go_loopw [17] (fun s17 wr => ∃ j : Nat, s17 = .int .i64 j ∧ j ≤ n ∧ (rs1.map (·.1)).take j = (rs2.map (·.1)).take j ∧ Mod [] w wr) (fun s17 _ => n - (RowKit.intOf s17).toNat)
  case atStart => exact ⟨0, by go_num, Nat.zero_le _, by simp, Mod.refl _ _⟩
  case round =>
    obtain ⟨j, rfl, hj, hpre, hm⟩ := hrel
    have HPR := Lib.hid hpre
    clear hpre
    have HM := Lib.hid hm
    clear hm
    by_cases hjl : j < n
    · obtain ⟨x, hx⟩ : ∃ x, rs1[j]? = some x := ⟨_, List.getElem?_eq_getElem (by rw [← HN.out.1]; exact hjl)⟩
      obtain ⟨y, hy⟩ : ∃ y, rs2[j]? = some y := ⟨_, List.getElem?_eq_getElem (by rw [HN.out.2, ← HN.out.1]; exact hjl)⟩
      have HXY := Lib.hid (show (rs1.map (·.1))[j]? = some x.1 ∧ (rs2.map (·.1))[j]? = some y.1 from ⟨by rw [List.getElem?_map, hx]; rfl, by rw [List.getElem?_map, hy]; rfl⟩)
      obtain ⟨s, wv, kv⟩ := x
      obtain ⟨s', wu, ku⟩ := y
      obtain ⟨b1, o1, c1, e1, r1⟩ := HS.out.1.range hx
      obtain ⟨b2, o2, c2, e2, r2⟩ := HS.out.2.1.range hy
      have q1 := HS.out.1.2 _ (List.mem_of_getElem? hx)
      have q2 := HS.out.2.1.2 _ (List.mem_of_getElem? hy)
      have q3 := HS.out.2.2.2 _ (List.mem_of_getElem? hx)
      have HR := Lib.hid (And.intro (range_new r1 HM.out) (range_new r2 HM.out))
      have HQ := Lib.hid (And.intro q1 (And.intro q2 (And.intro q3 (And.intro r2 (And.intro (row_one q1.1 q1.2) (row_one q2.1 q2.2))))))
      cases e1
      cases e2
      clear r1 r2 hx hy q1 q2 q3
      have hjn : (j : Int) < (n : Int) := by omega
      go_wp2_with (first | (refine wpList_load_mid rfl 69 _ rfl b1 (o1 + j * 12) rfl (rowOf (s, wv, kv)) _ HR.out.1 Tryz.underlying69 rfl (row_size _) ?_) | (refine wpList_store_step rfl _ _ rfl wr.heap.size (rowOf (s, wv, kv)).toArray rfl rfl zeroStep (Blk.new _ _ _) rfl rfl HQ.out.2.2.2.2.1 ?_; intro W2 hs2 hB2 hM2; replace hM2 := Mod.then ((Mod.refl [] wr).alloc _) hM2 (by simp); have HB := Lib.hid (And.intro hB2 hM2); clear hB2 hM2 hs2) | (refine wpList_load_mid rfl 69 _ rfl b2 (o2 + j * 12) rfl (rowOf (s', wu, ku)) _ (range_new HR.out.2 HB.out.2) Tryz.underlying69 rfl (row_size _) ?_) | (refine wpList_store_step rfl _ _ rfl W2.heap.size (rowOf (s', wu, ku)).toArray rfl rfl zeroStep (Blk.new _ _ _) rfl rfl HQ.out.2.2.2.2.2 ?_; intro W3 hs3 hB3 hM3; replace hM3 := Mod.then ((Mod.refl [] W2).alloc _) hM3 (by simp); have HB3 := Lib.hid (And.intro hB3 (And.intro (hM3.blk HB.out.1 (by simp)) (HB.out.2.trans hM3))); clear hB3 hM3 hs3) | (refine wpList_load_mid rfl 69 _ rfl wr.heap.size 0 rfl (rowOf (s, wv, kv)) _ (blk_range HB3.out.2.1) Tryz.underlying69 rfl (row_size _) ?_) | (refine wpList_load_mid rfl 69 _ rfl W2.heap.size 0 rfl (rowOf (s', wu, ku)) _ (blk_range HB3.out.1) Tryz.underlying69 rfl (row_size _) ?_))
      have HW := Lib.hid (HM.out.trans HB3.out.2.2)
      refine (same_any W3 s s' wv kv wu ku (HQ.out.1.1.new HW.out) (HQ.out.2.1.1.new HW.out) (HQ.out.1.2.new HW.out) (HQ.out.2.1.2.new HW.out) HQ.out.2.2.1.1 HQ.out.2.2.1.2).mono ?_
      rintro e w4 ⟨rfl, hm4⟩
      have H4 := Lib.hid (HW.out.trans hm4)
      clear hm4
      by_cases hss : s = s'
      · rw [decide_eq_true hss]
        have HN2 := Lib.hid (show (rs1.map (·.1)).take (j + 1) = (rs2.map (·.1)).take (j + 1) by
          rw [take_snoc _ j s HXY.out.1, take_snoc _ j s (by rw [hss]; exact HXY.out.2), HPR.out])
        clear hss
        go_wp2
        go_roundw
        case rel => exact ⟨j + 1, by go_num, by omega, HN2.out, H4.out⟩
        case measure => simp [RowKit.intOf]; omega
      · rw [decide_eq_false hss]
        have HRF := Lib.hid (show R = false by
          rw [HR0.out]
          refine decide_eq_false (fun e => hss ?_)
          have h1 := HXY.out.1
          rw [e, HXY.out.2] at h1
          exact (Option.some.inj h1).symm)
        clear hss
        go_wp2
        go_ret
        exact ⟨by have e := HRF.out; subst e; rfl, H4.out⟩
    · have HRT := Lib.hid (show R = true by
        rw [HR0.out]
        refine decide_eq_true ?_
        have h1 := HPR.out
        rwa [List.take_of_length_le (by rw [List.length_map, ← HN.out.1]; omega), List.take_of_length_le (by rw [List.length_map, HN.out.2, ← HN.out.1]; omega)] at h1)
      go_wp2
      go_ret
      exact ⟨by have e := HRT.out; subst e; rfl, HM.out⟩

set_option maxRecDepth 100000 in
set_option maxHeartbeats 8000000 in
theorem print_any (w : World) (v : Value) (rs : List RStep) (m : Int) (h : Seen w v rs) (hc : ∀ x ∈ rs, Nice x.1) (ht : tabIs w) (hg : errTypeIs w) (hm : w.cell? ⟨3, 0, none⟩ = some (.int .i64 m)) :
    Calls Tryz.prog 23 #[v] w (PrintAny w (rs.map (·.1))) := by
  have HS := Lib.hid (And.intro h (And.intro hc (And.intro ht (And.intro hg hm))))
  obtain ⟨A, c, rfl, _⟩ := h.1
  obtain ⟨n, hnn⟩ : ∃ n, n = rs.length := ⟨_, rfl⟩
  rw [← hnn]
  have HN := Lib.hid hnn
  clear hnn h hc ht hg hm
  by_cases hbig : 20000 < n
  · have hb1 : (20000 : Int) < (n : Int) := by omega
    go_enter Tryz.func23, Tryz.ntmps23
    go_wp2
    refine ret_tmps Tryz.results23 rfl ?_
    exact printAny_none (by unfold printP; rw [if_pos (by rw [List.length_map, ← HN.out]; exact hbig)]) (Mod.refl _ _)
  have hl : n ≤ 20000 := by omega
  clear hbig
  have hl2 : ¬ (20000 : Int) < (n : Int) := by omega
  go_enter Tryz.func23, Tryz.ntmps23
  go_wp2
  go_loopw [16] (fun s16 wr => ∃ j : Nat, s16 = .int .i64 j ∧ j ≤ n ∧ ∃ acc, LayingG w (rs.map (·.1)) j acc wr) (fun s16 _ => n - (RowKit.intOf s16).toNat)
  case atStart => exact ⟨0, by go_num, Nat.zero_le _, [], Lib.fresh_isBuilder _ _ _, (Mod.refl _ _).alloc _, by simp, rfl⟩
  case round =>
    obtain ⟨j, rfl, hj, acc, hlay⟩ := hrel
    have HB := Lib.hid hlay
    have hsz := hlay.2.1.size
    clear hlay
    by_cases hjl : j < n
    · obtain ⟨x, hx⟩ : ∃ x, rs[j]? = some x := ⟨_, List.getElem?_eq_getElem (by rw [← HN.out]; exact hjl)⟩
      obtain ⟨s, wv, kv⟩ := x
      obtain ⟨b1, o1, c1, e1, r1⟩ := HS.out.1.range hx
      have q1 := HS.out.1.2 _ (List.mem_of_getElem? hx)
      have q2 := HS.out.2.1 _ (List.mem_of_getElem? hx)
      have HR := Lib.hid (range_new r1 HB.out.2.1)
      have hxm : (rs.map (·.1))[j]? = some s := by rw [List.getElem?_map, hx]; rfl
      have HQ := Lib.hid (And.intro q1 (And.intro q2 (And.intro (row_one q1.1 q1.2) hxm)))
      obtain ⟨D, hD, hDs⟩ := as_str (shownL s) 100000000000 (shown_le q2)
      have HBL := Lib.hid (show bodyL [] (rs.map (·.1)) = if shownL s = [] ∨ 65536 ≤ acc.length + (shownL s).length then none else bodyL (acc ++ shownL s ++ [10]) ((rs.map (·.1)).drop (j + 1)) by
        rw [HB.out.2.2.2, drop_at hxm, bodyL])
      have HD := Lib.hid hD
      cases e1
      clear r1 hx q1 q2 hxm hD
      have hjn : (j : Int) < (n : Int) := by omega
      go_wp2_with (first | (refine wpList_load_mid rfl 69 _ rfl b1 (o1 + j * 12) rfl (rowOf (s, wv, kv)) _ HR.out Tryz.underlying69 rfl (row_size _) ?_) | (refine wpList_store_step rfl _ _ rfl wr.heap.size (rowOf (s, wv, kv)).toArray rfl rfl zeroStep (Blk.new _ _ _) rfl rfl HQ.out.2.2.1 ?_; intro W2 hs2 hB2 hM2; replace hM2 := Mod.then ((Mod.refl [] wr).alloc _) hM2 (by simp); have HB2 := Lib.hid (And.intro hB2 hM2); clear hB2 hM2 hs2) | (refine wpList_load_mid rfl 69 _ rfl wr.heap.size 0 rfl (rowOf (s, wv, kv)) _ (blk_range HB2.out.1) Tryz.underlying69 rfl (row_size _) ?_))
      have HW := Lib.hid (HB.out.2.1.trans HB2.out.2)
      refine (shown_str D W2 s wv kv HD.out HQ.out.2.1 (tab_new HS.out.2.2.1 HW.out) (HQ.out.1.1.new HW.out) (HQ.out.1.2.new HW.out)).mono ?_
      rintro e w3 ⟨rfl, hm3⟩
      have hab : acc.length ≤ 65536 := HB.out.2.2.1
      have H3 := Lib.hid (show Bld w.heap.size w.heap.size acc w3 ∧ Mod [] w w3 from ⟨(HB.out.1.new HB2.out.2).new hm3, HW.out.trans hm3⟩)
      have hsz3 := H3.out.2.size
      have hcl : (Lib.byteCells acc).length = acc.length := Lib.byteCells_length acc
      clear hm3
      by_cases hem : shownL s = []
      · have hD0 : (D.toList == []) = true := by rw [Lib.toList_data, HD.out, hem]; rfl
        have HPN := Lib.hid (print_stops (by rw [List.length_map, ← HN.out]; exact hl) (HBL.out.trans (if_pos (.inl hem))))
        clear hem
        go_wp2
        refine ret_tmps Tryz.results23 rfl ?_
        exact printAny_none HPN.out H3.out.2
      have hD0 : (D.toList == []) = false := by
        rw [Lib.toList_data, HD.out]
        simpa using hem
      have HEM := Lib.hid hem
      clear hem
      go_wp2_with fail
      refine (Tryz.Builder_Len_f w.heap.size w.heap.size (Lib.byteCells acc) _ (Lib.IsBuilderF.of H3.out.1)).mono ?_
      rintro e w4 ⟨rfl, rfl⟩
      have HDl : D.size = (shownL s).length := by rw [Lib.size_eq, HD.out]
      have HDL := Lib.hid HDl
      clear HDl
      by_cases hlong : 65536 ≤ acc.length + D.size
      · have hlI : (65536 : Int) ≤ (acc.length : Int) + (D.size : Int) := by omega
        go_wp2
        refine ret_tmps Tryz.results23 rfl ?_
        exact printAny_none (print_stops (by rw [List.length_map, ← HN.out]; exact hl) (HBL.out.trans (if_pos (.inr (by rw [← HDL.out]; exact hlong))))) H3.out.2
      · have hlI : decide ((65536 : Int) ≤ (acc.length : Int) + (D.size : Int)) = false := by simp; omega
        have hlJ : (acc.length : Int) + (D.size : Int) < 65536 := by omega
        go_wp2_with fail
        refine (wstr_walk w.heap.size w.heap.size acc D w4 H3.out.1 (by omega) (by omega) hsz3).mono ?_
        rintro e w5 ⟨rfl, hb5, hk5⟩
        have hsz5 := (mod_below H3.out.2 hk5).size
        have H5 := Lib.hid (And.intro hb5 (mod_below H3.out.2 hk5))
        clear hb5 hk5
        go_wp2_with fail
        refine (wnl_walk w.heap.size w.heap.size (acc ++ D.data.toList) w5 H5.out.1 (by rw [List.length_append, ← Lib.size_eq]; omega) hsz5).mono ?_
        rintro e w6 ⟨rfl, hb6, hk6⟩
        have H6 := Lib.hid (And.intro hb6 (mod_below H5.out.2 hk6))
        clear hb6 hk6
        go_wp2
        go_roundw
        case rel =>
          refine ⟨j + 1, by go_num, by omega, acc ++ shownL s ++ [10], by rw [← HD.out]; exact H6.out.1, H6.out.2, ?_, ?_⟩
          · have := HDL.out; simp only [List.length_append, List.length_cons, List.length_nil]; omega
          · rw [HBL.out, if_neg (not_or.2 ⟨HEM.out, by rw [← HDL.out]; exact hlong⟩)]
        case measure => simp [RowKit.intOf]; omega
    · have hjn : j = n := by omega
      have hall : bodyL [] (rs.map (·.1)) = some acc := by
        rw [HB.out.2.2.2, List.drop_eq_nil_of_le (by rw [List.length_map, ← HN.out]; omega), bodyL]
      have HL := Lib.hid (And.intro HB.out.1 (And.intro HB.out.2.1 HB.out.2.2.1))
      have HPP := Lib.hid (print_ends (by rw [List.length_map, ← HN.out]; exact hl) hall)
      clear hall
      obtain ⟨text, htext⟩ : ∃ text, text = acc := ⟨_, rfl⟩
      rw [← htext] at HL HPP
      clear htext
      go_wp2_with fail
      refine (Tryz.Builder_String_any_f w.heap.size w.heap.size text _ (Lib.IsBuilderF.of HL.out.1) hsz).mono ?_
      rintro e w1 ⟨rfl, hf1, hk1⟩
      have H1 := Lib.hid (And.intro hf1 (mod_below HL.out.2.1 hk1))
      clear hf1 hk1
      go_wp2_with fail
      refine (parse_walk w1 ⟨text.toArray⟩ m (H1.out.2.cell HS.out.2.2.2.1 (by simp)) (H1.out.2.cell HS.out.2.2.2.2 (by simp))).mono ?_
      intro e w2 hpp
      obtain ⟨x2, v2, rfl, hm2, hv1, hv2⟩ := parse_split3 hpp
      have H2b := Lib.hid (bldF_new H1.out.1 hm2)
      have HM2 := Lib.hid (H1.out.2.trans hm2)
      rcases hq : parseP text with f | again
      · obtain ⟨rfl, mb, rfl⟩ := hv1 f hq
        have HPN := Lib.hid (HPP.out.1 f hq)
        clear hpp hv1 hv2 hm2 hq
        go_wp2
        refine ret_tmps Tryz.results23 rfl ?_
        exact printAny_none HPN.out HM2.out
      obtain ⟨rfl, rs2, A2, c2, rfl, hmap, hrich, hlen2⟩ := hv2 again hq
      have hnice := canon_rows hq hmap
      have H2 := Lib.hid (And.intro hrich (And.intro hmap (And.intro HM2.out (And.intro hnice hq))))
      clear hmap hm2 hpp hv1 hv2 hrich hnice hq
      have hsz2 := HM2.out.size
      have H2L := Lib.hid (show rs2.length ≤ 20000 from hlen2)
      obtain ⟨n2, hn2⟩ : ∃ n2, n2 = rs2.length := ⟨_, rfl⟩
      rw [← hn2]
      have HN2 := Lib.hid hn2
      clear hn2 hlen2
      go_wp2_with fail
      refine (equalfunc_any w2 _ _ rs2 rs (by rw [HN2.out]; exact H2.out.1) (by rw [HN.out]; exact HS.out.1.new H2.out.2.2.1) (fun x hx => ?_) H2L.out).mono ?_
      · have h0 := (H2.out.2.2.2.1 x hx).2
        exact ⟨h0.1.2.2.1, h0.1.2.2.2.1⟩
      rintro e w3 ⟨rfl, hm3⟩
      have H3 := Lib.hid (And.intro (bldF_new H2b.out hm3) (HM2.out.trans hm3))
      clear hm3
      by_cases hal : rs2.map (·.1) = rs.map (·.1)
      rotate_left
      · rw [decide_eq_false hal]
        have HPN := Lib.hid (HPP.out.2.2 again H2.out.2.2.2.2 (fun e => hal (by rw [H2.out.2.1, e])))
        clear hal
        go_wp2
        refine ret_tmps Tryz.results23 rfl ?_
        exact printAny_none HPN.out H3.out.2
      rw [decide_eq_true hal]
      have HPS := Lib.hid (HPP.out.2.1 again H2.out.2.2.2.2 (by rw [← H2.out.2.1, hal]))
      clear hal
      have hsz3 := H3.out.2.size
      go_wp2_with fail
      refine (Tryz.Builder_String_any_f w.heap.size w.heap.size text _ H3.out.1 hsz3).mono ?_
      rintro e w4 ⟨rfl, hf4, hk4⟩
      have H4 := Lib.hid (mod_below H3.out.2 hk4)
      clear hf4 hk4
      go_wp2
      refine ret_tmps Tryz.results23 rfl ?_
      exact printAny_some HPS.out H4.out
end Go.Proofs.YtjieelmbgfnllaaGreatDoor

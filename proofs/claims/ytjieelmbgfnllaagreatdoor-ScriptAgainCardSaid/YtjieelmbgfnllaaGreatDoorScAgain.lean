/- The law ScriptAgain, walked: true at all inputs. Conditions: the table of powers and errors.errorType are laid; internal/bytealg's variable MaxLen holds an integer. -/
import Derived.Test.YtjieelmbgfnllaaGreatDoorScPrintedW
import Derived.Test.YtjieelmbgfnllaaGreatDoorScSplit
namespace Go.Proofs.YtjieelmbgfnllaaGreatDoor
open Go.RowKit Scr

def sumTo (rs : List RStep) (j : Nat) : Nat := ((rs.take j).map fun x => printedL x.1).sum
theorem sumTo_all {rs : List RStep} {l : List StepS} (he : rs.map (·.1) = l) (hc : ∀ x ∈ rs, Canon x.1 ∧ Nice x.1) : sumTo rs rs.length = (bodyT l).length := by
  subst he
  unfold sumTo
  rw [List.take_length, body_len _ (fun s hs => by obtain ⟨x, hx, rfl⟩ := List.mem_map.1 hs; exact (hc x hx).1), List.map_map]
  rfl
theorem printed_small {s : StepS} (h : Canon s ∧ Nice s) : printedL s ≤ 100000000001 := by rw [printed_len h.1]; exact Nat.succ_le_succ (shown_le h.2)
theorem sumTo_le {rs : List RStep} (hc : ∀ x ∈ rs, Canon x.1 ∧ Nice x.1) (hl : rs.length ≤ 20000) (j : Nat) : sumTo rs j ≤ 2000000000020000 := by
  have h0 := sum_le (fun x : RStep => printedL x.1) 100000000001 (rs.take j) (fun x hx => printed_small (hc x (List.mem_of_mem_take hx)))
  have h00 : (rs.take j).length ≤ 20000 := by rw [List.length_take]; omega
  exact Nat.le_trans h0 (Nat.le_trans (Nat.mul_le_mul_right _ h00) (by decide))
theorem print_fine (w : World) (v : Value) (rs : List RStep) (m : Int) (D : ByteArray) {l : List StepS} (hD : D.data.toList = bodyT l) (he : rs.map (·.1) = l) (hle : D.size ≤ 65536) (h : Seen w v rs) (hc : ∀ x ∈ rs, Canon x.1 ∧ Nice x.1) (hl : rs.length ≤ 20000) (ht : tabIs w) (hg : errTypeIs w) (hm : w.cell? ⟨3, 0, none⟩ = some (.int .i64 m)) :
    Calls Tryz.prog 23 #[v] w fun e w' => e = .returned (.tuple #[.string D, .nilIface]) ∧ Mod [] w w' := by
  refine (print_walk w v rs m h hc hl ht hg hm).mono ?_
  intro e w' hp
  subst he
  refine ⟨?_, hp.1⟩
  rw [hp.2.1 (by rw [← hD, ← Lib.size_eq]; exact hle), ← str_is hD]
theorem print_great (w : World) (v : Value) (rs : List RStep) (m : Int) {l : List StepS} (he : rs.map (·.1) = l) (hle : 65536 < (bodyT l).length) (h : Seen w v rs) (hc : ∀ x ∈ rs, Canon x.1 ∧ Nice x.1) (hl : rs.length ≤ 20000) (ht : tabIs w) (hg : errTypeIs w) (hm : w.cell? ⟨3, 0, none⟩ = some (.int .i64 m)) :
    Calls Tryz.prog 23 #[v] w fun e w' => e = .returned (.tuple #[.string ⟨#[]⟩, .iface 93 (.int .i64 205)]) ∧ Mod [] w w' := by
  refine (print_walk w v rs m h hc hl ht hg hm).mono ?_
  intro e w' hp
  subst he
  exact ⟨hp.2.2 hle, hp.1⟩

set_option maxRecDepth 100000 in
set_option maxHeartbeats 8000000 in
theorem again_walk (w : World) (T : ByteArray) (m : Int) (hT : T.size ≤ 140737488355328) (ht : tabIs w) (hg : errTypeIs w) (hm : w.cell? ⟨3, 0, none⟩ = some (.int .i64 m)) :
    Calls Tryz.prog 6 #[.string T] w fun e w' => e = .returned (.bool true) ∧ Mod [] w w' := by
  have HS := Lib.hid (And.intro ht (And.intro hg hm))
  clear ht hg hm
  by_cases hlen : 70000 < T.size
  · have hl1 : (70000 : Int) < (T.size : Int) := by omega
    go_enter Tryz.func6, Tryz.ntmps6
    go_wp2
    go_ret
    exact ⟨rfl, Mod.refl _ _⟩
  have hl1 : ¬ (70000 : Int) < (T.size : Int) := by omega
  go_enter Tryz.func6, Tryz.ntmps6
  go_wp2_with fail
  refine (known_walk w m HS.out.1 HS.out.2.1 HS.out.2.2).mono ?_
  rintro e w1 ⟨rfl, hm1⟩
  have H1 := Lib.hid hm1
  clear hm1
  go_wp2_with fail
  refine (parse_walk w1 T m (H1.out.cell HS.out.2.1 (by simp)) (H1.out.cell HS.out.2.2 (by simp))).mono ?_
  intro e w2 hp
  obtain ⟨x1, v1, rfl, hm2, hv1, hv1'⟩ := parse_split3 hp
  have HP1 := Lib.hid (And.intro hv1 hv1')
  have H2 := Lib.hid (H1.out.trans hm2)
  clear hp hm2 hv1 hv1'
  rcases hq1 : parseP T.data.toList with f | l
  · obtain ⟨rfl, mb, rfl⟩ := HP1.out.1 f hq1
    clear hq1
    go_wp2
    go_ret
    exact ⟨rfl, H2.out⟩
  obtain ⟨rfl, rs, A, c, rfl, h1, h2, h3⟩ := HP1.out.2 l hq1
  have hc := canon_rows hq1 h1
  have hall := sumTo_all h1 hc
  have HX := Lib.hid (And.intro h1 (And.intro h2 (And.intro h3 (And.intro hc hall))))
  have HQ := Lib.hid hq1
  obtain ⟨n, hn⟩ : ∃ n, n = rs.length := ⟨_, rfl⟩
  rw [← hn]
  rw [← hn] at h3
  have HN := Lib.hid hn
  clear hn h1 h2 hc hall hq1 HP1
  go_wp2
  go_loopw [5, 6] (fun sn si wr => ∃ j k : Nat, si = .int .i64 j ∧ sn = .int .i64 k ∧ j ≤ n ∧ k = sumTo rs j ∧ Mod [] w2 wr) (fun _ si _ => n - (RowKit.intOf si).toNat)
  case atStart => exact ⟨0, 0, by go_num, by go_num, Nat.zero_le _, rfl, Mod.refl _ _⟩
  case round =>
    obtain ⟨j, k, rfl, rfl, hj, hk, hwr⟩ := hrel
    have hkb : k ≤ 2000000000020000 := by rw [hk]; exact sumTo_le HX.out.2.2.2.1 HX.out.2.2.1 j
    have HK := Lib.hid hk
    have HW := Lib.hid hwr
    clear hk hwr
    by_cases hjl : j < n
    · obtain ⟨x, hx⟩ : ∃ x, rs[j]? = some x := ⟨_, List.getElem?_eq_getElem (by rw [← HN.out]; exact hjl)⟩
      have hks : sumTo rs (j + 1) = sumTo rs j + printedL x.1 := sum_snoc _ hx
      have hxc := HX.out.2.2.2.1 x (List.mem_of_getElem? hx)
      obtain ⟨s, wv, kv⟩ := x
      obtain ⟨b1, o1, c1, e1, r1⟩ := HX.out.2.1.range hx
      have q1 := HX.out.2.1.2 _ (List.mem_of_getElem? hx)
      have HR := Lib.hid (range_new r1 HW.out)
      have hpb : printedL s ≤ 100000000001 := printed_small hxc
      obtain ⟨pn, hpn⟩ : ∃ pn, pn = printedL s := ⟨_, rfl⟩
      rw [← hpn] at hpb
      have HC := Lib.hid (show ∀ X, Mod [] wr X → Calls Tryz.prog 24 #[.agg (rowOf (s, wv, kv)).toArray] X fun e w' => e = .returned (.int .i64 pn) ∧ Mod [] X w' from fun X hX => hpn ▸ printed_walk X s wv kv hxc.1 hxc.2 ((q1.1.new HW.out).new hX) ((q1.2.new HW.out).new hX))
      have HQ2 := Lib.hid (And.intro hks hpn)
      cases e1
      clear r1 hx q1 hks hxc hpn
      have hjn : (j : Int) < (n : Int) := by omega
      go_wp2_with (refine wpList_load_mid rfl 69 _ rfl b1 (o1 + j * 12) rfl (rowOf (s, wv, kv)) _ HR.out Tryz.underlying69 rfl (row_size _) ?_)
      refine (HC.out _ (Mod.refl _ _)).mono ?_
      rintro e w3 ⟨rfl, hm3⟩
      have H3 := Lib.hid (HW.out.trans hm3)
      clear hm3
      go_wp2
      go_roundw
      case rel => exact ⟨j + 1, k + pn, by go_num, by go_num, by omega, by rw [HQ2.out.1, ← HQ2.out.2, HK.out], H3.out⟩
      case measure => simp [RowKit.intOf]; omega
    · have hjn : j = n := by omega
      have hkk : k = (bodyT l).length := by rw [HK.out, hjn, HN.out, HX.out.2.2.2.2]
      have HM := Lib.hid (H2.out.trans HW.out)
      by_cases hbig : 65536 < k
      · have HB := Lib.hid (show 65536 < (bodyT l).length by rw [← hkk]; exact hbig)
        have hbi : (65536 : Int) < (k : Int) := by omega
        clear hkk hbig
        go_wp2_with fail
        refine (print_great wr _ rs m HX.out.1 HB.out (HN.out ▸ HX.out.2.1.new HW.out) HX.out.2.2.2.1 HX.out.2.2.1 (tab_new HS.out.1 HM.out) (HM.out.cell HS.out.2.1 (by simp)) (HM.out.cell HS.out.2.2 (by simp))).mono ?_
        rintro e w3 ⟨rfl, hm3⟩
        have H3 := Lib.hid (HM.out.trans hm3)
        clear hm3
        go_wp2
        go_ret
        exact ⟨rfl, H3.out⟩
      · obtain ⟨D, hD⟩ : ∃ D : ByteArray, D.data.toList = bodyT l := ⟨⟨(bodyT l).toArray⟩, rfl⟩
        obtain rfl : k = D.size := by rw [Lib.size_eq, hD]; exact hkk
        have HD := Lib.hid (And.intro hD (And.intro (Nat.le_of_not_lt hbig) ((again_law HQ.out).1 (by rw [← hkk]; exact Nat.le_of_not_lt hbig)).2))
        have hbi : ¬ (65536 : Int) < (D.size : Int) := by omega
        clear hkk hD
        go_wp2_with fail
        refine (print_fine wr _ rs m D HD.out.1 HX.out.1 HD.out.2.1 (HN.out ▸ HX.out.2.1.new HW.out) HX.out.2.2.2.1 HX.out.2.2.1 (tab_new HS.out.1 HM.out) (HM.out.cell HS.out.2.1 (by simp)) (HM.out.cell HS.out.2.2 (by simp))).mono ?_
        rintro e w3 ⟨rfl, hm3⟩
        have H3 := Lib.hid (And.intro (HM.out.trans hm3) (HW.out.trans hm3))
        clear hm3
        go_wp2_with fail
        refine (parse_of _ _ _ HD.out.1 m (H3.out.1.cell HS.out.2.1 (by simp)) (H3.out.1.cell HS.out.2.2 (by simp))).mono ?_
        intro e w4 hp
        obtain ⟨x4, v4, rfl, hm4, _, hv4⟩ := parse_split3 hp
        obtain ⟨rfl, rs2, A2, c2, rfl, g1, g2, g3⟩ := hv4 _ HD.out.2.2
        have H4 := Lib.hid (And.intro (H3.out.1.trans hm4) (And.intro (H3.out.2.trans hm4) (And.intro g1 (And.intro g2 (And.intro g3 (canon_rows HQ.out g1))))))
        clear hp hm4 hv4 g1 g2 g3
        go_wp2_with fail
        refine (print_fine w4 _ rs2 m D HD.out.1 H4.out.2.2.1 HD.out.2.1 H4.out.2.2.2.1 H4.out.2.2.2.2.2 H4.out.2.2.2.2.1 (tab_new HS.out.1 H4.out.1) (H4.out.1.cell HS.out.2.1 (by simp)) (H4.out.1.cell HS.out.2.2 (by simp))).mono ?_
        rintro e w5 ⟨rfl, hm5⟩
        have H5 := Lib.hid (And.intro (H4.out.1.trans hm5) (And.intro (H4.out.2.1.trans hm5) (H4.out.2.2.2.1.new hm5)))
        clear hm5
        go_wp2_with fail
        refine (lawsteps_walk w5 _ _ rs2 rs H5.out.2.2 (HN.out ▸ HX.out.2.1.new H5.out.2.1) (by rw [H4.out.2.2.1, HX.out.1]) (fun x hx => ⟨(H4.out.2.2.2.2.2 x hx).2.1.2.2.1, (H4.out.2.2.2.2.2 x hx).2.1.2.2.2.1⟩) (by have := H4.out.2.2.2.2.1; omega)).mono ?_
        rintro e w6 ⟨rfl, hm6⟩
        have H6 := Lib.hid (H5.out.1.trans hm6)
        clear hm6
        go_wp2
        go_ret
        exact ⟨rfl, H6.out⟩
end Go.Proofs.YtjieelmbgfnllaaGreatDoor

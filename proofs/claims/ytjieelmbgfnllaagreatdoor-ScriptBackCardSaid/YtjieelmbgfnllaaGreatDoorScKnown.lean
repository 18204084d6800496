/- known: a script is read, and printed. Conditions: the table of powers and errors.errorType are laid; internal/bytealg's variable MaxLen holds an integer. -/
import Derived.Test.YtjieelmbgfnllaaGreatDoorScPrint
namespace Go.Proofs.YtjieelmbgfnllaaGreatDoor
open Go.RowKit Scr

theorem ktext_is : (⟨#[119, 114, 105, 116, 101, 32, 48, 32, 112, 117, 116, 32, 34, 97, 34, 32, 34, 49, 34, 32, 100, 101, 108, 32, 34, 98, 92, 120, 48, 48, 34, 32, 115, 121, 110, 99, 32, 35, 32, 116, 119, 111, 10, 114, 101, 112, 101, 97, 116, 32, 50, 10, 100, 111, 32, 48, 10, 116, 105, 99, 107, 10, 101, 110, 100, 10, 102, 97, 108, 108, 32, 50, 32, 53, 32, 45, 49, 10]⟩ : ByteArray).data.toList = kText := by rfl
theorem kout_is : (⟨kOut.toArray⟩ : ByteArray) = ⟨#[119, 114, 105, 116, 101, 32, 48, 32, 112, 117, 116, 32, 34, 97, 34, 32, 34, 49, 34, 32, 100, 101, 108, 32, 34, 98, 92, 120, 48, 48, 34, 32, 115, 121, 110, 99, 10, 100, 111, 32, 48, 10, 116, 105, 99, 107, 10, 100, 111, 32, 48, 10, 116, 105, 99, 107, 10, 102, 97, 108, 108, 32, 50, 32, 53, 32, 45, 49, 10]⟩ := by rfl
theorem parse_of (w : World) (D : ByteArray) (t : Bs) (h : D.data.toList = t) (m : Int) (hg : errTypeIs w) (hm : w.cell? ⟨3, 0, none⟩ = some (.int .i64 m)) : Calls Tryz.prog 11 #[.string D] w (ParsePost w t) := h ▸ parse_walk w D m hg hm
theorem body_known : bodyT kSteps = kOut := by
  have h1 := bodyL_eq kSteps [] (parse_ord known_parse).1 (by simp)
  rw [known_body, List.length_nil, Nat.zero_add, List.nil_append] at h1
  split at h1
  · exact (Option.some.inj h1).symm
  · cases h1

set_option maxRecDepth 100000 in
set_option maxHeartbeats 2000000 in
theorem known_walk (w : World) (m : Int) (ht : tabIs w) (hg : errTypeIs w) (hm : w.cell? ⟨3, 0, none⟩ = some (.int .i64 m)) :
    Calls Tryz.prog 22 #[] w fun e w' => e = .returned (.bool true) ∧ Mod [] w w' := by
  have HS := Lib.hid (And.intro ht (And.intro hg hm))
  clear ht hg hm
  go_enter Tryz.func22, Tryz.ntmps22
  go_wp2_with fail
  refine (parse_of w _ kText ktext_is m HS.out.2.1 HS.out.2.2).mono ?_
  intro e w1 hpp2
  unfold ParsePost at hpp2
  rw [known_parse] at hpp2
  obtain ⟨v, rs, rfl, hmap, hrich, _, _, hm1⟩ := hpp2
  have hlen : rs.length = 6 := by have := congrArg List.length hmap; simpa [kSteps] using this
  have hrow := hrich.1
  rw [hlen] at hrow
  obtain ⟨g, cap, hv⟩ : ∃ g cap, v = .slice (some ⟨g, 0, none⟩) 6 cap := by
    rcases hrow.2 with ⟨_, h0⟩ | ⟨g, cap, cur, hv, _⟩
    · cases h0
    · exact ⟨g, cap, hv⟩
  subst hv
  obtain ⟨x0, h0⟩ : ∃ x, rs[0]? = some x := ⟨_, List.getElem?_eq_getElem (by omega)⟩
  obtain ⟨x5, h5⟩ : ∃ x, rs[5]? = some x := ⟨_, List.getElem?_eq_getElem (by omega)⟩
  have e0 : kSteps[0]? = some x0.1 := by rw [← hmap, List.getElem?_map, h0]; rfl
  have e5 : kSteps[5]? = some x5.1 := by rw [← hmap, List.getElem?_map, h5]; rfl
  obtain ⟨s0, wv0, kv0⟩ := x0
  obtain ⟨s5, wv5, kv5⟩ := x5
  have cell : ∀ (i j : Nat) (x : RStep) (u : Value), rs[i]? = some x → j < 12 → (rowOf x)[j]? = some u → w1.cell? ⟨g, i * 12 + j, none⟩ = some u := by
    intro i j x u hx hj hu
    have := hrow.cells (g := g) rfl (i * 12 + j) u ((rows_get rs i j x hx hj).trans hu)
    rwa [Addr.add_mid, Nat.zero_add] at this
  have c60 := cell 5 0 _ _ h5 (by decide) rfl
  have c71 := cell 5 11 _ _ h5 (by decide) rfl
  have c5 := cell 0 5 _ _ h0 (by decide) rfl
  have c6 := cell 0 6 _ _ h0 (by decide) rfl
  have k0 := hrich.2.1 _ (List.mem_of_getElem? h0)
  have k5 := hrich.2.1 _ (List.mem_of_getElem? h5)
  simp only [kSteps] at e0 e5
  have e0' : s0 = ⟨1, 0, 0, 0, ⟨1, [⟨[97], false, [49]⟩, ⟨[98, 0], true, []⟩], true, [], [], 0, 0⟩, []⟩ := (Option.some.inj e0).symm
  have e5' : s5 = ⟨4, 2, 0, 0, OpS.zero, [5, -1]⟩ := (Option.some.inj e5).symm
  subst e0' e5'
  clear e0 e5
  have k5b : SeenInts w1 kv5 [5, -1] := SeenRow.own k5.2
  have k0b : WritesAt w1 w.heap.size wv0 [⟨[97], false, [49]⟩, ⟨[98, 0], true, []⟩] := k0.1
  clear k5 k0
  obtain ⟨A5, cap5, rfl, _⟩ := k5b
  have hw0 := k0b
  obtain ⟨g0, cap0, rfl⟩ : ∃ g cap, wv0 = .slice (some ⟨g, 0, none⟩) 2 cap := by
    rcases hw0.2 with ⟨_, h0⟩ | ⟨g, cap, cur, hv, _⟩
    · cases h0
    · exact ⟨g, cap, hv⟩
  have ck := hw0.cells (g := g0) rfl 3 (.string ⟨#[98, 0]⟩) rfl
  rw [Addr.add_mid] at ck
  simp at c60 c71 c5 c6 ck
  have H1 := Lib.hid (And.intro hrich.seen (And.intro hmap (And.intro hm1 hlen)))
  clear hrich hmap hm1 hlen hrow h0 h5 cell hw0 k0b
  go_wp2_with fail
  refine (print_walk w1 _ rs m H1.out.1 (fun x hx => ?_) (by have := H1.out.2.2.2; omega) (tab_new HS.out.1 H1.out.2.2.1) (H1.out.2.2.1.cell HS.out.2.1 (by simp)) (H1.out.2.2.1.cell HS.out.2.2 (by simp))).mono ?_
  · have hx2 : x.1 ∈ kSteps := by rw [← H1.out.2.1]; exact List.mem_map_of_mem hx
    exact ⟨(parse_ord known_parse).1 _ hx2, parse_nice known_parse _ hx2⟩
  intro e w2 hp
  unfold PrintPost at hp
  rw [H1.out.2.1, body_known, kout_is] at hp
  obtain ⟨hm2, hok, _⟩ := hp
  have hee := hok (by decide)
  subst hee
  have H2 := Lib.hid (H1.out.2.2.1.trans hm2)
  clear hm2 hok
  go_wp2
  go_ret
  exact ⟨rfl, H2.out⟩
end Go.Proofs.YtjieelmbgfnllaaGreatDoor

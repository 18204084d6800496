/- The law ScriptSpaces, walked: true at all inputs. Conditions: the table of powers and errors.errorType are laid; internal/bytealg's variable MaxLen holds an integer. -/
import Derived.Test.YtjieelmbgfnllaaGreatDoorScSteps
import Derived.Test.YtjieelmbgfnllaaGreatDoorScSplit
import Derived.Test.YtjieelmbgfnllaaGreatDoorScSpaced
namespace Go.Proofs.YtjieelmbgfnllaaGreatDoor
open Go.RowKit Scr

set_option maxRecDepth 100000 in
set_option maxHeartbeats 8000000 in
theorem spaces_walk (w : World) (T : ByteArray) (v : Value) (bs : List Int) (m : Int) (hT : T.size ≤ 140737488355328) (hv : SeenInts w v bs) (ht : tabIs w) (hg : errTypeIs w) (hm : w.cell? ⟨3, 0, none⟩ = some (.int .i64 m)) :
    Calls Tryz.prog 7 #[.string T, v] w fun e w' => e = .returned (.bool true) ∧ Mod [] w w' := by
  have HS := Lib.hid (And.intro ht (And.intro hg (And.intro hm hv)))
  obtain ⟨A, c, rfl, _⟩ := hv
  obtain ⟨L, hL⟩ : ∃ L, L = bs.length := ⟨_, rfl⟩
  rw [← hL]
  have HL := Lib.hid hL
  clear ht hg hm hL
  by_cases hlen : 20000 < T.size
  · have hl1 : (20000 : Int) < (T.size : Int) := by omega
    go_enter Tryz.func7, Tryz.ntmps7
    go_wp2
    go_ret
    exact ⟨rfl, Mod.refl _ _⟩
  have hl1 : ¬ (20000 : Int) < (T.size : Int) := by omega
  by_cases hz : L = 0
  · subst hz
    go_enter Tryz.func7, Tryz.ntmps7
    go_wp2
    go_ret
    exact ⟨rfl, Mod.refl _ _⟩
  have hz1 : ¬ (L : Int) = 0 := by omega
  by_cases hk : 1000 < L
  · have hk1 : (1000 : Int) < (L : Int) := by omega
    go_enter Tryz.func7, Tryz.ntmps7
    go_wp2
    go_ret
    exact ⟨rfl, Mod.refl _ _⟩
  have hk1 : ¬ (1000 : Int) < (L : Int) := by omega
  go_enter Tryz.func7, Tryz.ntmps7
  go_wp2_with fail
  refine (known_walk w m HS.out.1 HS.out.2.1 HS.out.2.2.1).mono ?_
  rintro e w1 ⟨rfl, hm1⟩
  have H1 := Lib.hid hm1
  clear hm1
  go_wp2_with fail
  refine (parse_walk w1 T m (H1.out.cell HS.out.2.1 (by simp)) (H1.out.cell HS.out.2.2.1 (by simp))).mono ?_
  intro e w2 hp
  obtain ⟨x1, v1, rfl, hm2, hv1, hv1'⟩ := parse_split3 hp
  have HP1 := Lib.hid (And.intro hv1 hv1')
  have H2 := Lib.hid (H1.out.trans hm2)
  clear hp hm2 hv1 hv1'
  obtain ⟨G, hG⟩ : ∃ G : ByteArray, G.data.toList = spG (spF bs) .out 0 T.data.toList := ⟨⟨(spG (spF bs) .out 0 T.data.toList).toArray⟩, rfl⟩
  have HG := Lib.hid hG
  have HSP := Lib.hid (show Calls Tryz.prog 25 #[.string T, .slice A L c] w2 fun e w' => e = .returned (.string G) ∧ Mod [] w2 w' by
    refine (spaced_walk w2 T _ bs (by omega) (by rw [HL.out]; exact HS.out.2.2.2.new H2.out) (by rw [← HL.out]; omega) (by rw [← HL.out]; omega)).mono ?_
    rintro e w' ⟨rfl, hm⟩
    exact ⟨by rw [str_is hG], hm⟩)
  clear hG
  go_wp2_with fail
  refine HSP.out.mono ?_
  rintro e w3 ⟨rfl, hm3⟩
  have H3 := Lib.hid (And.intro (H2.out.trans hm3) hm3)
  clear hm3
  rcases hq1 : parseP T.data.toList with f | l
  · obtain ⟨rfl, mb, rfl⟩ := HP1.out.1 f hq1
    clear hq1
    go_wp2
    go_ret
    exact ⟨rfl, H3.out.1⟩
  obtain ⟨rfl, rs, A2, c2, rfl, h1, h2, h3⟩ := HP1.out.2 l hq1
  have hc := canon_rows hq1 h1
  have HX := Lib.hid (And.intro h1 (And.intro h2 (And.intro h3 (And.intro hc hq1))))
  obtain ⟨n, hn⟩ : ∃ n, n = rs.length := ⟨_, rfl⟩
  rw [← hn]
  have HN := Lib.hid hn
  clear hn h1 h2 h3 hc hq1 HP1
  by_cases hbig : 65536 < G.size
  · have hbi : (65536 : Int) < (G.size : Int) := by omega
    go_wp2
    go_ret
    exact ⟨rfl, H3.out.1⟩
  have hbi : ¬ (65536 : Int) < (G.size : Int) := by omega
  have HQ := Lib.hid (spaces_law (spF bs) HX.out.2.2.2.2 (by rw [← HG.out, ← Lib.size_eq]; omega))
  go_wp2_with fail
  refine (parse_of _ _ _ HG.out m (H3.out.1.cell HS.out.2.1 (by simp)) (H3.out.1.cell HS.out.2.2.1 (by simp))).mono ?_
  intro e w4 hp
  obtain ⟨x4, v4, rfl, hm4, _, hv4⟩ := parse_split3 hp
  obtain ⟨rfl, rs2, A4, c4, rfl, g1, g2, g3⟩ := hv4 _ HQ.out
  have H4 := Lib.hid (And.intro (H3.out.1.trans hm4) (And.intro (H3.out.2.trans hm4) (And.intro g1 (And.intro g2 (And.intro g3 (canon_rows HQ.out g1))))))
  clear hp hm4 hv4 g1 g2 g3
  go_wp2_with fail
  refine (lawsteps_walk w4 _ _ rs2 rs H4.out.2.2.2.1 (HN.out ▸ HX.out.2.1.new H4.out.2.1) (by rw [H4.out.2.2.1, HX.out.1]) (fun x hx => ⟨(H4.out.2.2.2.2.2 x hx).2.1.2.2.1, (H4.out.2.2.2.2.2 x hx).2.1.2.2.2.1⟩) (by have := H4.out.2.2.2.2.1; omega)).mono ?_
  rintro e w5 ⟨rfl, hm5⟩
  have H5 := Lib.hid (H4.out.1.trans hm5)
  clear hm5
  go_wp2
  go_ret
  exact ⟨rfl, H5.out⟩
end Go.Proofs.YtjieelmbgfnllaaGreatDoor

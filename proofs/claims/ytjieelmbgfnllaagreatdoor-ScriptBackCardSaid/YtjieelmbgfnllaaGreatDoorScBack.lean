/- The law ScriptBack, walked: true at all steps. Conditions: the numbers are of 64 bits, texts and lists of at most 2^47 bytes each; the table of powers and errors.errorType are laid; internal/bytealg's variable MaxLen holds an integer. -/
import Derived.Test.YtjieelmbgfnllaaGreatDoorScPrintG
import Derived.Test.YtjieelmbgfnllaaGreatDoorScCount
import Derived.Test.YtjieelmbgfnllaaGreatDoorScSteps
namespace Go.Proofs.YtjieelmbgfnllaaGreatDoor
open Go.RowKit Scr

def Nums (s : StepS) : Prop := I64 s.a ∧ I64 s.b ∧ I64 s.c ∧ I64 s.op.n ∧ I64 s.op.snap ∧ ∀ x ∈ s.keep, I64 x
set_option maxRecDepth 100000 in
set_option maxHeartbeats 8000000 in
theorem back_walk (w : World) (v : Value) (rs : List RStep) (m : Int) (hs : Seen w v rs) (hn : rs.length ≤ 140737488355328) (hl : ∀ x ∈ rs, StBig x.1 ∧ Nums x.1) (ht : tabIs w) (hg : errTypeIs w) (hm : w.cell? ⟨3, 0, none⟩ = some (.int .i64 m)) :
    Calls Tryz.prog 5 #[v] w fun e w' => e = .returned (.bool true) ∧ Mod [] w w' := by
  have HS := Lib.hid (And.intro ht (And.intro hg (And.intro hm (And.intro hs (And.intro hn hl)))))
  obtain ⟨A, c, rfl, _⟩ := hs.1
  obtain ⟨n, hnn⟩ : ∃ n, n = rs.length := ⟨_, rfl⟩
  rw [← hnn]
  have HN := Lib.hid hnn
  clear hnn hs hn hl ht hg hm
  go_enter Tryz.func5, Tryz.ntmps5
  go_wp2_with fail
  refine (small_walk w _ rs (by rw [HN.out]; exact HS.out.2.2.2.1) HS.out.2.2.2.2.1 (fun x hx => (HS.out.2.2.2.2.2 x hx).1)).mono ?_
  rintro e w1 ⟨b, rfl, hb, hm1⟩
  have H1 := Lib.hid (And.intro hb hm1)
  clear hb hm1
  rcases b with _ | _
  · go_wp2
    go_ret
    exact ⟨rfl, H1.out.2⟩
  have HL := Lib.hid (pss_lim (H1.out.1 rfl))
  have HNI := Lib.hid (show ∀ x ∈ rs, Nice x.1 from fun x hx => ⟨HL.out.2 x hx, (HS.out.2.2.2.2.2 x hx).2⟩)
  go_wp2_with fail
  refine (known_walk w1 m (tab_new HS.out.1 H1.out.2) (H1.out.2.cell HS.out.2.1 (by simp)) (H1.out.2.cell HS.out.2.2.1 (by simp))).mono ?_
  rintro e w2 ⟨rfl, hm2⟩
  have H2 := Lib.hid (H1.out.2.trans hm2)
  clear hm2
  go_wp2_with fail
  refine (print_any w2 _ rs m (by rw [HN.out]; exact HS.out.2.2.2.1.new H2.out) HNI.out (tab_new HS.out.1 H2.out) (H2.out.cell HS.out.2.1 (by simp)) (H2.out.cell HS.out.2.2.1 (by simp))).mono ?_
  intro e w3 hp
  have H3 := Lib.hid (H2.out.trans hp.1)
  have H23 := Lib.hid hp.1
  rcases hq : printP (rs.map (·.1)) with _ | t
  · obtain rfl := hp.2.1 hq
    clear hp hq
    go_wp2
    go_ret
    exact ⟨rfl, H3.out⟩
  obtain rfl := hp.2.2 t hq
  have hback := printP_back hq
  clear hp hq
  obtain ⟨D, hD⟩ : ∃ D : ByteArray, D = ⟨t.toArray⟩ := ⟨_, rfl⟩
  have hDs : D.size ≤ 65536 := by rw [hD, Lib.size_eq]; exact hback.2.1
  have hn2 : n ≤ 20000 := by rw [HN.out]; have := hback.2.2; simpa using this
  have HB := Lib.hid (And.intro hback (show D.data.toList = t by rw [hD]))
  rw [← hD]
  clear hD hback
  go_wp2_with fail
  refine (parse_of _ _ _ HB.out.2 m (H3.out.cell HS.out.2.1 (by simp)) (H3.out.cell HS.out.2.2.1 (by simp))).mono ?_
  intro e w4 hp
  obtain ⟨x4, v4, rfl, hm4, _, hv4⟩ := parse_split3 hp
  obtain ⟨rfl, rs2, A4, c4, rfl, g1, g2, g3⟩ := hv4 _ HB.out.1.1
  have H4 := Lib.hid (And.intro (H3.out.trans hm4) (And.intro g1 (And.intro g2 (And.intro g3 (canon_rows HB.out.1.1 g1)))))
  clear hp hm4 hv4 g1 g2 g3
  have hDi : (D.size : Int) ≤ 65536 := by omega
  have hni : (n : Int) ≤ 20000 := by omega
  go_wp2_with fail
  refine (lawsteps_walk w4 _ _ rs2 rs H4.out.2.2.1 (by rw [HN.out]; exact HS.out.2.2.2.1.new H4.out.1) H4.out.2.1 (fun x hx => ⟨(H4.out.2.2.2.2 x hx).2.1.2.2.1, (H4.out.2.2.2.2 x hx).2.1.2.2.2.1⟩) (by have := H4.out.2.2.2.1; omega)).mono ?_
  rintro e w5 ⟨rfl, hm5⟩
  have H5 := Lib.hid (H4.out.1.trans hm5)
  clear hm5
  go_wp2
  go_ret
  exact ⟨rfl, H5.out⟩
end Go.Proofs.YtjieelmbgfnllaaGreatDoor

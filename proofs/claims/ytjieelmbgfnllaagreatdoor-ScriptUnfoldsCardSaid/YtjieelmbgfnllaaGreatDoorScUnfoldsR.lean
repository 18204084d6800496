/- The law ScriptUnfolds returns true at all inputs, and leaves its arguments as they were. Conditions: those that the row prints: the listed package-level variables read as the program's text lays them. -/
import Derived.Test.YtjieelmbgfnllaaGreatDoorScUnfoldsF
import Derived.Test.YtjieelmbgfnllaaGreatDoorScUnfolds2
import Derived.Test.YtjieelmbgfnllaaGreatDoorTie
import Derived.Test.YtjieelmbgfnllaaGreatDoorCards
import Derived.SevenTiedAt
namespace Go.Proofs.YtjieelmbgfnllaaGreatDoor
open Go.ChangeShapes Go.WideShapes Go.ChangeAt Go.RowKit
open Go.ChangeMaps (open_string shut_string)

theorem str_bound {s : ByteArray} (h : s.data.toList.length ≤ reachBytes) : s.size ≤ 140737488355328 := by
  rw [Lib.size_eq]; unfold reachBytes at h; omega
def witArgs : Array Value := #[.string ⟨#[]⟩, .string ⟨#[]⟩, .string ⟨#[]⟩, .int .i64 0]
theorem wit_shaped (os : Os) : ((layWorld os).forCall (fun _ _ => 0) ⟨#[], witArgs, []⟩).Shaped Tryz.prog := World.shaped_of_ZipB (by kernel_rfl) (by kernel_rfl)
theorem wit_ok (os : Os) : Input.okWideB Tryz.checked.prog ((layWorld os).forCall (fun _ _ => 0) ⟨#[], witArgs, []⟩) 8 ⟨#[], witArgs, []⟩ = true := by kernel_rfl
theorem wit_pre (os : Os) {H : Type} (enc : TypeId × Value → H) : Rows.scriptUnfoldsSpec.preB enc Tryz.checked.prog Tryz.f8 [] false ((layWorld os).forCall (fun _ _ => 0) ⟨#[], witArgs, []⟩).memory witArgs 8 = true := by kernel_rfl
theorem wit_sized (os : Os) {H : Type} (enc : TypeId × Value → H) : Rows.scriptUnfoldsSpec.sizedB enc Tryz.checked.prog Tryz.f8 false ((layWorld os).forCall (fun _ _ => 0) ⟨#[], witArgs, []⟩).memory witArgs 8 = true := by kernel_rfl
theorem law_noInit : Tryz.checked.prog.inits.idxOf? 8 = none := by kernel_rfl
set_option maxRecDepth 100000 in
theorem unfolds_lifted (os : Os) (started : os.Started) (H : Type) (enc : TypeId × Value → H) :
    ReturnsInHanded {} Tryz.checked os 8 .any (fun w args => (Rows.scriptUnfoldsSpec.pre enc Tryz.prog Tryz.f8 [] false w args ∧ laidMetH Tryz.prog lay6 w) ∧ sizedMet enc Tryz.prog Tryz.f8 (OpenSpec.ofChange Rows.scriptUnfoldsSpec) false w args)
      (Rows.scriptUnfoldsSpec.post enc Tryz.prog Tryz.f8 false true false false) := by
  refine row_build (C := Tryz.checked) (X := fun w _ => laidMetH Tryz.prog lay6 w) (fun _ _ _ hh h => h.of_heap hh) row_own started law_noInit Tryz.func8
    (ChangeSpec.witness_shaped (enc := enc) (C := Tryz.checked) (os := os) (X := fun w _ => laidMetH Tryz.prog lay6 w) false (layWorld os) witArgs 8 (layWorld_os os)
      (wit_shaped os) (wit_ok os) (wit_pre os enc) (wit_sized os enc) (layWorld_met os _)) ?_
  intro W base args ds gs before hval0 hW hz hsh hL
  have hval : ∀ (j : Nat) t v, Tryz.f8.params[j]? = some t → args[j]? = some v → Value.okWide Tryz.prog W .any base t v := hval0
  have hW' := hW
  obtain ⟨p, q, hA0, hV, rfl, _, _⟩ := hW
  have hA : DataW.TrodAll enc Tryz.prog W 0 (fun _ => true) true Tryz.f8.params.toList args.toList ds p := hA0
  rw [Tryz.params8] at hA hval
  obtain ⟨v0, v1, v2, v3, d0, d1, d2, d3, p0, p1, p2, p3, rfl, rfl, rfl, h0, h1, h2, h3⟩ := trodAll_four hA
  obtain ⟨rfl, rfl⟩ := trodVars_none hV
  obtain ⟨s0, rfl, rfl, rfl, ws0⟩ := open_string Tryz.underlying9 (hval 0 9 v0 rfl rfl) h0
  obtain ⟨s1, rfl, rfl, rfl, ws1⟩ := open_string Tryz.underlying9 (hval 1 9 v1 rfl rfl) h1
  obtain ⟨s2, rfl, rfl, rfl, ws2⟩ := open_string Tryz.underlying9 (hval 2 9 v2 rfl rfl) h2
  obtain ⟨s3, rfl, rfl, rfl, ws3⟩ := open_int Tryz.underlying3 (hval 3 3 v3 rfl rfl) h3
  simp only [List.append_nil] at hW'
  have hz2 : s0.data.toList.length ≤ reachBytes ∧ s1.data.toList.length ≤ reachBytes ∧ s2.data.toList.length ≤ reachBytes := by
    have h := hz
    rw [Tryz.params8] at h
    simpa [DataW.weightsEach, DataW.weights] using h
  obtain ⟨m, hm⟩ := row_maxLen hsh
  refine (unfolds_walk W s0 s1 s2 s3 m (str_bound hz2.1) (str_bound hz2.2.1) (str_bound hz2.2.2) (row_tab hL) (row_errType hL) hm).mono fun e W' ⟨he, hb⟩ => ?_
  subst he
  exact ⟨_, rfl, _, _, _, [], [], [], hW', trodAll_mk1 (shut_bool Tryz.underlying4 _), trodAll_mk4 (shut_string Tryz.underlying9 ws0) (shut_string Tryz.underlying9 ws1) (shut_string Tryz.underlying9 ws2) (shut_int Tryz.underlying3 ws3), rfl, hb.below.frame _, fun h => by cases h⟩

theorem unfolds_holds : Rows.ScriptUnfoldsSaid :=
  OpenClaim.holds_of_wide 8 Tryz.f8 rfl rfl rfl rfl rfl rfl rfl ⟨rfl, rfl, rfl, rfl, rfl⟩ rfl rfl rfl rfl rfl law_fn law_func law_facts
    law_inst law_wrap
    (fun os started H enc _ => unfolds_lifted os started H enc)

theorem unfolds_card : Rows.ScriptUnfoldsCardSaid :=
  Claim7.holds_tied_plain_at .later [] [.data, .data, .data, .data, .handle, .pinned] true (true, "a9966e7656cff759dfac7da7c1bf5e102bccdc1b157d8210733290071455c32e") true
    unfolds_holds (fun _ h => by cases h) (by kernel_rfl) (fun _ h => by cases h) scriptUnfolds_row_tie rfl ⟨rfl, rfl⟩ (by kernel_rfl) rfl
    (fun f fn hf hfn => by
      obtain rfl : f = 8 := Option.some.inj ((show Tryz.prog.funcNamed "scree/screelaw20.ScriptUnfolds" = some 8 by kernel_rfl).symm.trans hf) |>.symm
      obtain rfl : fn = Tryz.f8 := (Option.some.inj (Tryz.func8.symm.trans hfn)).symm
      exact ⟨by kernel_rfl, fun j t ht => by
        rw [Tryz.params8] at ht
        have hm : t ∈ [9, 9, 9, 3] := by simpa using Array.mem_of_getElem? ht
        have hall : ([9, 9, 9, 3].all fun u => !Tryz.prog.wantsStandIn u) = true := by kernel_rfl
        exact (show Tryz.prog.wantsStandIn t = false by simpa using List.all_eq_true.1 hall t hm)⟩)
    (by kernel_rfl)
#print axioms unfolds_card
end Go.Proofs.YtjieelmbgfnllaaGreatDoor

/- The law ScriptPrints returns true at all inputs, and leaves its arguments as they were. Conditions: those that the row prints: the listed package-level variables read as the program's text lays them. -/
import Derived.Test.YtjieelmbgfnllaaGreatDoorScMPrintsF
import Derived.Test.YtjieelmbgfnllaaGreatDoorScMg
import Derived.Test.YtjieelmbgfnllaaGreatDoorTie
import Derived.Test.YtjieelmbgfnllaaGreatDoorCards
import Derived.SevenTiedAt
namespace Go.Proofs.YtjieelmbgfnllaaGreatDoor
open Go.ChangeShapes Go.WideShapes Go.ChangeAt Go.RowKit
open Go.ChangeMaps (open_string shut_string)

theorem str_bound {s : ByteArray} (h : s.data.toList.length ≤ reachBytes) : s.size ≤ 140737488355328 := by
  rw [Lib.size_eq]; unfold reachBytes at h; omega
def witArgs : Array Value := #[.slice none 0 0]
theorem law_laid : laidOutB Tryz.prog = true := by kernel_rfl
theorem wit_shaped (os : Os) : ((layWorld os).forCall (fun _ _ => 0) ⟨#[], witArgs, []⟩).Shaped Tryz.prog := World.shaped_of_ZipB (by kernel_rfl) (by kernel_rfl)
theorem wit_ok (os : Os) : Input.okWideB Tryz.checked.prog ((layWorld os).forCall (fun _ _ => 0) ⟨#[], witArgs, []⟩) 4 ⟨#[], witArgs, []⟩ = true := by kernel_rfl
theorem wit_pre (os : Os) {H : Type} (enc : TypeId × Value → H) : Rows.scriptPrintsSpec.preB enc Tryz.checked.prog Tryz.f4 [] false ((layWorld os).forCall (fun _ _ => 0) ⟨#[], witArgs, []⟩).memory witArgs 8 = true := by kernel_rfl
theorem wit_sized (os : Os) {H : Type} (enc : TypeId × Value → H) : Rows.scriptPrintsSpec.sizedB enc Tryz.checked.prog Tryz.f4 false ((layWorld os).forCall (fun _ _ => 0) ⟨#[], witArgs, []⟩).memory witArgs 8 = true := by kernel_rfl
theorem law_noInit : Tryz.checked.prog.inits.idxOf? 4 = none := by kernel_rfl
set_option maxRecDepth 100000 in
theorem prints_lifted (os : Os) (started : os.Started) (H : Type) (enc : TypeId × Value → H) :
    ReturnsInHanded {} Tryz.checked os 4 .any (fun w args => (Rows.scriptPrintsSpec.pre enc Tryz.prog Tryz.f4 [] false w args ∧ laidMetH Tryz.prog lay6 w) ∧ sizedMet enc Tryz.prog Tryz.f4 (OpenSpec.ofChange Rows.scriptPrintsSpec) false w args)
      (Rows.scriptPrintsSpec.post enc Tryz.prog Tryz.f4 false true false false) := by
  refine row_build (C := Tryz.checked) (X := fun w _ => laidMetH Tryz.prog lay6 w) (fun _ _ _ hh h => h.of_heap hh) row_own started law_noInit Tryz.func4
    (ChangeSpec.witness_shaped (enc := enc) (C := Tryz.checked) (os := os) (X := fun w _ => laidMetH Tryz.prog lay6 w) false (layWorld os) witArgs 8 (layWorld_os os)
      (wit_shaped os) (wit_ok os) (wit_pre os enc) (wit_sized os enc) (layWorld_met os _)) ?_
  intro W base args ds gs before hval0 hW hz hsh hL
  have hval : ∀ (j : Nat) t v, Tryz.f4.params[j]? = some t → args[j]? = some v → Value.okWide Tryz.prog W .any base t v := hval0
  have hW' := hW
  obtain ⟨p, q, hA0, hV, rfl, _, _⟩ := hW
  have hA : DataW.TrodAll enc Tryz.prog W 0 (fun _ => true) true Tryz.f4.params.toList args.toList ds p := hA0
  rw [Tryz.params4] at hA hval
  obtain ⟨v0, d0, rfl, rfl, h0⟩ := trodAll_one hA
  obtain ⟨rfl, rfl⟩ := trodVars_none hV
  obtain ⟨a0, n0, c0, rfl⟩ := okWide_slice Tryz.underlying22 (hval 0 22 v0 rfl rfl)
  obtain ⟨s0, ws0, wn0, wx0⟩ := open_steps h0 (by
    have h := hz
    rw [Tryz.params4] at h
    simp [DataW.weightsEach] at h
    exact h) ⟨_, _, _, rfl⟩
  simp only [List.append_nil] at hW'
  obtain ⟨m, hm⟩ := row_maxLen hsh
  refine (prints_law W (.slice a0 n0 c0) s0 m  ws0 wn0 (fun x hx => (wx0 x hx).2) (row_tab hL) (row_errType hL) hm).mono fun e W' ⟨he, hb⟩ => ?_
  subst he
  exact ⟨_, rfl, _, _, _, [], _, [], hW', trodAll_mk1 (shut_bool Tryz.underlying4 _), trodAll_mk1 (Below.trod law_laid (by kernel_rfl) (of_decide_eq_true (by kernel_rfl)) h0 hb.below (fun x hx => by have h := hW'.lt x (by simp [hx]); simpa using h)), rfl, hb.below.frame _, fun h => by cases h⟩

theorem prints_holds : Rows.ScriptPrintsSaid :=
  OpenClaim.holds_of_wide 4 Tryz.f4 rfl rfl rfl rfl rfl rfl rfl ⟨rfl, rfl, rfl, rfl, rfl⟩ rfl rfl rfl rfl rfl law_fn law_func law_facts
    law_inst law_wrap
    (fun os started H enc _ => prints_lifted os started H enc)

end Go.Proofs.YtjieelmbgfnllaaGreatDoor

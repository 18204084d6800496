/- The law ScriptBehind returns true at all inputs, and leaves its arguments as they were. Conditions: those that the row prints: the listed package-level variables read as the program's text lays them. -/
import Derived.Test.YtjieelmbgfnllaaGreatDoorScRow
import Derived.Test.YtjieelmbgfnllaaGreatDoorScBehind
import Derived.Test.YtjieelmbgfnllaaGreatDoorTie
import Derived.Test.YtjieelmbgfnllaaGreatDoorCards
import Derived.SevenTiedAt
namespace Go.Proofs.YtjieelmbgfnllaaGreatDoor
open Go.ChangeShapes Go.WideShapes Go.ChangeAt Go.RowKit
open Go.ChangeMaps (open_string shut_string)

theorem str_bound {s : ByteArray} (h : s.data.toList.length ≤ reachBytes) : s.size ≤ 140737488355328 := by
  rw [Lib.size_eq]; unfold reachBytes at h; omega

theorem bh_shaped (os : Os) : ((layWorld os).forCall (fun _ _ => 0) ⟨#[], #[.string ⟨#[]⟩, .string ⟨#[]⟩], []⟩).Shaped Tryz.prog := World.shaped_of_ZipB (by kernel_rfl) (by kernel_rfl)
theorem bh_ok (os : Os) : Input.okWideB Tryz.checked.prog ((layWorld os).forCall (fun _ _ => 0) ⟨#[], #[.string ⟨#[]⟩, .string ⟨#[]⟩], []⟩) 9 ⟨#[], #[.string ⟨#[]⟩, .string ⟨#[]⟩], []⟩ = true := by kernel_rfl
theorem bh_pre (os : Os) {H : Type} (enc : TypeId × Value → H) : Rows.scriptBehindSpec.preB enc Tryz.checked.prog Tryz.f9 [] false ((layWorld os).forCall (fun _ _ => 0) ⟨#[], #[.string ⟨#[]⟩, .string ⟨#[]⟩], []⟩).memory #[.string ⟨#[]⟩, .string ⟨#[]⟩] 8 = true := by kernel_rfl
theorem bh_sized (os : Os) {H : Type} (enc : TypeId × Value → H) : Rows.scriptBehindSpec.sizedB enc Tryz.checked.prog Tryz.f9 false ((layWorld os).forCall (fun _ _ => 0) ⟨#[], #[.string ⟨#[]⟩, .string ⟨#[]⟩], []⟩).memory #[.string ⟨#[]⟩, .string ⟨#[]⟩] 8 = true := by kernel_rfl
theorem bh_noInit : Tryz.checked.prog.inits.idxOf? 9 = none := by kernel_rfl
set_option maxRecDepth 100000 in
theorem behind_lifted (os : Os) (started : os.Started) (H : Type) (enc : TypeId × Value → H) :
    ReturnsInHanded {} Tryz.checked os 9 .any (fun w args => (Rows.scriptBehindSpec.pre enc Tryz.prog Tryz.f9 [] false w args ∧ laidMetH Tryz.prog lay6 w) ∧ sizedMet enc Tryz.prog Tryz.f9 (OpenSpec.ofChange Rows.scriptBehindSpec) false w args)
      (Rows.scriptBehindSpec.post enc Tryz.prog Tryz.f9 false true false false) := by
  refine row_build (C := Tryz.checked) (X := fun w _ => laidMetH Tryz.prog lay6 w) (fun _ _ _ hh h => h.of_heap hh) row_own started bh_noInit Tryz.func9
    (ChangeSpec.witness_shaped (enc := enc) (C := Tryz.checked) (os := os) (X := fun w _ => laidMetH Tryz.prog lay6 w) false (layWorld os) #[.string ⟨#[]⟩, .string ⟨#[]⟩] 8 (layWorld_os os)
      (bh_shaped os) (bh_ok os) (bh_pre os enc) (bh_sized os enc) (layWorld_met os _)) ?_
  intro W base args ds gs before hval0 hW hz hsh hL
  have hval : ∀ (j : Nat) t v, Tryz.f9.params[j]? = some t → args[j]? = some v → Value.okWide Tryz.prog W .any base t v := hval0
  have hW' := hW
  obtain ⟨p, q, hA0, hV, rfl, _, _⟩ := hW
  have hA : DataW.TrodAll enc Tryz.prog W 0 (fun _ => true) true Tryz.f9.params.toList args.toList ds p := hA0
  rw [Tryz.params9] at hA hval
  obtain ⟨v0, v1, d0, d1, p0, p1, rfl, rfl, rfl, h0, h1⟩ := trodAll_two hA
  obtain ⟨rfl, rfl⟩ := trodVars_none hV
  obtain ⟨s0, rfl, rfl, rfl, ws0⟩ := open_string Tryz.underlying9 (hval 0 9 v0 rfl rfl) h0
  obtain ⟨s1, rfl, rfl, rfl, ws1⟩ := open_string Tryz.underlying9 (hval 1 9 v1 rfl rfl) h1
  simp only [List.append_nil] at hW'
  have hz2 : s0.data.toList.length ≤ reachBytes ∧ s1.data.toList.length ≤ reachBytes := by
    have h := hz
    rw [Tryz.params9] at h
    simpa [DataW.weightsEach, DataW.weights] using h
  obtain ⟨m, hm⟩ := row_maxLen hsh
  refine (behind_walk W s0 s1 m (str_bound hz2.1) (str_bound hz2.2) (row_tab hL) (row_errType hL) hm).mono fun e W' ⟨he, hb⟩ => ?_
  subst he
  exact ⟨_, rfl, _, _, _, [], [], [], hW', trodAll_mk1 (shut_bool Tryz.underlying4 _), trodAll_mk2 (shut_string Tryz.underlying9 ws0) (shut_string Tryz.underlying9 ws1), rfl, hb.below.frame _, fun h => by cases h⟩

theorem bh_fn : Tryz.pinned.checked.prog.funcNamed Rows.scriptBehindRow.func = some 9 := by kernel_rfl
theorem bh_inst : Tryz.f9.isInstance Tryz.pinned.checked.prog Rows.scriptBehindRow.origin Rows.scriptBehindRow.targs := of_decide_eq_true (by kernel_rfl)
theorem bh_wrap : Tryz.f9.isWrapper Tryz.pinned.checked.prog Rows.scriptBehindRow.wrapper Rows.scriptBehindRow.mainSum := by unfold Func.isWrapper; first | (rw [if_pos (by decide +kernel)]; kernel_rfl) | (rw [if_neg (by decide +kernel)]; exact ⟨rfl, rfl⟩)
theorem bh_facts : joinedFacts Tryz.pinned.checked.prog 9 Tryz.f9 Rows.scriptBehindSpec Rows.scriptBehindRow = true := by kernel_rfl
theorem bh_func : Tryz.pinned.checked.prog.funcs[9]? = some Tryz.f9 := Tryz.func9
theorem behind_holds : Rows.ScriptBehindSaid :=
  OpenClaim.holds_of_wide 9 Tryz.f9 rfl rfl rfl rfl rfl rfl rfl ⟨rfl, rfl, rfl, rfl, rfl⟩ rfl rfl rfl rfl rfl bh_fn bh_func bh_facts
    bh_inst bh_wrap
    (fun os started H enc _ => behind_lifted os started H enc)

theorem behind_card : Rows.ScriptBehindCardSaid :=
  Claim7.holds_tied_plain_at .later [] [.data, .data, .data, .data, .handle, .pinned] true (true, "a9966e7656cff759dfac7da7c1bf5e102bccdc1b157d8210733290071455c32e") true
    behind_holds (fun _ h => by cases h) (by kernel_rfl) (fun _ h => by cases h) scriptBehind_row_tie rfl ⟨rfl, rfl⟩ (by kernel_rfl) rfl
    (fun f fn hf hfn => by
      obtain rfl : f = 9 := Option.some.inj ((show Tryz.prog.funcNamed "scree/screelaw20.ScriptBehind" = some 9 by kernel_rfl).symm.trans hf) |>.symm
      obtain rfl : fn = Tryz.f9 := (Option.some.inj (Tryz.func9.symm.trans hfn)).symm
      exact ⟨by kernel_rfl, fun j t ht => by
        rw [Tryz.params9] at ht
        have hm : t ∈ [9, 9] := by simpa using Array.mem_of_getElem? ht
        have hall : ([9, 9].all fun u => !Tryz.prog.wantsStandIn u) = true := by kernel_rfl
        exact (show Tryz.prog.wantsStandIn t = false by simpa using List.all_eq_true.1 hall t hm)⟩)
    (by kernel_rfl)
#print axioms behind_card
end Go.Proofs.YtjieelmbgfnllaaGreatDoor

/- The law ScriptSpaces returns true at all inputs, and leaves its arguments as they were. Conditions: those that the row prints: the listed package-level variables read as the program's text lays them. -/
import Derived.Test.YtjieelmbgfnllaaGreatDoorScSpacesF
import Derived.Test.YtjieelmbgfnllaaGreatDoorScSpaces
import Derived.Test.YtjieelmbgfnllaaGreatDoorTie
import Derived.Test.YtjieelmbgfnllaaGreatDoorCards
import Derived.SevenTiedAt
namespace Go.Proofs.YtjieelmbgfnllaaGreatDoor
open Go.ChangeShapes Go.WideShapes Go.ChangeAt Go.RowKit
open Go.ChangeMaps (open_string shut_string)

theorem str_bound {s : ByteArray} (h : s.data.toList.length ≤ reachBytes) : s.size ≤ 140737488355328 := by
  rw [Lib.size_eq]; unfold reachBytes at h; omega
def witArgs : Array Value := #[.string ⟨#[]⟩, .slice none 0 0]
theorem law_laid : laidOutB Tryz.prog = true := by kernel_rfl
theorem open_nums {H : Type} {enc : TypeId × Value → H} {W : World} {a0 : Option Addr} {len cap : Nat} {d : DataW H} {ps : List MemPlace} (h : DataW.Trod enc Tryz.prog W 0 (fun _ => true) true 36 (.slice a0 len cap) d ps) : ∃ bs, SeenInts W (.slice a0 len cap) bs := by
  obtain ⟨fuel, hf⟩ := h
  rcases open_ints Tryz.underlying36 Tryz.underlying3 (by kernel_rfl) hf with ⟨hcs, hx⟩ | ⟨a, len', cap', zs, hcs, _, hl, hm, hz, hx, hcell, hwz⟩
  · simp [Value.cells] at hcs
    obtain ⟨rfl, rfl, rfl⟩ := hcs
    exact ⟨[], none, 0, rfl, fun j u hu => by simp at hu⟩
  · simp [Value.cells] at hcs
    obtain ⟨rfl, rfl, rfl⟩ := hcs
    have hz2 : zs.length = cap := by simpa using hz
    refine ⟨zs.take len, some a, cap, by rw [List.length_take, hz2, Nat.min_eq_left hl], fun j u hu => ?_⟩
    rw [List.getElem?_map, Option.map_eq_some_iff] at hu
    obtain ⟨x, hxj, rfl⟩ := hu
    rw [List.getElem?_take] at hxj
    split at hxj
    · rename_i hj
      have hlt : j < zs.length := by omega
      have h0 := hcell 0 (by omega)
      have hsp : a.spot = none := by
        rw [show a.add 0 = a from rfl] at h0
        unfold World.cell? at h0
        rcases hs : a.spot with _ | y
        · rfl
        · rw [hs] at h0; split at h0 <;> simp at h0
      obtain ⟨b, o, sp⟩ := a
      simp only at hsp
      subst hsp
      refine ⟨b, o, rfl, ?_⟩
      have hj2 := hcell j hlt
      rw [add_plain] at hj2
      rw [hj2, List.getD_eq_getElem?_getD, hxj]; rfl
    · cases hxj
theorem wit_shaped (os : Os) : ((layWorld os).forCall (fun _ _ => 0) ⟨#[], witArgs, []⟩).Shaped Tryz.prog := World.shaped_of_ZipB (by kernel_rfl) (by kernel_rfl)
theorem wit_ok (os : Os) : Input.okWideB Tryz.checked.prog ((layWorld os).forCall (fun _ _ => 0) ⟨#[], witArgs, []⟩) 7 ⟨#[], witArgs, []⟩ = true := by kernel_rfl
theorem wit_pre (os : Os) {H : Type} (enc : TypeId × Value → H) : Rows.scriptSpacesSpec.preB enc Tryz.checked.prog Tryz.f7 [] false ((layWorld os).forCall (fun _ _ => 0) ⟨#[], witArgs, []⟩).memory witArgs 8 = true := by kernel_rfl
theorem wit_sized (os : Os) {H : Type} (enc : TypeId × Value → H) : Rows.scriptSpacesSpec.sizedB enc Tryz.checked.prog Tryz.f7 false ((layWorld os).forCall (fun _ _ => 0) ⟨#[], witArgs, []⟩).memory witArgs 8 = true := by kernel_rfl
theorem law_noInit : Tryz.checked.prog.inits.idxOf? 7 = none := by kernel_rfl
set_option maxRecDepth 100000 in
theorem spaces_lifted (os : Os) (started : os.Started) (H : Type) (enc : TypeId × Value → H) :
    ReturnsInHanded {} Tryz.checked os 7 .any (fun w args => (Rows.scriptSpacesSpec.pre enc Tryz.prog Tryz.f7 [] false w args ∧ laidMetH Tryz.prog lay6 w) ∧ sizedMet enc Tryz.prog Tryz.f7 (OpenSpec.ofChange Rows.scriptSpacesSpec) false w args)
      (Rows.scriptSpacesSpec.post enc Tryz.prog Tryz.f7 false true false false) := by
  refine row_build (C := Tryz.checked) (X := fun w _ => laidMetH Tryz.prog lay6 w) (fun _ _ _ hh h => h.of_heap hh) row_own started law_noInit Tryz.func7
    (ChangeSpec.witness_shaped (enc := enc) (C := Tryz.checked) (os := os) (X := fun w _ => laidMetH Tryz.prog lay6 w) false (layWorld os) witArgs 8 (layWorld_os os)
      (wit_shaped os) (wit_ok os) (wit_pre os enc) (wit_sized os enc) (layWorld_met os _)) ?_
  intro W base args ds gs before hval0 hW hz hsh hL
  have hval : ∀ (j : Nat) t v, Tryz.f7.params[j]? = some t → args[j]? = some v → Value.okWide Tryz.prog W .any base t v := hval0
  have hW' := hW
  obtain ⟨p, q, hA0, hV, rfl, _, _⟩ := hW
  have hA : DataW.TrodAll enc Tryz.prog W 0 (fun _ => true) true Tryz.f7.params.toList args.toList ds p := hA0
  rw [Tryz.params7] at hA hval
  obtain ⟨v0, v1, d0, d1, p0, p1, rfl, rfl, rfl, h0, h1⟩ := trodAll_two hA
  obtain ⟨rfl, rfl⟩ := trodVars_none hV
  obtain ⟨s0, rfl, rfl, rfl, ws0⟩ := open_string Tryz.underlying9 (hval 0 9 v0 rfl rfl) h0
  obtain ⟨a1, n1, c1, rfl⟩ := okWide_slice Tryz.underlying36 (hval 1 36 v1 rfl rfl)
  obtain ⟨s1, ws1⟩ := open_nums h1
  simp only [List.append_nil] at hW'
  have hz2 : s0.data.toList.length ≤ reachBytes := by
    have h := hz
    rw [Tryz.params7] at h
    simp [DataW.weightsEach, DataW.weights] at h; exact h.1
  obtain ⟨m, hm⟩ := row_maxLen hsh
  refine (spaces_walk W s0 (.slice a1 n1 c1) s1 m (str_bound hz2) ws1 (row_tab hL) (row_errType hL) hm).mono fun e W' ⟨he, hb⟩ => ?_
  subst he
  exact ⟨_, rfl, _, _, _, [], _, [], hW', trodAll_mk1 (shut_bool Tryz.underlying4 _), trodAll_mk2 (shut_string Tryz.underlying9 ws0) (Below.trod law_laid (by kernel_rfl) (of_decide_eq_true (by kernel_rfl)) h1 hb.below (fun x hx => by have h := hW'.lt x (by simp [hx]); simpa using h)), rfl, hb.below.frame _, fun h => by cases h⟩

theorem spaces_holds : Rows.ScriptSpacesSaid :=
  OpenClaim.holds_of_wide 7 Tryz.f7 rfl rfl rfl rfl rfl rfl rfl ⟨rfl, rfl, rfl, rfl, rfl⟩ rfl rfl rfl rfl rfl law_fn law_func law_facts
    law_inst law_wrap
    (fun os started H enc _ => spaces_lifted os started H enc)

end Go.Proofs.YtjieelmbgfnllaaGreatDoor

/- The card of ScriptPrints: its row with the ties. Conditions: those that the row prints. -/
import Derived.Test.YtjieelmbgfnllaaGreatDoorScMPrintsR
namespace Go.Proofs.YtjieelmbgfnllaaGreatDoor
open Go.ChangeShapes Go.WideShapes Go.ChangeAt Go.RowKit

theorem card_wf : Rows.scriptPrintsRow.wfByText (OpenSpec.ofChange Rows.scriptPrintsSpec) = true := by kernel_rfl
theorem card_main : Tryz.pinned.checked.prog.mainIs = some (true, "a9966e7656cff759dfac7da7c1bf5e102bccdc1b157d8210733290071455c32e".toList) := by kernel_rfl
theorem card_named : Tryz.prog.funcNamed "scree/screelaw20.ScriptPrints" = some 4 := by kernel_rfl
theorem card_looks : true = Tryz.pinned.checked.prog.looks [] := by kernel_rfl
theorem card_stand : ([22].all fun u => !Tryz.prog.wantsStandIn u) = true := by kernel_rfl
theorem card_goes : false = Rows.scriptPrintsRow.goesBy Tryz.pinned.checked.prog := by kernel_rfl
theorem prints_card : Rows.ScriptPrintsCardSaid :=
  Claim7.holds_tied_plain_at .later [] [.data, .data, .data, .data, .handle, .pinned] true (true, "a9966e7656cff759dfac7da7c1bf5e102bccdc1b157d8210733290071455c32e") true
    prints_holds (fun _ h => by cases h) card_wf (fun _ h => by cases h) scriptPrints_row_tie rfl ⟨rfl, rfl⟩ card_main rfl
    (fun f fn hf hfn => by
      obtain rfl : f = 4 := Option.some.inj (card_named.symm.trans hf) |>.symm
      obtain rfl : fn = Tryz.f4 := (Option.some.inj (Tryz.func4.symm.trans hfn)).symm
      exact ⟨card_looks, fun j t ht => by
        rw [Tryz.params4] at ht
        have hm : t ∈ [22] := by simpa using Array.mem_of_getElem? ht
        exact (show Tryz.prog.wantsStandIn t = false by simpa using List.all_eq_true.1 card_stand t hm)⟩)
    card_goes
#print axioms prints_card
end Go.Proofs.YtjieelmbgfnllaaGreatDoor

/- The card of ScriptBack: its row with the ties. Conditions: those that the row prints. -/
import Derived.Test.YtjieelmbgfnllaaGreatDoorScBackR
namespace Go.Proofs.YtjieelmbgfnllaaGreatDoor
open Go.ChangeShapes Go.WideShapes Go.ChangeAt Go.RowKit

theorem card_wf : Rows.scriptBackRow.wfByText (OpenSpec.ofChange Rows.scriptBackSpec) = true := by kernel_rfl
theorem card_main : Tryz.pinned.checked.prog.mainIs = some (true, "a9966e7656cff759dfac7da7c1bf5e102bccdc1b157d8210733290071455c32e".toList) := by kernel_rfl
theorem card_named : Tryz.prog.funcNamed "scree/screelaw20.ScriptBack" = some 5 := by kernel_rfl
theorem card_looks : true = Tryz.pinned.checked.prog.looks [] := by kernel_rfl
theorem card_stand : ([22].all fun u => !Tryz.prog.wantsStandIn u) = true := by kernel_rfl
theorem card_goes : false = Rows.scriptBackRow.goesBy Tryz.pinned.checked.prog := by kernel_rfl
theorem back_card : Rows.ScriptBackCardSaid :=
  Claim7.holds_tied_plain_at .later [] [.data, .data, .data, .data, .handle, .pinned] true (true, "a9966e7656cff759dfac7da7c1bf5e102bccdc1b157d8210733290071455c32e") true
    back_holds (fun _ h => by cases h) card_wf (fun _ h => by cases h) scriptBack_row_tie rfl ⟨rfl, rfl⟩ card_main rfl
    (fun f fn hf hfn => by
      obtain rfl : f = 5 := Option.some.inj (card_named.symm.trans hf) |>.symm
      obtain rfl : fn = Tryz.f5 := (Option.some.inj (Tryz.func5.symm.trans hfn)).symm
      exact ⟨card_looks, fun j t ht => by
        rw [Tryz.params5] at ht
        have hm : t ∈ [22] := by simpa using Array.mem_of_getElem? ht
        exact (show Tryz.prog.wantsStandIn t = false by simpa using List.all_eq_true.1 card_stand t hm)⟩)
    card_goes
#print axioms back_card
end Go.Proofs.YtjieelmbgfnllaaGreatDoor

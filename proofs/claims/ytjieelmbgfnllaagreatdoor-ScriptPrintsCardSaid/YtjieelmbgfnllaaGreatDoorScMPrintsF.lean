/- The facts on the program's form that the row of ScriptPrints asks. Conditions: none. -/
import Derived.Test.YtjieelmbgfnllaaGreatDoorScMRow
import Derived.SevenTiedAt
namespace Go.Proofs.YtjieelmbgfnllaaGreatDoor
open Go.ChangeShapes Go.WideShapes Go.ChangeAt Go.RowKit

theorem law_fn : Tryz.pinned.checked.prog.funcNamed Rows.scriptPrintsRow.func = some 4 := by kernel_rfl
theorem law_inst : Tryz.f4.isInstance Tryz.pinned.checked.prog Rows.scriptPrintsRow.origin Rows.scriptPrintsRow.targs := of_decide_eq_true (by kernel_rfl)
theorem law_wrap : Tryz.f4.isWrapper Tryz.pinned.checked.prog Rows.scriptPrintsRow.wrapper Rows.scriptPrintsRow.mainSum := by unfold Func.isWrapper; first | (rw [if_pos (by decide +kernel)]; kernel_rfl) | (rw [if_neg (by decide +kernel)]; exact ⟨rfl, rfl⟩)
theorem and_tt {a b : Bool} (ha : a = true) (hb : b = true) : (a && b) = true := by rw [ha, hb]; rfl
theorem law_k_wf : (Rows.scriptPrintsRow.wf (OpenSpec.ofChange Rows.scriptPrintsSpec)) = true := by kernel_rfl
theorem law_k_laidOut : (laidOutB Tryz.pinned.checked.prog) = true := by kernel_rfl
theorem law_k_mapsRowed : (mapsRowed Tryz.pinned.checked.prog) = true := by kernel_rfl
theorem law_k_params : (Tryz.f4.params.all (Tryz.pinned.checked.prog.readableRec ·)) = true := by kernel_rfl
theorem law_k_tie : (namedTie Tryz.pinned.checked.prog Rows.scriptPrintsRow.named Rows.scriptPrintsSpec.vars) = true := by kernel_rfl
theorem law_k_stops1 : ((Rows.scriptPrintsRow.stops == [])) = true := by kernel_rfl
theorem law_k_stops2 : ((Tryz.pinned.checked.prog.stops == [])) = true := by kernel_rfl
theorem law_k_knobs1 : ((Rows.scriptPrintsRow.knobs == [])) = true := by kernel_rfl
theorem law_k_knobs2 : ((Tryz.pinned.checked.prog.stopKnobs == [])) = true := by kernel_rfl
theorem law_k_inPlace : ((Rows.scriptPrintsRow.inPlace == Tryz.pinned.checked.prog.inPlace 4)) = true := by kernel_rfl
theorem law_k_unfollowed : ((Rows.scriptPrintsRow.unfollowed == Tryz.pinned.checked.prog.unfollowed 4)) = true := by kernel_rfl
theorem law_k_recurses : ((Rows.scriptPrintsRow.recurses == Tryz.pinned.checked.prog.recurses 4)) = true := by kernel_rfl
theorem law_k_named : ((Rows.scriptPrintsRow.named == Tryz.pinned.checked.prog.varsNamed 4)) = true := by kernel_rfl
theorem law_k_maps : ((Rows.scriptPrintsRow.maps == (Tryz.f4.params.toList ++ Rows.scriptPrintsSpec.plain.varTypes Tryz.pinned.checked.prog).any (Tryz.pinned.checked.prog.mapsRec ·))) = true := by kernel_rfl
theorem law_k_ifaces : ((Rows.scriptPrintsRow.ifaces == (Tryz.f4.params.toList ++ Rows.scriptPrintsSpec.plain.varTypes Tryz.pinned.checked.prog).any (Tryz.pinned.checked.prog.ifacesRec ·))) = true := by kernel_rfl
theorem law_k_mapsOut : ((Rows.scriptPrintsRow.mapsOut == Tryz.pinned.checked.prog.mapsAmong Tryz.f4.resultTypes.toList)) = true := by kernel_rfl
theorem law_k_loops : ((Rows.scriptPrintsRow.loops == (Tryz.f4.params.toList ++ Rows.scriptPrintsSpec.plain.varTypes Tryz.pinned.checked.prog).any (Tryz.pinned.checked.prog.loopsFrom ·))) = true := by kernel_rfl
theorem law_k_wideKeys : ((Rows.scriptPrintsRow.wideKeys == (Tryz.f4.params.toList ++ Rows.scriptPrintsSpec.plain.varTypes Tryz.pinned.checked.prog ++ Tryz.f4.resultTypes.toList).any (Tryz.pinned.checked.prog.wideKeysFrom ·))) = true := by kernel_rfl
theorem law_k_vars : (Rows.scriptPrintsSpec.vars.all (Tryz.pinned.checked.prog.varReadable ·)) = true := by kernel_rfl
theorem law_k_results : (Tryz.f4.resultTypes.all (fun t => Tryz.pinned.checked.prog.readableRec t && decide (t < Tryz.pinned.checked.prog.types.size))) = true := by kernel_rfl
theorem law_k_ifacesOut : ((Rows.scriptPrintsRow.ifacesOut == Tryz.f4.resultTypes.toList.any (Tryz.pinned.checked.prog.ifacesRec ·))) = true := by kernel_rfl
theorem law_k_loopsOut : ((Rows.scriptPrintsRow.loopsOut == Tryz.f4.resultTypes.toList.any (Tryz.pinned.checked.prog.loopsFrom ·))) = true := by kernel_rfl
theorem law_k_plainKeys : ((Rows.scriptPrintsRow.plainKeys == Tryz.pinned.checked.prog.plainKeys)) = true := by kernel_rfl
theorem law_k_short : (Rows.scriptPrintsRow.shortTexts.isNone) = true := by kernel_rfl
theorem law_k_heard : (Tryz.pinned.checked.prog.stopsHeard) = true := by kernel_rfl
theorem law_k_mayEnter : (Tryz.pinned.checked.prog.mayEnter) = true := by kernel_rfl
theorem law_k_lifted : ((Rows.scriptPrintsRow.lifted == Tryz.pinned.checked.prog.liftsFinal)) = true := by kernel_rfl
theorem law_k_make : ((Tryz.pinned.checked.prog.make == some Rows.scriptPrintsRow.make)) = true := by kernel_rfl
theorem law_k_kinds : ((Rows.scriptPrintsRow.kinds == (if Rows.scriptPrintsRow.domain.isEmpty then [] else Tryz.f4.params.toList.map fun t => match Tryz.pinned.checked.prog.underlying t with | some (.int k) => some k | _ => none))) = true := by kernel_rfl
theorem law_k_pinned : ((Rows.scriptPrintsRow.pinned == Rows.scriptPrintsRow.pinnedBy)) = true := by kernel_rfl
theorem law_k_veiled : ((Rows.scriptPrintsRow.veiled == (Tryz.f4.params.toList ++ Rows.scriptPrintsSpec.plain.varTypes Tryz.pinned.checked.prog ++ Tryz.f4.resultTypes.toList).any (Tryz.pinned.checked.prog.veiledRec ·))) = true := by kernel_rfl
theorem law_k_veiledFits : (Rows.scriptPrintsRow.veiledFits Tryz.pinned.checked.prog Tryz.f4.params.toList (Tryz.f4.params.toList ++ Rows.scriptPrintsSpec.plain.varTypes Tryz.pinned.checked.prog ++ Tryz.f4.resultTypes.toList)) = true := by kernel_rfl
set_option maxRecDepth 100000 in
theorem law_facts : joinedFacts Tryz.pinned.checked.prog 4 Tryz.f4 Rows.scriptPrintsSpec Rows.scriptPrintsRow = true := by
  unfold joinedFacts
  exact (and_tt (and_tt (and_tt (and_tt (and_tt (and_tt (and_tt (and_tt (and_tt (and_tt (and_tt (and_tt (and_tt (and_tt (and_tt (and_tt (and_tt (and_tt (and_tt (and_tt (and_tt (and_tt (and_tt (and_tt (and_tt (and_tt (and_tt (and_tt (and_tt (and_tt (and_tt law_k_wf law_k_laidOut) law_k_mapsRowed) law_k_params) law_k_tie) law_k_stops1) law_k_stops2) law_k_knobs1) law_k_knobs2) law_k_inPlace) law_k_unfollowed) law_k_recurses) law_k_named) law_k_maps) law_k_ifaces) law_k_mapsOut) law_k_loops) law_k_wideKeys) law_k_vars) law_k_results) law_k_ifacesOut) law_k_loopsOut) law_k_plainKeys) law_k_short) law_k_heard) law_k_mayEnter) law_k_lifted) law_k_make) law_k_kinds) law_k_pinned) law_k_veiled) law_k_veiledFits)
theorem law_func : Tryz.pinned.checked.prog.funcs[4]? = some Tryz.f4 := Tryz.func4
end Go.Proofs.YtjieelmbgfnllaaGreatDoor

/- The facts on the program's form that the row of ScriptUnfolds asks. Conditions: none. -/
import Derived.Test.YtjieelmbgfnllaaGreatDoorScRow
import Derived.SevenTiedAt
namespace Go.Proofs.YtjieelmbgfnllaaGreatDoor
open Go.ChangeShapes Go.WideShapes Go.ChangeAt Go.RowKit

theorem law_fn : Tryz.pinned.checked.prog.funcNamed Rows.scriptUnfoldsRow.func = some 8 := by kernel_rfl
theorem law_inst : Tryz.f8.isInstance Tryz.pinned.checked.prog Rows.scriptUnfoldsRow.origin Rows.scriptUnfoldsRow.targs := of_decide_eq_true (by kernel_rfl)
theorem law_wrap : Tryz.f8.isWrapper Tryz.pinned.checked.prog Rows.scriptUnfoldsRow.wrapper Rows.scriptUnfoldsRow.mainSum := by unfold Func.isWrapper; first | (rw [if_pos (by decide +kernel)]; kernel_rfl) | (rw [if_neg (by decide +kernel)]; exact ⟨rfl, rfl⟩)
theorem and_tt {a b : Bool} (ha : a = true) (hb : b = true) : (a && b) = true := by rw [ha, hb]; rfl
theorem law_k_wf : (Rows.scriptUnfoldsRow.wf (OpenSpec.ofChange Rows.scriptUnfoldsSpec)) = true := by kernel_rfl
theorem law_k_laidOut : (laidOutB Tryz.pinned.checked.prog) = true := by kernel_rfl
theorem law_k_mapsRowed : (mapsRowed Tryz.pinned.checked.prog) = true := by kernel_rfl
theorem law_k_params : (Tryz.f8.params.all (Tryz.pinned.checked.prog.readableRec ·)) = true := by kernel_rfl
theorem law_k_tie : (namedTie Tryz.pinned.checked.prog Rows.scriptUnfoldsRow.named Rows.scriptUnfoldsSpec.vars) = true := by kernel_rfl
theorem law_k_stops1 : ((Rows.scriptUnfoldsRow.stops == [])) = true := by kernel_rfl
theorem law_k_stops2 : ((Tryz.pinned.checked.prog.stops == [])) = true := by kernel_rfl
theorem law_k_knobs1 : ((Rows.scriptUnfoldsRow.knobs == [])) = true := by kernel_rfl
theorem law_k_knobs2 : ((Tryz.pinned.checked.prog.stopKnobs == [])) = true := by kernel_rfl
theorem law_k_inPlace : ((Rows.scriptUnfoldsRow.inPlace == Tryz.pinned.checked.prog.inPlace 8)) = true := by kernel_rfl
theorem law_k_unfollowed : ((Rows.scriptUnfoldsRow.unfollowed == Tryz.pinned.checked.prog.unfollowed 8)) = true := by kernel_rfl
theorem law_k_recurses : ((Rows.scriptUnfoldsRow.recurses == Tryz.pinned.checked.prog.recurses 8)) = true := by kernel_rfl
theorem law_k_named : ((Rows.scriptUnfoldsRow.named == Tryz.pinned.checked.prog.varsNamed 8)) = true := by kernel_rfl
theorem law_k_maps : ((Rows.scriptUnfoldsRow.maps == (Tryz.f8.params.toList ++ Rows.scriptUnfoldsSpec.plain.varTypes Tryz.pinned.checked.prog).any (Tryz.pinned.checked.prog.mapsRec ·))) = true := by kernel_rfl
theorem law_k_ifaces : ((Rows.scriptUnfoldsRow.ifaces == (Tryz.f8.params.toList ++ Rows.scriptUnfoldsSpec.plain.varTypes Tryz.pinned.checked.prog).any (Tryz.pinned.checked.prog.ifacesRec ·))) = true := by kernel_rfl
theorem law_k_mapsOut : ((Rows.scriptUnfoldsRow.mapsOut == Tryz.pinned.checked.prog.mapsAmong Tryz.f8.resultTypes.toList)) = true := by kernel_rfl
theorem law_k_loops : ((Rows.scriptUnfoldsRow.loops == (Tryz.f8.params.toList ++ Rows.scriptUnfoldsSpec.plain.varTypes Tryz.pinned.checked.prog).any (Tryz.pinned.checked.prog.loopsFrom ·))) = true := by kernel_rfl
theorem law_k_wideKeys : ((Rows.scriptUnfoldsRow.wideKeys == (Tryz.f8.params.toList ++ Rows.scriptUnfoldsSpec.plain.varTypes Tryz.pinned.checked.prog ++ Tryz.f8.resultTypes.toList).any (Tryz.pinned.checked.prog.wideKeysFrom ·))) = true := by kernel_rfl
theorem law_k_vars : (Rows.scriptUnfoldsSpec.vars.all (Tryz.pinned.checked.prog.varReadable ·)) = true := by kernel_rfl
theorem law_k_results : (Tryz.f8.resultTypes.all (fun t => Tryz.pinned.checked.prog.readableRec t && decide (t < Tryz.pinned.checked.prog.types.size))) = true := by kernel_rfl
theorem law_k_ifacesOut : ((Rows.scriptUnfoldsRow.ifacesOut == Tryz.f8.resultTypes.toList.any (Tryz.pinned.checked.prog.ifacesRec ·))) = true := by kernel_rfl
theorem law_k_loopsOut : ((Rows.scriptUnfoldsRow.loopsOut == Tryz.f8.resultTypes.toList.any (Tryz.pinned.checked.prog.loopsFrom ·))) = true := by kernel_rfl
theorem law_k_plainKeys : ((Rows.scriptUnfoldsRow.plainKeys == Tryz.pinned.checked.prog.plainKeys)) = true := by kernel_rfl
theorem law_k_short : (Rows.scriptUnfoldsRow.shortTexts.isNone) = true := by kernel_rfl
theorem law_k_heard : (Tryz.pinned.checked.prog.stopsHeard) = true := by kernel_rfl
theorem law_k_mayEnter : (Tryz.pinned.checked.prog.mayEnter) = true := by kernel_rfl
theorem law_k_lifted : ((Rows.scriptUnfoldsRow.lifted == Tryz.pinned.checked.prog.liftsFinal)) = true := by kernel_rfl
theorem law_k_make : ((Tryz.pinned.checked.prog.make == some Rows.scriptUnfoldsRow.make)) = true := by kernel_rfl
theorem law_k_kinds : ((Rows.scriptUnfoldsRow.kinds == (if Rows.scriptUnfoldsRow.domain.isEmpty then [] else Tryz.f8.params.toList.map fun t => match Tryz.pinned.checked.prog.underlying t with | some (.int k) => some k | _ => none))) = true := by kernel_rfl
theorem law_k_pinned : ((Rows.scriptUnfoldsRow.pinned == Rows.scriptUnfoldsRow.pinnedBy)) = true := by kernel_rfl
theorem law_k_veiled : ((Rows.scriptUnfoldsRow.veiled == (Tryz.f8.params.toList ++ Rows.scriptUnfoldsSpec.plain.varTypes Tryz.pinned.checked.prog ++ Tryz.f8.resultTypes.toList).any (Tryz.pinned.checked.prog.veiledRec ·))) = true := by kernel_rfl
theorem law_k_veiledFits : (Rows.scriptUnfoldsRow.veiledFits Tryz.pinned.checked.prog Tryz.f8.params.toList (Tryz.f8.params.toList ++ Rows.scriptUnfoldsSpec.plain.varTypes Tryz.pinned.checked.prog ++ Tryz.f8.resultTypes.toList)) = true := by kernel_rfl
set_option maxRecDepth 100000 in
theorem law_facts : joinedFacts Tryz.pinned.checked.prog 8 Tryz.f8 Rows.scriptUnfoldsSpec Rows.scriptUnfoldsRow = true := by
  unfold joinedFacts
  exact (and_tt (and_tt (and_tt (and_tt (and_tt (and_tt (and_tt (and_tt (and_tt (and_tt (and_tt (and_tt (and_tt (and_tt (and_tt (and_tt (and_tt (and_tt (and_tt (and_tt (and_tt (and_tt (and_tt (and_tt (and_tt (and_tt (and_tt (and_tt (and_tt (and_tt (and_tt law_k_wf law_k_laidOut) law_k_mapsRowed) law_k_params) law_k_tie) law_k_stops1) law_k_stops2) law_k_knobs1) law_k_knobs2) law_k_inPlace) law_k_unfollowed) law_k_recurses) law_k_named) law_k_maps) law_k_ifaces) law_k_mapsOut) law_k_loops) law_k_wideKeys) law_k_vars) law_k_results) law_k_ifacesOut) law_k_loopsOut) law_k_plainKeys) law_k_short) law_k_heard) law_k_mayEnter) law_k_lifted) law_k_make) law_k_kinds) law_k_pinned) law_k_veiled) law_k_veiledFits)
theorem law_func : Tryz.pinned.checked.prog.funcs[8]? = some Tryz.f8 := Tryz.func8
end Go.Proofs.YtjieelmbgfnllaaGreatDoor

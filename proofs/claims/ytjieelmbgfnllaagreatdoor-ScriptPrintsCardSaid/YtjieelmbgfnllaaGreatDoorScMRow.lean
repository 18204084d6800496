/- What the rows of the laws share: from the rows' condition to the walks' facts; a world that meets it. Conditions: none. -/
import Derived.Test.YtjieelmbgfnllaaGreatDoorRows
import Derived.Test.YtjieelmbgfnllaaGreatDoorScMa
import Derived.HandedShaped
import Derived.ProofKit
import Derived.Handy
import Derived.Lay
import Derived.LaidHandle
import Derived.Lib.LaidTab
import Derived.Lib.LaidU8
import Derived.Stop.Joined
import Derived.ChangeMaps5
namespace Go.Proofs.YtjieelmbgfnllaaGreatDoor
open Go.ChangeShapes Go.WideShapes Go.RowKit
open Go.ChangeMaps (open_string shut_string)

/-- The list that the rows share. -/
def lay6 : List (String × DataW Unit) := [("math/bits.deBruijn32tab", Rows.laid_math_bits_deBruijn32tab), ("math/bits.deBruijn64tab", Rows.laid_math_bits_deBruijn64tab), ("internal/strconv.uint64pow10", Rows.laid_internal_strconv_uint64pow10), ("unicode/utf8.acceptRanges", Rows.laid_unicode_utf8_acceptRanges), ("errors.errorType", Rows.laid_errors_errorType), ("unicode/utf8.first", Rows.laid_unicode_utf8_first)]
def lay5 : List (String × DataW Unit) := [("math/bits.deBruijn32tab", Rows.laid_math_bits_deBruijn32tab), ("math/bits.deBruijn64tab", Rows.laid_math_bits_deBruijn64tab), ("internal/strconv.uint64pow10", Rows.laid_internal_strconv_uint64pow10), ("unicode/utf8.acceptRanges", Rows.laid_unicode_utf8_acceptRanges), ("unicode/utf8.first", Rows.laid_unicode_utf8_first)]

theorem row_own : ownKnob Tryz.prog.godebug = none := by kernel_rfl
theorem row_et : Tryz.prog.globalNamed "errors.errorType" = some 0 := by kernel_rfl
theorem row_rt : (Tryz.prog.cutTypes.find? (·.1 == "internal/reflectlite.rtype")).map (·.2) = some 270 := by kernel_rfl
theorem row_size_types : Tryz.prog.types.size = 371 := by kernel_rfl
theorem row_oneRow : ((List.range 371).filter fun t => Tryz.prog.rowNamed t [101, 114, 114, 111, 114]) = [24] := by kernel_rfl
theorem row_filter5 : (lay6.filter fun x => x.2.handleName?.isNone) = lay5 := by rfl
theorem row_filterH : (lay6.filter fun x => x.2.handleName?.isSome) = [("errors.errorType", Rows.laid_errors_errorType)] := by rfl
theorem row_split {W : World} (h : laidMetH Tryz.prog lay6 W) : laidMet Tryz.prog lay5 W ∧ handlesMet Tryz.prog [("errors.errorType", Rows.laid_errors_errorType)] W := by
  unfold laidMetH at h
  rw [row_filterH, row_filter5] at h
  exact h
theorem row_errType {W : World} (h : laidMetH Tryz.prog lay6 W) : errTypeIs W := by
  obtain ⟨name, u, ty, e1, e2, e3, e4, e5⟩ := (row_split h).2 _ (List.mem_singleton.2 rfl)
  have en : name = [101, 114, 114, 111, 114] := (Option.some.inj e1).symm
  subst en
  obtain rfl := Option.some.inj (row_rt.symm.trans e2)
  have hm : ty ∈ (List.range 371).filter fun t => Tryz.prog.rowNamed t [101, 114, 114, 111, 114] := List.mem_filter.2 ⟨List.mem_range.2 (by rw [← row_size_types]; exact e3), e4⟩
  rw [row_oneRow] at hm
  obtain rfl := List.mem_singleton.1 hm
  have hh : typeHandle Tryz.prog 24 = .pointer (some ⟨10, 24, none⟩) := by kernel_rfl
  rw [hh] at e5
  unfold errTypeIs
  simpa using World.var?_cell row_et e5 0
theorem row_gt : (Tryz.prog.globals[6]?).map (·.type) = some 340 := by kernel_rfl
theorem row_gn : Tryz.prog.globalNamed "internal/strconv.uint64pow10" = some 6 := by kernel_rfl
theorem row_c1 : Tryz.prog.cellsOf 227 = 1 := by kernel_rfl
theorem row_c20 : Tryz.prog.cellsOf 340 = 20 := by kernel_rfl
theorem row_tab {W : World} (h : laidMetH Tryz.prog lay6 W) : tabIs W := by
  obtain ⟨g, t, cs, fuel, p, hg, ht, hvar, hd⟩ := Lib.laidMet.reads (row_split h).1 (n := "internal/strconv.uint64pow10") (d := Rows.laid_internal_strconv_uint64pow10) (by simp [lay5])
  obtain rfl := Option.some.inj (row_gn.symm.trans hg)
  obtain rfl := Option.some.inj (row_gt.symm.trans ht)
  unfold tabIs Lib.TabIs
  rw [hvar, ← Lib.cells_of_tab (k := .u64) (zs := Lib.pow10Tab) Tryz.underlying340 Tryz.underlying227 row_c1 row_c20 hd]
theorem row_maxLen {W : World} (h : W.ShapedOpen Tryz.prog) : ∃ m, W.cell? ⟨3, 0, none⟩ = some (.int .i64 m) := Tryz.laysM219.s1_3 W h

/-- The two builders in one: the laid condition and the world's shape. -/
theorem row_build {H : Type} {enc : TypeId × Value → H} {a : Assume} {C : Checked} {os : Os} {f : FuncId} {fn : Func} {s : ChangeSpec} {conds : List PathCond} {apart fresh handsOn again : Bool} {X : World → Array Value → Prop}
    (hX : ∀ (w w' : World) (args : Array Value), w.heap = w'.heap → X w args → X w' args)
    (own : ownKnob C.prog.godebug = none) (started : os.Started) (noInit : C.prog.inits.idxOf? f = none) (hfn : C.prog.funcs[f]? = some fn)
    (witness : ∃ (w : World) (tape : Tape) (i : Input), w.os = os ∧ (w.forCall tape i).Shaped C.prog ∧ i.vars = [] ∧ Input.okWide C.prog (w.forCall tape i) .any w.heap.size f i ∧
      ((s.pre enc C.prog fn conds apart (w.forCall tape i).memory i.args ∧ X (w.forCall tape i).memory i.args) ∧ sizedMet enc C.prog fn (OpenSpec.ofChange s) apart (w.forCall tape i).memory i.args) ∧ a.holds C.prog (lone (Frame.enter C.prog f i.args .normal) [] (w.forCall tape i)))
    (contract : ∀ (W : World) (base : Nat) (args : Array Value) (ds gs : List (DataW H)) (before : List MemPlace),
      (∀ (j : Nat) t v, fn.params[j]? = some t → args[j]? = some v → Value.okWide C.prog W .any base t v) →
      DataW.Whole enc C.prog fn.params.toList s.vars apart W args.toList ds gs before →
      (DataW.weightsEach C.prog (fn.params.toList ++ s.plain.varTypes C.prog) (ds ++ gs)).all (· ≤ reachBytes) = true → W.ShapedOpen C.prog → X W args →
      Calls C.prog f args W fun e W' => ∃ v, e = .returned v ∧ s.post enc C.prog fn apart fresh handsOn again W args v W') :
    ReturnsInHanded a C os f .any (fun w args => (s.pre enc C.prog fn conds apart w args ∧ X w args) ∧ sizedMet enc C.prog fn (OpenSpec.ofChange s) apart w args) (s.post enc C.prog fn apart fresh handsOn again) := by
  refine returnsInHanded_of_calls own started noInit witness ?_
  intro w tape i _ hsh _ hok hpre _
  obtain ⟨_, _, _, fn', hfn', _, _, _, _, hval⟩ := hok
  have e : fn' = fn := Option.some.inj (hfn'.symm.trans hfn)
  subst e
  obtain ⟨⟨⟨ds, gs, before, hw, _⟩, hx⟩, hz⟩ := hpre
  have hw' := DataW.Whole.of_heap (w' := w.forCall tape i) (by rfl) hw
  refine (contract (w.forCall tape i) w.heap.size i.args ds gs before hval hw' (hz.weights hw) hsh (hX _ _ _ (by rfl) hx)).mono fun e W' ⟨v, he, hp⟩ => ?_
  subst he
  exact ChangeSpec.post_blind hp

/-- A world that meets the condition. -/
noncomputable def layBase (os : Os) : World :=
  let w0 := World.holding Tryz.prog os ⟨#[], #[], []⟩
  { w0 with heap := w0.heap.modify 0 fun
      | .cells _ t frozen => .cells #[.iface 270 (.agg #[.pointer (some ⟨10, 24, none⟩)])] t frozen
      | o => o }
noncomputable def layWorld (os : Os) : World := (layBase os).layVars Tryz.prog lay5
theorem layWorld_os (os : Os) : (layWorld os).os = os := World.layVars_os _ _ _
set_option maxRecDepth 100000 in
theorem layWorld_met (os : Os) (args : Array Value) : laidMetH Tryz.prog lay6 ((layWorld os).forCall (fun _ _ => 0) ⟨#[], args, []⟩).memory := by
  refine laidMetH_of_parts ?_ (by kernel_rfl)
  rw [row_filter5]
  have e1 : (lay5.filter fun x => (lay5.map (·.1)).contains x.1) = lay5 := by rfl
  have e2 : (lay5.filter fun x => !(lay5.map (·.1)).contains x.1) = [] := by rfl
  refine laidMet_layVars (w0 := layBase os) (lay5.map (·.1)) [] (by rw [e1]; rfl) (by rw [e1]; kernel_rfl) (by rw [e1]; kernel_rfl) (by rw [e2]; exact LaidIn.none)
end Go.Proofs.YtjieelmbgfnllaaGreatDoor

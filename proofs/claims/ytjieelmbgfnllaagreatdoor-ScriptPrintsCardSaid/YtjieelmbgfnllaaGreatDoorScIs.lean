/- errors.Is asked of a *script.Misread about the number that it bears. Conditions: none. -/
import Derived.Test.YtjieelmbgfnllaaGreatDoorScAs
namespace Go.Proofs.YtjieelmbgfnllaaGreatDoor
open Go.RowKit Go.Extern.Stop Go.Stop Go.Extern

theorem is_typeOf (v : Value) (w : World) : (ReflectliteType.typeOf #[.iface 93 v]).run Tryz.prog w = .ok (.iface 270 (.agg #[.pointer (some ⟨10, 93, none⟩)])) w := by kernel_rfl
def compF : Array Value → Sem Value := ReflectliteType.method fun t => do Rtype.noPackHeld "Comparable" t; pure (.bool (← typeInfo t).comparable)
theorem is_comparable (w : World) : (compF #[.agg #[.pointer (some ⟨10, 93, none⟩)]]).run Tryz.prog w = .ok (.bool true) w := by kernel_rfl
theorem is_methodComparable (v : Value) (w : World) : (Go.method 471 270 v "Comparable").run Tryz.prog w = .ok (286, v) w := by kernel_rfl
theorem is_noIsM (v : Value) (xT : TypeId) (w : World) : (Instr.typeAssert (.iface 92 v) xT 281 true).run Tryz.prog w = .ok (.tuple #[.nilIface, .bool false]) w := run_typeAssert_lacksB Tryz.underlying281 (by kernel_rfl) (by kernel_rfl) v xT w
theorem is_hasUnwrapM (v : Value) (xT : TypeId) (w : World) : (Instr.typeAssert (.iface 92 v) xT 277 true).run Tryz.prog w = .ok (.tuple #[.iface 92 v, .bool true]) w := run_typeAssert_hasB Tryz.underlying277 (by kernel_rfl) v xT w
theorem is_methodUnwrap (v : Value) (w : World) : (Go.method 471 92 v "Unwrap").run Tryz.prog w = .ok (277, v) w := by kernel_rfl
theorem is_comp : (Tryz.prog.info? 93).map (·.comparable) = some true := by kernel_rfl
theorem is_eq_num (k : Int) (w : World) : (binOp .eql 24 (.iface 93 (.int .i64 k)) (.iface 93 (.int .i64 k))).run Tryz.prog w = .ok (.bool true) w := by
  obtain ⟨i, hi, hc⟩ := Option.map_eq_some_iff.1 is_comp
  have h : ∀ d : Nat, (Op.equalIn (d + 2) 24 (.iface 93 (.int .i64 k)) (.iface 93 (.int .i64 k))).run Tryz.prog w = .ok true w := fun d => by
    simp [Op.equalIn, run_underlying Tryz.underlying24, run_underlying Tryz.underlying93, typeInfo, hi, hc]
  simp only [binOp]
  simp [Op.equal, Op.maxDepth, h 9998]

set_option maxRecDepth 100000 in
set_option maxHeartbeats 4000000 in
theorem is_walk (mb : Nat) (k : Int) (w : World) (h1 : w.cell? ⟨mb, 2, none⟩ = some (.int .i64 k)) :
    Calls Tryz.prog 40 #[.iface 92 (.pointer (some ⟨mb, 0, none⟩)), .iface 93 (.int .i64 k)] w fun e w' => e = .returned (.bool true) ∧ w' = w := by
  have h8 := @run_callFunc_extern Tryz.prog 116 _ (ReflectliteType.typeOf) Tryz.func116 (by kernel_rfl) (by kernel_rfl) (by kernel_rfl) (by kernel_rfl)
  have h32 := @run_callFunc_extern Tryz.prog 286 _ compF Tryz.func286 (by kernel_rfl) (by kernel_rfl) (by kernel_rfl) (by kernel_rfl)
  have tT := is_typeOf
  have cT := is_comparable
  have mR := is_methodComparable
  have nW := is_noIsM
  have uW := is_hasUnwrapM
  have mU := is_methodUnwrap
  have heq := is_eq_num k w
  have hty := run_eql_iface_types (P := Tryz.prog) 92 93 (.pointer (some ⟨mb, 0, none⟩)) (.int .i64 k) Tryz.underlying24 (by decide) w
  go_enter Tryz.func40, Tryz.ntmps40
  go_wp2
  refine wp_loop_rounds 2 ?_
  rw [rounds_succ]
  go_wp2
  rw [rounds_succ]
  go_wp2
  go_ret
  exact ⟨rfl, rfl⟩
end Go.Proofs.YtjieelmbgfnllaaGreatDoor

/- errors.As at a concrete target: *script.fault and *script.Misread. The laws of internal/reflectlite's entries at this program's types, after the kit's worked toy on errors.As. Conditions: errors.errorType is laid. -/
import Derived.Test.YtjieelmbgfnllaaGreatDoorScWords
import Derived.Stop.Asserts
import Derived.LaidEql
import Derived.RowKitTokens
namespace Go.Proofs.YtjieelmbgfnllaaGreatDoor
open Go.RowKit Go.Extern.Stop Go.Stop Go.Extern

theorem as_methodKind (h : Value) (w : World) : (Go.method 471 270 (.agg #[h]) "Kind").run Tryz.prog w = .ok (273, h) w := by kernel_rfl
theorem as_methodElem (h : Value) (w : World) : (Go.method 471 270 (.agg #[h]) "Elem").run Tryz.prog w = .ok (287, .agg #[h]) w := by kernel_rfl
theorem as_methodImplements (h : Value) (w : World) : (Go.method 471 270 (.agg #[h]) "Implements").run Tryz.prog w = .ok (288, .agg #[h]) w := by kernel_rfl
theorem as_methodAssignableTo (h : Value) (w : World) : (Go.method 471 270 (.agg #[h]) "AssignableTo").run Tryz.prog w = .ok (285, .agg #[h]) w := by kernel_rfl
theorem as_rlm (z : Sem Value) (f : TypeId → Addr → Nat → Nat → Sem Value) (v : Value) :
    ReflectliteValue.method z f #[v] = (do match ← ReflectliteValue.parts v with | none => z | some (t, a, fl) => f t a fl (fl % 32)) := rfl
theorem as_rls (v x : Value) : ReflectliteValue.set #[v, x] = (do
    let (some (dst, a, fl), some (src, b, _)) := (← ReflectliteValue.parts v, ← ReflectliteValue.parts x)
      | unsupported (.noEntry "extern/(internal/reflectlite.Value).Set.zeroValue")
    if fl / ReflectliteValue.flagAddr % 2 == 0 then unsupported (.noEntry "extern/(internal/reflectlite.Value).Set.unaddressable")
    let val ← loadVar src b
    if ← Rtype.directlyAssignable dst src then storeVar dst a val
    else if ← Rtype.implements dst src then
      if (← Rtype.kind src) == 20 then
        match val with
        | .nilIface => unsupported (.noEntry "extern/reflectlite: a nil value of one interface type handed on as a value of another")
        | _ => storeVar dst a val
      else storeVar dst a (.iface src val)
    else panicString ("reflectlite.Set: value of type " ++ (← Rtype.spelt src) ++ " is not assignable to type " ++ (← Rtype.spelt dst))
    pure (.tuple #[])) := rfl

theorem asf_valueOfT (t : Addr) (w : World) : (ReflectliteValue.unpack (.iface 175 (.pointer (some t)))).run Tryz.prog w
    = .ok (.agg #[.pointer (some ⟨10, 175, none⟩), .pointer (some ⟨w.heap.size, 0, none⟩), .int .u64 150]) (w.alloc (.cells #[.pointer (some t)] 175)) := by kernel_rfl
theorem asf_typeT (a : Addr) (w : World) : (ReflectliteValue.methodAny (ReflectliteValue.valueError "reflectlite.Value.Type" 0) (fun t _ _ _ => ReflectliteType.toType t) #[.agg #[.pointer (some ⟨10, 175, none⟩), .pointer (some a), .int .u64 150]]).run Tryz.prog w
    = .ok (.iface 270 (.agg #[.pointer (some ⟨10, 175, none⟩)])) w := by kernel_rfl
theorem asf_kindT (w : World) : ((ReflectliteType.abiMethod fun t => (fun a : Nat => Value.int IntKind.u8 (a : Int)) <$> Rtype.kind t) #[.pointer (some ⟨10, 175, none⟩)]).run Tryz.prog w = .ok (.int .u8 22) w := by kernel_rfl
theorem asf_kindE (w : World) : ((ReflectliteType.abiMethod fun t => (fun a : Nat => Value.int IntKind.u8 (a : Int)) <$> Rtype.kind t) #[.pointer (some ⟨10, 167, none⟩)]).run Tryz.prog w = .ok (.int .u8 22) w := by kernel_rfl
theorem asf_partsT (a : Addr) (w : World) : (ReflectliteValue.parts (.agg #[.pointer (some ⟨10, 175, none⟩), .pointer (some a), .int .u64 150])).run Tryz.prog w = .ok (some (175, a, 150)) w := by kernel_rfl
theorem asf_isNilT (a p : Addr) (W : World) (ha : W.cell? a = some (.pointer (some p))) :
    (ReflectliteValue.method (ReflectliteValue.valueError "reflectlite.Value.IsNil" 0) ReflectliteValue.isNil #[.agg #[.pointer (some ⟨10, 175, none⟩), .pointer (some a), .int .u64 150]]).run Tryz.prog W = .ok (.bool false) W := by
  rw [as_rlm]
  simp only [Sem.run_bind, asf_partsT, Result.andThen]
  simp [ReflectliteValue.isNil, loadVar, isAgg, underlying, Tryz.underlying175, ha, Result.andThen]
theorem asf_elemT (w : World) : (ReflectliteType.method ReflectliteType.elem #[.agg #[.pointer (some ⟨10, 175, none⟩)]]).run Tryz.prog w = .ok (.iface 270 (.agg #[.pointer (some ⟨10, 167, none⟩)])) w := by kernel_rfl
theorem asf_implementsE (w : World) : (ReflectliteType.relation "Implements" ReflectliteType.implements_ #[.agg #[.pointer (some ⟨10, 167, none⟩)], .iface 270 (.agg #[.pointer (some ⟨10, 24, none⟩)])]).run Tryz.prog w = .ok (.bool true) w := by kernel_rfl
theorem asf_typeOfE (v : Value) (w : World) : (ReflectliteType.typeOf #[.iface 167 v]).run Tryz.prog w = .ok (.iface 270 (.agg #[.pointer (some ⟨10, 167, none⟩)])) w := by kernel_rfl
theorem asf_assignableE (w : World) : (ReflectliteType.relation "AssignableTo" ReflectliteType.assignableTo #[.agg #[.pointer (some ⟨10, 167, none⟩)], .iface 270 (.agg #[.pointer (some ⟨10, 167, none⟩)])]).run Tryz.prog w = .ok (.bool true) w := by kernel_rfl
theorem asf_valueOfE (e : Addr) (w : World) : (ReflectliteValue.unpack (.iface 167 (.pointer (some e)))).run Tryz.prog w
    = .ok (.agg #[.pointer (some ⟨10, 167, none⟩), .pointer (some ⟨w.heap.size, 0, none⟩), .int .u64 150]) (w.alloc (.cells #[.pointer (some e)] 167)) := by kernel_rfl
theorem asf_elemOfT (w : World) : (Rtype.elem? 175).run Tryz.prog w = .ok (some 167) w := by kernel_rfl
theorem asf_mkE (p : Addr) (w : World) : (ReflectliteValue.mk 167 p ReflectliteValue.flagAddr).run Tryz.prog w = .ok (.agg #[.pointer (some ⟨10, 167, none⟩), .pointer (some p), .int .u64 406]) w := by kernel_rfl
theorem asf_elemVT (a p : Addr) (W : World) (ha : W.cell? a = some (.pointer (some p))) :
    (ReflectliteValue.method (ReflectliteValue.valueError "reflectlite.Value.Elem" 0) ReflectliteValue.elem #[.agg #[.pointer (some ⟨10, 175, none⟩), .pointer (some a), .int .u64 150]]).run Tryz.prog W
      = .ok (.agg #[.pointer (some ⟨10, 167, none⟩), .pointer (some p), .int .u64 406]) W := by
  rw [as_rlm]
  simp only [Sem.run_bind, asf_partsT, Result.andThen]
  simp [ReflectliteValue.elem, loadVar, isAgg, underlying, Tryz.underlying175, ha, Result.andThen, asf_elemOfT, asf_mkE]
theorem asf_partsEa (a : Addr) (w : World) : (ReflectliteValue.parts (.agg #[.pointer (some ⟨10, 167, none⟩), .pointer (some a), .int .u64 406])).run Tryz.prog w = .ok (some (167, a, 406)) w := by kernel_rfl
theorem asf_partsE (a : Addr) (w : World) : (ReflectliteValue.parts (.agg #[.pointer (some ⟨10, 167, none⟩), .pointer (some a), .int .u64 150])).run Tryz.prog w = .ok (some (167, a, 150)) w := by kernel_rfl
theorem asf_directE (w : World) : (Rtype.directlyAssignable 167 167).run Tryz.prog w = .ok true w := by kernel_rfl
theorem asf_sizeE (w : World) : (sizeOf 167).run Tryz.prog w = .ok 1 w := by kernel_rfl
theorem asf_setE (ta b e : Addr) (old : Value) (W : World) (hb : W.cell? b = some (.pointer (some e))) (ht : W.cell? ta = some old) (hf : W.frozen? ta = false) :
    (ReflectliteValue.set #[.agg #[.pointer (some ⟨10, 167, none⟩), .pointer (some ta), .int .u64 406], .agg #[.pointer (some ⟨10, 167, none⟩), .pointer (some b), .int .u64 150]]).run Tryz.prog W
      = .ok (.tuple #[]) (W.setCell ta (.pointer (some e))) := by
  rw [as_rls]
  simp only [Sem.run_bind, asf_partsEa, asf_partsE, Result.andThen]
  simp [ReflectliteValue.flagAddr, loadVar, isAgg, underlying, Tryz.underlying167, hb, Result.andThen, asf_directE, storeVar, Value.cells, storeCells, Addr.add]
  rw [run_store Tryz.prog W ta _ _ (by rfl)]
  simp [ht, hf]

set_option maxRecDepth 100000 in
set_option maxHeartbeats 4000000 in
theorem asf_hit (e t : Addr) (old : Value) (w : World) (hg : w.cell? ⟨0, 0, none⟩ = some (.iface 270 (.agg #[.pointer (some ⟨10, 24, none⟩)]))) (ht0 : w.cell? t = some old) (hf0 : w.frozen? t = false) :
    Calls Tryz.prog 39 #[.iface 167 (.pointer (some e)), .iface 175 (.pointer (some t))] w fun ev w' => ev = .returned (.bool true) ∧ w' = ((((w.alloc (.cells #[.pointer (some t)] 175)).alloc (.cells #[.pointer (some ⟨10, 175, none⟩), .pointer (some ⟨w.heap.size, 0, none⟩), .int .u64 150] 183)).alloc (.cells #[.pointer (some ⟨10, 175, none⟩), .pointer (some ⟨w.heap.size, 0, none⟩), .int .u64 150] 183)).alloc (.cells #[.pointer (some e)] 167)).setCell t (.pointer (some e)) := by
  have h6 := @run_callFunc_extern Tryz.prog 112 _ (fun args => ReflectliteValue.unpack (args.getD 0 (.tuple #[]))) Tryz.func112 (by kernel_rfl) (by kernel_rfl) (by kernel_rfl) (by kernel_rfl)
  have h7 := @run_callFunc_extern Tryz.prog 113 _ (ReflectliteValue.methodAny (ReflectliteValue.valueError "reflectlite.Value.Type" 0) (fun t _ _ _ => ReflectliteType.toType t)) Tryz.func113 (by kernel_rfl) (by kernel_rfl) (by kernel_rfl) (by kernel_rfl)
  have h8 := @run_callFunc_extern Tryz.prog 114 _ (ReflectliteValue.method (ReflectliteValue.valueError "reflectlite.Value.IsNil" 0) ReflectliteValue.isNil) Tryz.func114 (by kernel_rfl) (by kernel_rfl) (by kernel_rfl) (by kernel_rfl)
  have h27 := @run_callFunc_extern Tryz.prog 273 _ (ReflectliteType.abiMethod fun t => do pure (.int .u8 (← Rtype.kind t))) Tryz.func273 (by kernel_rfl) (by kernel_rfl) (by kernel_rfl) (by kernel_rfl)
  have h37 := @run_callFunc_extern Tryz.prog 287 _ (ReflectliteType.method ReflectliteType.elem) Tryz.func287 (by kernel_rfl) (by kernel_rfl) (by kernel_rfl) (by kernel_rfl)
  have h38 := @run_callFunc_extern Tryz.prog 288 _ (ReflectliteType.relation "Implements" ReflectliteType.implements_) Tryz.func288 (by kernel_rfl) (by kernel_rfl) (by kernel_rfl) (by kernel_rfl)
  have h10 := @run_callFunc_extern Tryz.prog 116 _ (ReflectliteType.typeOf) Tryz.func116 (by kernel_rfl) (by kernel_rfl) (by kernel_rfl) (by kernel_rfl)
  have h35 := @run_callFunc_extern Tryz.prog 285 _ (ReflectliteType.relation "AssignableTo" ReflectliteType.assignableTo) Tryz.func285 (by kernel_rfl) (by kernel_rfl) (by kernel_rfl) (by kernel_rfl)
  have h11 := @run_callFunc_extern Tryz.prog 169 _ (ReflectliteValue.method (ReflectliteValue.valueError "reflectlite.Value.Elem" 0) ReflectliteValue.elem) Tryz.func169 (by kernel_rfl) (by kernel_rfl) (by kernel_rfl) (by kernel_rfl)
  have h12 := @run_callFunc_extern Tryz.prog 170 _ (ReflectliteValue.set) Tryz.func170 (by kernel_rfl) (by kernel_rfl) (by kernel_rfl) (by kernel_rfl)
  have tO := asf_typeOfE
  have mA := as_methodAssignableTo
  have a25 := asf_assignableE
  have v25 := asf_valueOfE
  have f6 := asf_valueOfT
  have f7 := asf_typeT
  have mK := as_methodKind
  have mE := as_methodElem
  have mI := as_methodImplements
  have k27 := asf_kindT
  have k25 := asf_kindE
  have e27 := asf_elemT
  have i25 := asf_implementsE
  have n8 := asf_isNilT ⟨w.heap.size, 0, none⟩ t ((w.alloc (.cells #[.pointer (some t)] 175)).alloc (.cells #[.pointer (some ⟨10, 175, none⟩), .pointer (some ⟨w.heap.size, 0, none⟩), .int .u64 150] 183)) (by simp)
  have hlt : 0 < w.heap.size := by
    rcases Nat.eq_zero_or_pos w.heap.size with h0 | h
    · simp [World.cell?, h0] at hg
    · exact h
  have hg2 : ((w.alloc (.cells #[.pointer (some t)] 175)).alloc (.cells #[.pointer (some ⟨10, 175, none⟩), .pointer (some ⟨w.heap.size, 0, none⟩), .int .u64 150] 183)).cell? ⟨0, 0, none⟩ = some (.iface 270 (.agg #[.pointer (some ⟨10, 24, none⟩)])) := by
    rw [World.cell?_alloc_lt _ _ ⟨0, 0, none⟩ (by simp), World.cell?_alloc_lt _ _ ⟨0, 0, none⟩ hlt]; exact hg
  have htl : t.block < w.heap.size := by
    rcases Nat.lt_or_ge t.block w.heap.size with h | h
    · exact h
    · simp [World.cell?, Array.getElem?_eq_none h] at ht0
  have el := asf_elemVT ⟨w.heap.size, 0, none⟩ t (((w.alloc (.cells #[.pointer (some t)] 175)).alloc (.cells #[.pointer (some ⟨10, 175, none⟩), .pointer (some ⟨w.heap.size, 0, none⟩), .int .u64 150] 183)).alloc (.cells #[.pointer (some ⟨10, 175, none⟩), .pointer (some ⟨w.heap.size, 0, none⟩), .int .u64 150] 183)) (by rw [World.cell?_alloc_lt _ _ ⟨w.heap.size, 0, none⟩ (by simp; omega)]; simp)
  have st := asf_setE t ⟨w.heap.size + 1 + 1 + 1, 0, none⟩ e old ((((w.alloc (.cells #[.pointer (some t)] 175)).alloc (.cells #[.pointer (some ⟨10, 175, none⟩), .pointer (some ⟨w.heap.size, 0, none⟩), .int .u64 150] 183)).alloc (.cells #[.pointer (some ⟨10, 175, none⟩), .pointer (some ⟨w.heap.size, 0, none⟩), .int .u64 150] 183)).alloc (.cells #[.pointer (some e)] 167))
    (by rw [World.cell?_alloc_at _ _ _ _ (by simp)]; rfl)
    (by rw [World.cell?_alloc_lt _ _ t (by simp; omega), World.cell?_alloc_lt _ _ t (by simp; omega), World.cell?_alloc_lt _ _ t (by simp; omega), World.cell?_alloc_lt _ _ t htl]; exact ht0)
    (by rw [World.frozen?_alloc_old _ _ t (by simp; omega), World.frozen?_alloc_old _ _ t (by simp; omega), World.frozen?_alloc_old _ _ t (by simp; omega), World.frozen?_alloc_old _ _ t (Nat.ne_of_lt htl)]; exact hf0)
  go_enter Tryz.func39, Tryz.ntmps39
  go_wp2
  refine wp_loop_rounds 1 ?_
  rw [rounds_succ]
  go_wp2
  go_ret
  exact ⟨rfl, rfl⟩

theorem asm_valueOfT (t : Addr) (w : World) : (ReflectliteValue.unpack (.iface 117 (.pointer (some t)))).run Tryz.prog w
    = .ok (.agg #[.pointer (some ⟨10, 117, none⟩), .pointer (some ⟨w.heap.size, 0, none⟩), .int .u64 150]) (w.alloc (.cells #[.pointer (some t)] 117)) := by kernel_rfl
theorem asm_typeT (a : Addr) (w : World) : (ReflectliteValue.methodAny (ReflectliteValue.valueError "reflectlite.Value.Type" 0) (fun t _ _ _ => ReflectliteType.toType t) #[.agg #[.pointer (some ⟨10, 117, none⟩), .pointer (some a), .int .u64 150]]).run Tryz.prog w
    = .ok (.iface 270 (.agg #[.pointer (some ⟨10, 117, none⟩)])) w := by kernel_rfl
theorem asm_kindT (w : World) : ((ReflectliteType.abiMethod fun t => (fun a : Nat => Value.int IntKind.u8 (a : Int)) <$> Rtype.kind t) #[.pointer (some ⟨10, 117, none⟩)]).run Tryz.prog w = .ok (.int .u8 22) w := by kernel_rfl
theorem asm_kindE (w : World) : ((ReflectliteType.abiMethod fun t => (fun a : Nat => Value.int IntKind.u8 (a : Int)) <$> Rtype.kind t) #[.pointer (some ⟨10, 92, none⟩)]).run Tryz.prog w = .ok (.int .u8 22) w := by kernel_rfl
theorem asm_partsT (a : Addr) (w : World) : (ReflectliteValue.parts (.agg #[.pointer (some ⟨10, 117, none⟩), .pointer (some a), .int .u64 150])).run Tryz.prog w = .ok (some (117, a, 150)) w := by kernel_rfl
theorem asm_isNilT (a p : Addr) (W : World) (ha : W.cell? a = some (.pointer (some p))) :
    (ReflectliteValue.method (ReflectliteValue.valueError "reflectlite.Value.IsNil" 0) ReflectliteValue.isNil #[.agg #[.pointer (some ⟨10, 117, none⟩), .pointer (some a), .int .u64 150]]).run Tryz.prog W = .ok (.bool false) W := by
  rw [as_rlm]
  simp only [Sem.run_bind, asm_partsT, Result.andThen]
  simp [ReflectliteValue.isNil, loadVar, isAgg, underlying, Tryz.underlying117, ha, Result.andThen]
theorem asm_elemT (w : World) : (ReflectliteType.method ReflectliteType.elem #[.agg #[.pointer (some ⟨10, 117, none⟩)]]).run Tryz.prog w = .ok (.iface 270 (.agg #[.pointer (some ⟨10, 92, none⟩)])) w := by kernel_rfl
theorem asm_implementsE (w : World) : (ReflectliteType.relation "Implements" ReflectliteType.implements_ #[.agg #[.pointer (some ⟨10, 92, none⟩)], .iface 270 (.agg #[.pointer (some ⟨10, 24, none⟩)])]).run Tryz.prog w = .ok (.bool true) w := by kernel_rfl
theorem asm_typeOfE (v : Value) (w : World) : (ReflectliteType.typeOf #[.iface 92 v]).run Tryz.prog w = .ok (.iface 270 (.agg #[.pointer (some ⟨10, 92, none⟩)])) w := by kernel_rfl
theorem asm_assignableE (w : World) : (ReflectliteType.relation "AssignableTo" ReflectliteType.assignableTo #[.agg #[.pointer (some ⟨10, 92, none⟩)], .iface 270 (.agg #[.pointer (some ⟨10, 92, none⟩)])]).run Tryz.prog w = .ok (.bool true) w := by kernel_rfl
theorem asm_valueOfE (e : Addr) (w : World) : (ReflectliteValue.unpack (.iface 92 (.pointer (some e)))).run Tryz.prog w
    = .ok (.agg #[.pointer (some ⟨10, 92, none⟩), .pointer (some ⟨w.heap.size, 0, none⟩), .int .u64 150]) (w.alloc (.cells #[.pointer (some e)] 92)) := by kernel_rfl
theorem asm_elemOfT (w : World) : (Rtype.elem? 117).run Tryz.prog w = .ok (some 92) w := by kernel_rfl
theorem asm_mkE (p : Addr) (w : World) : (ReflectliteValue.mk 92 p ReflectliteValue.flagAddr).run Tryz.prog w = .ok (.agg #[.pointer (some ⟨10, 92, none⟩), .pointer (some p), .int .u64 406]) w := by kernel_rfl
theorem asm_elemVT (a p : Addr) (W : World) (ha : W.cell? a = some (.pointer (some p))) :
    (ReflectliteValue.method (ReflectliteValue.valueError "reflectlite.Value.Elem" 0) ReflectliteValue.elem #[.agg #[.pointer (some ⟨10, 117, none⟩), .pointer (some a), .int .u64 150]]).run Tryz.prog W
      = .ok (.agg #[.pointer (some ⟨10, 92, none⟩), .pointer (some p), .int .u64 406]) W := by
  rw [as_rlm]
  simp only [Sem.run_bind, asm_partsT, Result.andThen]
  simp [ReflectliteValue.elem, loadVar, isAgg, underlying, Tryz.underlying117, ha, Result.andThen, asm_elemOfT, asm_mkE]
theorem asm_partsEa (a : Addr) (w : World) : (ReflectliteValue.parts (.agg #[.pointer (some ⟨10, 92, none⟩), .pointer (some a), .int .u64 406])).run Tryz.prog w = .ok (some (92, a, 406)) w := by kernel_rfl
theorem asm_partsE (a : Addr) (w : World) : (ReflectliteValue.parts (.agg #[.pointer (some ⟨10, 92, none⟩), .pointer (some a), .int .u64 150])).run Tryz.prog w = .ok (some (92, a, 150)) w := by kernel_rfl
theorem asm_directE (w : World) : (Rtype.directlyAssignable 92 92).run Tryz.prog w = .ok true w := by kernel_rfl
theorem asm_sizeE (w : World) : (sizeOf 92).run Tryz.prog w = .ok 1 w := by kernel_rfl
theorem asm_setE (ta b e : Addr) (old : Value) (W : World) (hb : W.cell? b = some (.pointer (some e))) (ht : W.cell? ta = some old) (hf : W.frozen? ta = false) :
    (ReflectliteValue.set #[.agg #[.pointer (some ⟨10, 92, none⟩), .pointer (some ta), .int .u64 406], .agg #[.pointer (some ⟨10, 92, none⟩), .pointer (some b), .int .u64 150]]).run Tryz.prog W
      = .ok (.tuple #[]) (W.setCell ta (.pointer (some e))) := by
  rw [as_rls]
  simp only [Sem.run_bind, asm_partsEa, asm_partsE, Result.andThen]
  simp [ReflectliteValue.flagAddr, loadVar, isAgg, underlying, Tryz.underlying92, hb, Result.andThen, asm_directE, storeVar, Value.cells, storeCells, Addr.add]
  rw [run_store Tryz.prog W ta _ _ (by rfl)]
  simp [ht, hf]

set_option maxRecDepth 100000 in
set_option maxHeartbeats 4000000 in
theorem asm_hit (e t : Addr) (old : Value) (w : World) (hg : w.cell? ⟨0, 0, none⟩ = some (.iface 270 (.agg #[.pointer (some ⟨10, 24, none⟩)]))) (ht0 : w.cell? t = some old) (hf0 : w.frozen? t = false) :
    Calls Tryz.prog 39 #[.iface 92 (.pointer (some e)), .iface 117 (.pointer (some t))] w fun ev w' => ev = .returned (.bool true) ∧ w' = ((((w.alloc (.cells #[.pointer (some t)] 117)).alloc (.cells #[.pointer (some ⟨10, 117, none⟩), .pointer (some ⟨w.heap.size, 0, none⟩), .int .u64 150] 183)).alloc (.cells #[.pointer (some ⟨10, 117, none⟩), .pointer (some ⟨w.heap.size, 0, none⟩), .int .u64 150] 183)).alloc (.cells #[.pointer (some e)] 92)).setCell t (.pointer (some e)) := by
  have h6 := @run_callFunc_extern Tryz.prog 112 _ (fun args => ReflectliteValue.unpack (args.getD 0 (.tuple #[]))) Tryz.func112 (by kernel_rfl) (by kernel_rfl) (by kernel_rfl) (by kernel_rfl)
  have h7 := @run_callFunc_extern Tryz.prog 113 _ (ReflectliteValue.methodAny (ReflectliteValue.valueError "reflectlite.Value.Type" 0) (fun t _ _ _ => ReflectliteType.toType t)) Tryz.func113 (by kernel_rfl) (by kernel_rfl) (by kernel_rfl) (by kernel_rfl)
  have h8 := @run_callFunc_extern Tryz.prog 114 _ (ReflectliteValue.method (ReflectliteValue.valueError "reflectlite.Value.IsNil" 0) ReflectliteValue.isNil) Tryz.func114 (by kernel_rfl) (by kernel_rfl) (by kernel_rfl) (by kernel_rfl)
  have h27 := @run_callFunc_extern Tryz.prog 273 _ (ReflectliteType.abiMethod fun t => do pure (.int .u8 (← Rtype.kind t))) Tryz.func273 (by kernel_rfl) (by kernel_rfl) (by kernel_rfl) (by kernel_rfl)
  have h37 := @run_callFunc_extern Tryz.prog 287 _ (ReflectliteType.method ReflectliteType.elem) Tryz.func287 (by kernel_rfl) (by kernel_rfl) (by kernel_rfl) (by kernel_rfl)
  have h38 := @run_callFunc_extern Tryz.prog 288 _ (ReflectliteType.relation "Implements" ReflectliteType.implements_) Tryz.func288 (by kernel_rfl) (by kernel_rfl) (by kernel_rfl) (by kernel_rfl)
  have h10 := @run_callFunc_extern Tryz.prog 116 _ (ReflectliteType.typeOf) Tryz.func116 (by kernel_rfl) (by kernel_rfl) (by kernel_rfl) (by kernel_rfl)
  have h35 := @run_callFunc_extern Tryz.prog 285 _ (ReflectliteType.relation "AssignableTo" ReflectliteType.assignableTo) Tryz.func285 (by kernel_rfl) (by kernel_rfl) (by kernel_rfl) (by kernel_rfl)
  have h11 := @run_callFunc_extern Tryz.prog 169 _ (ReflectliteValue.method (ReflectliteValue.valueError "reflectlite.Value.Elem" 0) ReflectliteValue.elem) Tryz.func169 (by kernel_rfl) (by kernel_rfl) (by kernel_rfl) (by kernel_rfl)
  have h12 := @run_callFunc_extern Tryz.prog 170 _ (ReflectliteValue.set) Tryz.func170 (by kernel_rfl) (by kernel_rfl) (by kernel_rfl) (by kernel_rfl)
  have tO := asm_typeOfE
  have mA := as_methodAssignableTo
  have a25 := asm_assignableE
  have v25 := asm_valueOfE
  have f6 := asm_valueOfT
  have f7 := asm_typeT
  have mK := as_methodKind
  have mE := as_methodElem
  have mI := as_methodImplements
  have k27 := asm_kindT
  have k25 := asm_kindE
  have e27 := asm_elemT
  have i25 := asm_implementsE
  have n8 := asm_isNilT ⟨w.heap.size, 0, none⟩ t ((w.alloc (.cells #[.pointer (some t)] 117)).alloc (.cells #[.pointer (some ⟨10, 117, none⟩), .pointer (some ⟨w.heap.size, 0, none⟩), .int .u64 150] 183)) (by simp)
  have hlt : 0 < w.heap.size := by
    rcases Nat.eq_zero_or_pos w.heap.size with h0 | h
    · simp [World.cell?, h0] at hg
    · exact h
  have hg2 : ((w.alloc (.cells #[.pointer (some t)] 117)).alloc (.cells #[.pointer (some ⟨10, 117, none⟩), .pointer (some ⟨w.heap.size, 0, none⟩), .int .u64 150] 183)).cell? ⟨0, 0, none⟩ = some (.iface 270 (.agg #[.pointer (some ⟨10, 24, none⟩)])) := by
    rw [World.cell?_alloc_lt _ _ ⟨0, 0, none⟩ (by simp), World.cell?_alloc_lt _ _ ⟨0, 0, none⟩ hlt]; exact hg
  have htl : t.block < w.heap.size := by
    rcases Nat.lt_or_ge t.block w.heap.size with h | h
    · exact h
    · simp [World.cell?, Array.getElem?_eq_none h] at ht0
  have el := asm_elemVT ⟨w.heap.size, 0, none⟩ t (((w.alloc (.cells #[.pointer (some t)] 117)).alloc (.cells #[.pointer (some ⟨10, 117, none⟩), .pointer (some ⟨w.heap.size, 0, none⟩), .int .u64 150] 183)).alloc (.cells #[.pointer (some ⟨10, 117, none⟩), .pointer (some ⟨w.heap.size, 0, none⟩), .int .u64 150] 183)) (by rw [World.cell?_alloc_lt _ _ ⟨w.heap.size, 0, none⟩ (by simp; omega)]; simp)
  have st := asm_setE t ⟨w.heap.size + 1 + 1 + 1, 0, none⟩ e old ((((w.alloc (.cells #[.pointer (some t)] 117)).alloc (.cells #[.pointer (some ⟨10, 117, none⟩), .pointer (some ⟨w.heap.size, 0, none⟩), .int .u64 150] 183)).alloc (.cells #[.pointer (some ⟨10, 117, none⟩), .pointer (some ⟨w.heap.size, 0, none⟩), .int .u64 150] 183)).alloc (.cells #[.pointer (some e)] 92))
    (by rw [World.cell?_alloc_at _ _ _ _ (by simp)]; rfl)
    (by rw [World.cell?_alloc_lt _ _ t (by simp; omega), World.cell?_alloc_lt _ _ t (by simp; omega), World.cell?_alloc_lt _ _ t (by simp; omega), World.cell?_alloc_lt _ _ t htl]; exact ht0)
    (by rw [World.frozen?_alloc_old _ _ t (by simp; omega), World.frozen?_alloc_old _ _ t (by simp; omega), World.frozen?_alloc_old _ _ t (by simp; omega), World.frozen?_alloc_old _ _ t (Nat.ne_of_lt htl)]; exact hf0)
  go_enter Tryz.func39, Tryz.ntmps39
  go_wp2
  refine wp_loop_rounds 1 ?_
  rw [rounds_succ]
  go_wp2
  go_ret
  exact ⟨rfl, rfl⟩
end Go.Proofs.YtjieelmbgfnllaaGreatDoor

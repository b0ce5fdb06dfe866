/-
  errors.As and errors.Is at the program's own errors: numbers, and numbers behind a path. After the guide's worked text ToyasAs. Condition: errors.errorType holds what the library lays.
-/
import Derived.Test.YtdfknlhfdbbogaaGreatDoorBase
import Derived.LaidEql
import Derived.Stop.Asserts
import Derived.RowKitTokens
namespace Go.Proofs.YtdfknlhfdbbogaaGreatDoor
open Go.RowKit
open Go.Extern.Stop Go.Stop Go.Extern
set_option linter.unusedSimpArgs false
set_option linter.unusedVariables false
/-! ### The model's entries for internal/reflectlite at the program's types: 36 Errno, 140 *Errno, 142 *wrong, 143 **wrong, 44/45 error, 381 rtype -/
theorem rv_valueOf140 (t : Addr) (w : World) : (ReflectliteValue.unpack (.iface 140 (.pointer (some t)))).run Tryz.prog w
    = .ok (.agg #[.pointer (some ⟨5, 140, none⟩), .pointer (some ⟨w.heap.size, 0, none⟩), .int .u64 150]) (w.alloc (.cells #[.pointer (some t)] 140)) := by kernel_rfl
theorem rv_valueOf143 (t : Addr) (w : World) : (ReflectliteValue.unpack (.iface 143 (.pointer (some t)))).run Tryz.prog w
    = .ok (.agg #[.pointer (some ⟨5, 143, none⟩), .pointer (some ⟨w.heap.size, 0, none⟩), .int .u64 150]) (w.alloc (.cells #[.pointer (some t)] 143)) := by kernel_rfl
theorem rv_type140 (a : Addr) (w : World) : (ReflectliteValue.methodAny (ReflectliteValue.valueError "reflectlite.Value.Type" 0) (fun t _ _ _ => ReflectliteType.toType t) #[.agg #[.pointer (some ⟨5, 140, none⟩), .pointer (some a), .int .u64 150]]).run Tryz.prog w
    = .ok (.iface 381 (.agg #[.pointer (some ⟨5, 140, none⟩)])) w := by kernel_rfl
theorem rv_type143 (a : Addr) (w : World) : (ReflectliteValue.methodAny (ReflectliteValue.valueError "reflectlite.Value.Type" 0) (fun t _ _ _ => ReflectliteType.toType t) #[.agg #[.pointer (some ⟨5, 143, none⟩), .pointer (some a), .int .u64 150]]).run Tryz.prog w
    = .ok (.iface 381 (.agg #[.pointer (some ⟨5, 143, none⟩)])) w := by kernel_rfl
theorem rv_methodKind (h : Value) (w : World) : (Go.method 627 381 (.agg #[h]) "Kind").run Tryz.prog w = .ok (390, h) w := by kernel_rfl
theorem rv_methodElem (h : Value) (w : World) : (Go.method 627 381 (.agg #[h]) "Elem").run Tryz.prog w = .ok (403, .agg #[h]) w := by kernel_rfl
theorem rv_methodImplements (h : Value) (w : World) : (Go.method 627 381 (.agg #[h]) "Implements").run Tryz.prog w = .ok (404, .agg #[h]) w := by kernel_rfl
theorem rv_methodAssignableTo (h : Value) (w : World) : (Go.method 627 381 (.agg #[h]) "AssignableTo").run Tryz.prog w = .ok (401, .agg #[h]) w := by kernel_rfl
theorem rv_methodComparable (h : Value) (w : World) : (Go.method 627 381 (.agg #[h]) "Comparable").run Tryz.prog w = .ok (402, .agg #[h]) w := by kernel_rfl
theorem rv_methodUnwrap (v : Value) (w : World) : (Go.method 627 142 v "Unwrap").run Tryz.prog w = .ok (396, v) w := by kernel_rfl
theorem rv_kind140 (w : World) : ((ReflectliteType.abiMethod fun t => (fun a : Nat => Value.int IntKind.u8 (a : Int)) <$> Rtype.kind t) #[.pointer (some ⟨5, 140, none⟩)]).run Tryz.prog w = .ok (.int .u8 22) w := by kernel_rfl
theorem rv_kind143 (w : World) : ((ReflectliteType.abiMethod fun t => (fun a : Nat => Value.int IntKind.u8 (a : Int)) <$> Rtype.kind t) #[.pointer (some ⟨5, 143, none⟩)]).run Tryz.prog w = .ok (.int .u8 22) w := by kernel_rfl
theorem rv_kind142 (w : World) : ((ReflectliteType.abiMethod fun t => (fun a : Nat => Value.int IntKind.u8 (a : Int)) <$> Rtype.kind t) #[.pointer (some ⟨5, 142, none⟩)]).run Tryz.prog w = .ok (.int .u8 22) w := by kernel_rfl
theorem rv_kind36 (w : World) : ((ReflectliteType.abiMethod fun t => (fun a : Nat => Value.int IntKind.u8 (a : Int)) <$> Rtype.kind t) #[.pointer (some ⟨5, 36, none⟩)]).run Tryz.prog w = .ok (.int .u8 2) w := by kernel_rfl
theorem rlm (z : Sem Value) (f : TypeId → Addr → Nat → Nat → Sem Value) (v : Value) :
    ReflectliteValue.method z f #[v] = (do match ← ReflectliteValue.parts v with | none => z | some (t, a, fl) => f t a fl (fl % 32)) := rfl
theorem rv_parts140 (a : Addr) (w : World) : (ReflectliteValue.parts (.agg #[.pointer (some ⟨5, 140, none⟩), .pointer (some a), .int .u64 150])).run Tryz.prog w = .ok (some (140, a, 150)) w := by kernel_rfl
theorem rv_parts143 (a : Addr) (w : World) : (ReflectliteValue.parts (.agg #[.pointer (some ⟨5, 143, none⟩), .pointer (some a), .int .u64 150])).run Tryz.prog w = .ok (some (143, a, 150)) w := by kernel_rfl
theorem rv_isNil140 (a p : Addr) (W : World) (ha : W.cell? a = some (.pointer (some p))) :
    (ReflectliteValue.method (ReflectliteValue.valueError "reflectlite.Value.IsNil" 0) ReflectliteValue.isNil #[.agg #[.pointer (some ⟨5, 140, none⟩), .pointer (some a), .int .u64 150]]).run Tryz.prog W = .ok (.bool false) W := by
  rw [rlm]
  simp only [Sem.run_bind, rv_parts140, Result.andThen]
  simp [ReflectliteValue.isNil, loadVar, isAgg, underlying, Tryz.underlying140, ha, Result.andThen]
theorem rv_isNil143 (a p : Addr) (W : World) (ha : W.cell? a = some (.pointer (some p))) :
    (ReflectliteValue.method (ReflectliteValue.valueError "reflectlite.Value.IsNil" 0) ReflectliteValue.isNil #[.agg #[.pointer (some ⟨5, 143, none⟩), .pointer (some a), .int .u64 150]]).run Tryz.prog W = .ok (.bool false) W := by
  rw [rlm]
  simp only [Sem.run_bind, rv_parts143, Result.andThen]
  simp [ReflectliteValue.isNil, loadVar, isAgg, underlying, Tryz.underlying143, ha, Result.andThen]
theorem rv_elem140 (w : World) : (ReflectliteType.method ReflectliteType.elem #[.agg #[.pointer (some ⟨5, 140, none⟩)]]).run Tryz.prog w = .ok (.iface 381 (.agg #[.pointer (some ⟨5, 36, none⟩)])) w := by kernel_rfl
theorem rv_elem143 (w : World) : (ReflectliteType.method ReflectliteType.elem #[.agg #[.pointer (some ⟨5, 143, none⟩)]]).run Tryz.prog w = .ok (.iface 381 (.agg #[.pointer (some ⟨5, 142, none⟩)])) w := by kernel_rfl
theorem rv_implements36 (w : World) : (ReflectliteType.relation "Implements" ReflectliteType.implements_ #[.agg #[.pointer (some ⟨5, 36, none⟩)], .iface 381 (.agg #[.pointer (some ⟨5, 45, none⟩)])]).run Tryz.prog w = .ok (.bool true) w := by kernel_rfl
theorem rv_implements142 (w : World) : (ReflectliteType.relation "Implements" ReflectliteType.implements_ #[.agg #[.pointer (some ⟨5, 142, none⟩)], .iface 381 (.agg #[.pointer (some ⟨5, 45, none⟩)])]).run Tryz.prog w = .ok (.bool true) w := by kernel_rfl
theorem rv_typeOf (t : TypeId) (v : Value) (w : World) : (ReflectliteType.typeOf #[.iface t v]).run Tryz.prog w = .ok (.iface 381 (.agg #[.pointer (some ⟨5, t, none⟩)])) w := by kernel_rfl
theorem rv_assign36_36 (w : World) : (ReflectliteType.relation "AssignableTo" ReflectliteType.assignableTo #[.agg #[.pointer (some ⟨5, 36, none⟩)], .iface 381 (.agg #[.pointer (some ⟨5, 36, none⟩)])]).run Tryz.prog w = .ok (.bool true) w := by kernel_rfl
theorem rv_assign142_36 (w : World) : (ReflectliteType.relation "AssignableTo" ReflectliteType.assignableTo #[.agg #[.pointer (some ⟨5, 142, none⟩)], .iface 381 (.agg #[.pointer (some ⟨5, 36, none⟩)])]).run Tryz.prog w = .ok (.bool false) w := by kernel_rfl
theorem rv_assign36_142 (w : World) : (ReflectliteType.relation "AssignableTo" ReflectliteType.assignableTo #[.agg #[.pointer (some ⟨5, 36, none⟩)], .iface 381 (.agg #[.pointer (some ⟨5, 142, none⟩)])]).run Tryz.prog w = .ok (.bool false) w := by kernel_rfl
theorem rv_assign142_142 (w : World) : (ReflectliteType.relation "AssignableTo" ReflectliteType.assignableTo #[.agg #[.pointer (some ⟨5, 142, none⟩)], .iface 381 (.agg #[.pointer (some ⟨5, 142, none⟩)])]).run Tryz.prog w = .ok (.bool true) w := by kernel_rfl
theorem rv_elemOf140 (w : World) : (Rtype.elem? 140).run Tryz.prog w = .ok (some 36) w := by kernel_rfl
theorem rv_elemOf143 (w : World) : (Rtype.elem? 143).run Tryz.prog w = .ok (some 142) w := by kernel_rfl
theorem rv_mk36 (p : Addr) (w : World) : (ReflectliteValue.mk 36 p ReflectliteValue.flagAddr).run Tryz.prog w = .ok (.agg #[.pointer (some ⟨5, 36, none⟩), .pointer (some p), .int .u64 386]) w := by kernel_rfl
theorem rv_mk142 (p : Addr) (w : World) : (ReflectliteValue.mk 142 p ReflectliteValue.flagAddr).run Tryz.prog w = .ok (.agg #[.pointer (some ⟨5, 142, none⟩), .pointer (some p), .int .u64 406]) w := by kernel_rfl
theorem rv_elemV140 (a p : Addr) (W : World) (ha : W.cell? a = some (.pointer (some p))) :
    (ReflectliteValue.method (ReflectliteValue.valueError "reflectlite.Value.Elem" 0) ReflectliteValue.elem #[.agg #[.pointer (some ⟨5, 140, none⟩), .pointer (some a), .int .u64 150]]).run Tryz.prog W
      = .ok (.agg #[.pointer (some ⟨5, 36, none⟩), .pointer (some p), .int .u64 386]) W := by
  rw [rlm]
  simp only [Sem.run_bind, rv_parts140, Result.andThen]
  simp [ReflectliteValue.elem, loadVar, isAgg, underlying, Tryz.underlying140, ha, Result.andThen, rv_elemOf140, rv_mk36]
theorem rv_elemV143 (a p : Addr) (W : World) (ha : W.cell? a = some (.pointer (some p))) :
    (ReflectliteValue.method (ReflectliteValue.valueError "reflectlite.Value.Elem" 0) ReflectliteValue.elem #[.agg #[.pointer (some ⟨5, 143, none⟩), .pointer (some a), .int .u64 150]]).run Tryz.prog W
      = .ok (.agg #[.pointer (some ⟨5, 142, none⟩), .pointer (some p), .int .u64 406]) W := by
  rw [rlm]
  simp only [Sem.run_bind, rv_parts143, Result.andThen]
  simp [ReflectliteValue.elem, loadVar, isAgg, underlying, Tryz.underlying143, ha, Result.andThen, rv_elemOf143, rv_mk142]
theorem rv_valueOf36 (e : Int) (w : World) : (ReflectliteValue.unpack (.iface 36 (.int .i64 e))).run Tryz.prog w
    = .ok (.agg #[.pointer (some ⟨5, 36, none⟩), .pointer (some ⟨w.heap.size, 0, none⟩), .int .u64 130]) (w.alloc (.cells #[.int .i64 e] 36)) := by kernel_rfl
theorem rv_valueOf142 (e : Addr) (w : World) : (ReflectliteValue.unpack (.iface 142 (.pointer (some e)))).run Tryz.prog w
    = .ok (.agg #[.pointer (some ⟨5, 142, none⟩), .pointer (some ⟨w.heap.size, 0, none⟩), .int .u64 150]) (w.alloc (.cells #[.pointer (some e)] 142)) := by kernel_rfl
theorem rls (v x : Value) : ReflectliteValue.set #[v, x] = (do
    let (some (dst, a, fl), some (src, b, _)) := (← ReflectliteValue.parts v, ← ReflectliteValue.parts x)
      | unsupported (.noEntry "extern/(internal/reflectlite.Value).Set.zeroValue")
    if fl / ReflectliteValue.flagAddr % 2 == 0 then unsupported (.noEntry "extern/(internal/reflectlite.Value).Set.unaddressable")
    let val ← loadVar src b
    if ← Rtype.directlyAssignable dst src then storeVar dst a val
    else if ← Rtype.implements dst src then
      if (← Rtype.kind src) == 20 then
        match val with
        | .nilIface => unsupported (.noEntry "extern/reflectlite: a nil value of one interface type handed on as a value of another")
        | _ => storeVar dst a val
      else storeVar dst a (.iface src val)
    else panicString ("reflectlite.Set: value of type " ++ (← Rtype.spelt src) ++ " is not assignable to type " ++ (← Rtype.spelt dst))
    pure (.tuple #[])) := rfl
theorem rv_parts36a (a : Addr) (w : World) : (ReflectliteValue.parts (.agg #[.pointer (some ⟨5, 36, none⟩), .pointer (some a), .int .u64 386])).run Tryz.prog w = .ok (some (36, a, 386)) w := by kernel_rfl
theorem rv_parts36 (a : Addr) (w : World) : (ReflectliteValue.parts (.agg #[.pointer (some ⟨5, 36, none⟩), .pointer (some a), .int .u64 130])).run Tryz.prog w = .ok (some (36, a, 130)) w := by kernel_rfl
theorem rv_parts142a (a : Addr) (w : World) : (ReflectliteValue.parts (.agg #[.pointer (some ⟨5, 142, none⟩), .pointer (some a), .int .u64 406])).run Tryz.prog w = .ok (some (142, a, 406)) w := by kernel_rfl
theorem rv_parts142 (a : Addr) (w : World) : (ReflectliteValue.parts (.agg #[.pointer (some ⟨5, 142, none⟩), .pointer (some a), .int .u64 150])).run Tryz.prog w = .ok (some (142, a, 150)) w := by kernel_rfl
theorem rv_direct36 (w : World) : (Rtype.directlyAssignable 36 36).run Tryz.prog w = .ok true w := by kernel_rfl
theorem rv_direct142 (w : World) : (Rtype.directlyAssignable 142 142).run Tryz.prog w = .ok true w := by kernel_rfl
theorem rv_set36 (ta b : Addr) (e : Int) (old : Value) (W : World) (hb : W.cell? b = some (.int .i64 e)) (ht : W.cell? ta = some old) (hf : W.frozen? ta = false) :
    (ReflectliteValue.set #[.agg #[.pointer (some ⟨5, 36, none⟩), .pointer (some ta), .int .u64 386], .agg #[.pointer (some ⟨5, 36, none⟩), .pointer (some b), .int .u64 130]]).run Tryz.prog W
      = .ok (.tuple #[]) (W.setCell ta (.int .i64 e)) := by
  rw [rls]
  simp only [Sem.run_bind, rv_parts36a, rv_parts36, Result.andThen]
  simp [ReflectliteValue.flagAddr, loadVar, isAgg, underlying, Tryz.underlying36, hb, Result.andThen, rv_direct36, storeVar, Value.cells, storeCells, Addr.add]
  rw [run_store Tryz.prog W ta _ _ (by rfl)]
  simp [ht, hf]
theorem rv_set142 (ta b e : Addr) (old : Value) (W : World) (hb : W.cell? b = some (.pointer (some e))) (ht : W.cell? ta = some old) (hf : W.frozen? ta = false) :
    (ReflectliteValue.set #[.agg #[.pointer (some ⟨5, 142, none⟩), .pointer (some ta), .int .u64 406], .agg #[.pointer (some ⟨5, 142, none⟩), .pointer (some b), .int .u64 150]]).run Tryz.prog W
      = .ok (.tuple #[]) (W.setCell ta (.pointer (some e))) := by
  rw [rls]
  simp only [Sem.run_bind, rv_parts142a, rv_parts142, Result.andThen]
  simp [ReflectliteValue.flagAddr, loadVar, isAgg, underlying, Tryz.underlying142, hb, Result.andThen, rv_direct142, storeVar, Value.cells, storeCells, Addr.add]
  rw [run_store Tryz.prog W ta _ _ (by rfl)]
  simp [ht, hf]
end Go.Proofs.YtdfknlhfdbbogaaGreatDoor

/-
  errors.As and errors.Is walked, at the program's own errors. Condition: errors.errorType holds what the library lays (cell 0).
-/
import Derived.Test.YtdfknlhfdbbogaaGreatDoorErrs
namespace Go.Proofs.YtdfknlhfdbbogaaGreatDoor
open Go.RowKit
open Go.Extern.Stop Go.Stop Go.Extern
set_option linter.unusedSimpArgs false
set_option linter.unusedVariables false
/-- errors.errorType as the library lays it. -/
def Et (w : World) : Prop := w.cell? ⟨0, 0, none⟩ = some (.iface 381 (.agg #[.pointer (some ⟨5, 45, none⟩)]))
theorem Et.below {w w1 : World} (h : Et w) (hb : Below w.heap.size w w1) : Et w1 := bkeep hb h
theorem as_nil (t : Value) (w : World) : Calls Tryz.prog 65 #[.nilIface, t] w fun e w' => e = .returned (.bool false) ∧ w' = w := by
  go_enter Tryz.func65, Tryz.ntmps65
  go_wp2
  go_ret
  exact ⟨rfl, rfl⟩
set_option maxRecDepth 100000 in
theorem rv_comparable36 (w : World) : ((ReflectliteType.method fun t => do Rtype.noPackHeld "Comparable" t; (fun a => Value.bool a.comparable) <$> typeInfo t) #[.agg #[.pointer (some ⟨5, 36, none⟩)]]).run Tryz.prog w = .ok (.bool true) w := by kernel_rfl
theorem eqInErr (d : Nat) (e : Int) (he : e ≠ 0) (w : World) : (Op.equalIn (d + 2) 45 (.iface 36 (.int .i64 e)) (.iface 36 (.int .i64 0))).run Tryz.prog w = .ok false w := by
  obtain ⟨i, hi, hcmp⟩ := Option.map_eq_some_iff.1 (show (Tryz.prog.info? 36).map (·.comparable) = some true by kernel_rfl)
  simp [Op.equalIn, run_underlying Tryz.underlying45, run_underlying Tryz.underlying36, typeInfo, hi, hcmp, he]
theorem eqErr (e : Int) (he : e ≠ 0) (w : World) : (binOp .eql 45 (.iface 36 (.int .i64 e)) (.iface 36 (.int .i64 0))).run Tryz.prog w = .ok (.bool false) w := by
  simp only [binOp]
  simp [Op.equal, Op.maxDepth, eqInErr 9998 e he w]
theorem noAs36 (v : Value) (xT : TypeId) (w : World) : (Instr.typeAssert (.iface 36 v) xT 385 true).run Tryz.prog w = .ok (.tuple #[.nilIface, .bool false]) w := run_typeAssert_lacksB Tryz.underlying385 (by kernel_rfl) (by kernel_rfl) v xT w
theorem noIs36 (v : Value) (xT : TypeId) (w : World) : (Instr.typeAssert (.iface 36 v) xT 391 true).run Tryz.prog w = .ok (.tuple #[.nilIface, .bool false]) w := run_typeAssert_lacksB Tryz.underlying391 (by kernel_rfl) (by kernel_rfl) v xT w
theorem noAs142 (v : Value) (xT : TypeId) (w : World) : (Instr.typeAssert (.iface 142 v) xT 385 true).run Tryz.prog w = .ok (.tuple #[.nilIface, .bool false]) w := run_typeAssert_lacksB Tryz.underlying385 (by kernel_rfl) (by kernel_rfl) v xT w
theorem noIs142 (v : Value) (xT : TypeId) (w : World) : (Instr.typeAssert (.iface 142 v) xT 391 true).run Tryz.prog w = .ok (.tuple #[.nilIface, .bool false]) w := run_typeAssert_lacksB Tryz.underlying391 (by kernel_rfl) (by kernel_rfl) v xT w
theorem noUnwrap36 (v : Value) (xT : TypeId) (w : World) : (Instr.typeAssert (.iface 36 v) xT 388 true).run Tryz.prog w = .ok (.tuple #[.nilIface, .bool false]) w := run_typeAssert_lacksB Tryz.underlying388 (by kernel_rfl) (by kernel_rfl) v xT w
theorem noUnwraps36 (v : Value) (xT : TypeId) (w : World) : (Instr.typeAssert (.iface 36 v) xT 389 true).run Tryz.prog w = .ok (.tuple #[.nilIface, .bool false]) w := run_typeAssert_lacksB Tryz.underlying389 (by kernel_rfl) (by kernel_rfl) v xT w
theorem hasUnwrap142 (v : Value) (xT : TypeId) (w : World) : (Instr.typeAssert (.iface 142 v) xT 388 true).run Tryz.prog w = .ok (.tuple #[.iface 142 v, .bool true]) w := run_typeAssert_hasB Tryz.underlying388 (by kernel_rfl) v xT w
set_option maxRecDepth 100000 in
set_option maxHeartbeats 4000000 in
theorem as_num (e : Int) (t : Addr) (old : Value) (w : World) (hg : Et w) (ht0 : w.cell? t = some old) (hf0 : w.frozen? t = false) :
    Calls Tryz.prog 65 #[.iface 36 (.int .i64 e), .iface 140 (.pointer (some t))] w fun ev w' => ev = .returned (.bool true) ∧ ∃ W, Below w.heap.size w W ∧ w' = W.setCell t (.int .i64 e) := by
  have h144 := @run_callFunc_extern Tryz.prog 144 _ (fun args => ReflectliteValue.unpack (args.getD 0 (.tuple #[]))) Tryz.func144 (by kernel_rfl) (by kernel_rfl) (by kernel_rfl) (by kernel_rfl)
  have h145 := @run_callFunc_extern Tryz.prog 145 _ (ReflectliteValue.methodAny (ReflectliteValue.valueError "reflectlite.Value.Type" 0) (fun t _ _ _ => ReflectliteType.toType t)) Tryz.func145 (by kernel_rfl) (by kernel_rfl) (by kernel_rfl) (by kernel_rfl)
  have h146 := @run_callFunc_extern Tryz.prog 146 _ (ReflectliteValue.method (ReflectliteValue.valueError "reflectlite.Value.IsNil" 0) ReflectliteValue.isNil) Tryz.func146 (by kernel_rfl) (by kernel_rfl) (by kernel_rfl) (by kernel_rfl)
  have h390 := @run_callFunc_extern Tryz.prog 390 _ (ReflectliteType.abiMethod fun t => do pure (.int .u8 (← Rtype.kind t))) Tryz.func390 (by kernel_rfl) (by kernel_rfl) (by kernel_rfl) (by kernel_rfl)
  have h403 := @run_callFunc_extern Tryz.prog 403 _ (ReflectliteType.method ReflectliteType.elem) Tryz.func403 (by kernel_rfl) (by kernel_rfl) (by kernel_rfl) (by kernel_rfl)
  have h404 := @run_callFunc_extern Tryz.prog 404 _ (ReflectliteType.relation "Implements" ReflectliteType.implements_) Tryz.func404 (by kernel_rfl) (by kernel_rfl) (by kernel_rfl) (by kernel_rfl)
  have h148 := @run_callFunc_extern Tryz.prog 148 _ ReflectliteType.typeOf Tryz.func148 (by kernel_rfl) (by kernel_rfl) (by kernel_rfl) (by kernel_rfl)
  have h401 := @run_callFunc_extern Tryz.prog 401 _ (ReflectliteType.relation "AssignableTo" ReflectliteType.assignableTo) Tryz.func401 (by kernel_rfl) (by kernel_rfl) (by kernel_rfl) (by kernel_rfl)
  have h249 := @run_callFunc_extern Tryz.prog 249 _ (ReflectliteValue.method (ReflectliteValue.valueError "reflectlite.Value.Elem" 0) ReflectliteValue.elem) Tryz.func249 (by kernel_rfl) (by kernel_rfl) (by kernel_rfl) (by kernel_rfl)
  have h250 := @run_callFunc_extern Tryz.prog 250 _ ReflectliteValue.set Tryz.func250 (by kernel_rfl) (by kernel_rfl) (by kernel_rfl) (by kernel_rfl)
  have g_rv_typeOf := rv_typeOf
  have g_rv_methodAssignableTo := rv_methodAssignableTo
  have g_rv_assign36_36 := rv_assign36_36
  have g_rv_assign142_36 := rv_assign142_36
  have g_rv_assign36_142 := rv_assign36_142
  have g_rv_assign142_142 := rv_assign142_142
  have g_rv_valueOf36 := rv_valueOf36
  have g_rv_valueOf142 := rv_valueOf142
  have g_rv_valueOf140 := rv_valueOf140
  have g_rv_type140 := rv_type140
  have g_rv_methodKind := rv_methodKind
  have g_rv_methodElem := rv_methodElem
  have g_rv_methodImplements := rv_methodImplements
  have g_rv_kind140 := rv_kind140
  have g_rv_kind36 := rv_kind36
  have g_rv_elem140 := rv_elem140
  have g_rv_implements36 := rv_implements36
  have g_rv_methodUnwrap := rv_methodUnwrap
  have g_noAs36 := noAs36
  have g_noAs142 := noAs142
  have g_noUnwrap36 := noUnwrap36
  have g_noUnwraps36 := noUnwraps36
  have g_hasUnwrap142 := hasUnwrap142
  have n8 := rv_isNil140 ⟨w.heap.size, 0, none⟩ t ((w.alloc (.cells #[.pointer (some t)] 140)).alloc (.cells #[.pointer (some ⟨5, 140, none⟩), .pointer (some ⟨w.heap.size, 0, none⟩), .int .u64 150] 269)) (by simp)
  have hlt : 0 < w.heap.size := World.block_lt_of_cell? w _ hg
  have hg2 : ((w.alloc (.cells #[.pointer (some t)] 140)).alloc (.cells #[.pointer (some ⟨5, 140, none⟩), .pointer (some ⟨w.heap.size, 0, none⟩), .int .u64 150] 269)).cell? ⟨0, 0, none⟩ = some (.iface 381 (.agg #[.pointer (some ⟨5, 45, none⟩)])) := Et.below hg (by repeat (first | assumption | exact Below.refl _ _ | with_reducible refine bset ?_ (by simp) _ | with_reducible refine balloc ?_ _ | with_reducible refine bdrew ?_ | with_reducible refine bdrewN ?_ _ | with_reducible refine bstep ?_ (by assumption)))
  have htl : t.block < w.heap.size := World.block_lt_of_cell? w t ht0
  have el := rv_elemV140 ⟨w.heap.size, 0, none⟩ t (((w.alloc (.cells #[.pointer (some t)] 140)).alloc (.cells #[.pointer (some ⟨5, 140, none⟩), .pointer (some ⟨w.heap.size, 0, none⟩), .int .u64 150] 269)).alloc (.cells #[.pointer (some ⟨5, 140, none⟩), .pointer (some ⟨w.heap.size, 0, none⟩), .int .u64 150] 269)) (by rw [World.cell?_alloc_lt _ _ ⟨w.heap.size, 0, none⟩ (by simp; omega)]; simp)
  have st := rv_set36 t ⟨w.heap.size + 1 + 1 + 1, 0, none⟩ e old ((((w.alloc (.cells #[.pointer (some t)] 140)).alloc (.cells #[.pointer (some ⟨5, 140, none⟩), .pointer (some ⟨w.heap.size, 0, none⟩), .int .u64 150] 269)).alloc (.cells #[.pointer (some ⟨5, 140, none⟩), .pointer (some ⟨w.heap.size, 0, none⟩), .int .u64 150] 269)).alloc (.cells #[.int .i64 e] 36)) (by rw [World.cell?_alloc_at _ _ _ _ (by simp)]; rfl) (bkeep (by repeat (first | assumption | exact Below.refl _ _ | with_reducible refine bset ?_ (by simp) _ | with_reducible refine balloc ?_ _ | with_reducible refine bdrew ?_ | with_reducible refine bdrewN ?_ _ | with_reducible refine bstep ?_ (by assumption))) ht0) (bkeepF (by repeat (first | assumption | exact Below.refl _ _ | with_reducible refine bset ?_ (by simp) _ | with_reducible refine balloc ?_ _ | with_reducible refine bdrew ?_ | with_reducible refine bdrewN ?_ _ | with_reducible refine bstep ?_ (by assumption))) ht0 hf0)
  clear hg ht0 hf0
  go_enter Tryz.func65, Tryz.ntmps65
  go_wp2
  refine wp_loop_rounds 1 ?_
  rw [rounds_succ]
  go_wp2
  go_ret
  exact ⟨rfl, _, (by repeat (first | assumption | exact Below.refl _ _ | with_reducible refine bset ?_ (by simp) _ | with_reducible refine balloc ?_ _ | with_reducible refine bdrew ?_ | with_reducible refine bdrewN ?_ _ | with_reducible refine bstep ?_ (by assumption))), rfl⟩
set_option maxRecDepth 100000 in
set_option maxHeartbeats 4000000 in
theorem as_wrap (e : Int) (s : ByteArray) (b : Nat) (t : Addr) (old : Value) (w : World) (hg : Et w) (ht0 : w.cell? t = some old) (hf0 : w.frozen? t = false) (hc0 : w.cell? ⟨b, 0, none⟩ = some (.string s)) (hc1 : w.cell? ⟨b, 1, none⟩ = some (.iface 36 (.int .i64 e))) :
    Calls Tryz.prog 65 #[.iface 142 (.pointer (some ⟨b, 0, none⟩)), .iface 140 (.pointer (some t))] w fun ev w' => ev = .returned (.bool true) ∧ ∃ W, Below w.heap.size w W ∧ w' = W.setCell t (.int .i64 e) := by
  have h144 := @run_callFunc_extern Tryz.prog 144 _ (fun args => ReflectliteValue.unpack (args.getD 0 (.tuple #[]))) Tryz.func144 (by kernel_rfl) (by kernel_rfl) (by kernel_rfl) (by kernel_rfl)
  have h145 := @run_callFunc_extern Tryz.prog 145 _ (ReflectliteValue.methodAny (ReflectliteValue.valueError "reflectlite.Value.Type" 0) (fun t _ _ _ => ReflectliteType.toType t)) Tryz.func145 (by kernel_rfl) (by kernel_rfl) (by kernel_rfl) (by kernel_rfl)
  have h146 := @run_callFunc_extern Tryz.prog 146 _ (ReflectliteValue.method (ReflectliteValue.valueError "reflectlite.Value.IsNil" 0) ReflectliteValue.isNil) Tryz.func146 (by kernel_rfl) (by kernel_rfl) (by kernel_rfl) (by kernel_rfl)
  have h390 := @run_callFunc_extern Tryz.prog 390 _ (ReflectliteType.abiMethod fun t => do pure (.int .u8 (← Rtype.kind t))) Tryz.func390 (by kernel_rfl) (by kernel_rfl) (by kernel_rfl) (by kernel_rfl)
  have h403 := @run_callFunc_extern Tryz.prog 403 _ (ReflectliteType.method ReflectliteType.elem) Tryz.func403 (by kernel_rfl) (by kernel_rfl) (by kernel_rfl) (by kernel_rfl)
  have h404 := @run_callFunc_extern Tryz.prog 404 _ (ReflectliteType.relation "Implements" ReflectliteType.implements_) Tryz.func404 (by kernel_rfl) (by kernel_rfl) (by kernel_rfl) (by kernel_rfl)
  have h148 := @run_callFunc_extern Tryz.prog 148 _ ReflectliteType.typeOf Tryz.func148 (by kernel_rfl) (by kernel_rfl) (by kernel_rfl) (by kernel_rfl)
  have h401 := @run_callFunc_extern Tryz.prog 401 _ (ReflectliteType.relation "AssignableTo" ReflectliteType.assignableTo) Tryz.func401 (by kernel_rfl) (by kernel_rfl) (by kernel_rfl) (by kernel_rfl)
  have h249 := @run_callFunc_extern Tryz.prog 249 _ (ReflectliteValue.method (ReflectliteValue.valueError "reflectlite.Value.Elem" 0) ReflectliteValue.elem) Tryz.func249 (by kernel_rfl) (by kernel_rfl) (by kernel_rfl) (by kernel_rfl)
  have h250 := @run_callFunc_extern Tryz.prog 250 _ ReflectliteValue.set Tryz.func250 (by kernel_rfl) (by kernel_rfl) (by kernel_rfl) (by kernel_rfl)
  have g_rv_typeOf := rv_typeOf
  have g_rv_methodAssignableTo := rv_methodAssignableTo
  have g_rv_assign36_36 := rv_assign36_36
  have g_rv_assign142_36 := rv_assign142_36
  have g_rv_assign36_142 := rv_assign36_142
  have g_rv_assign142_142 := rv_assign142_142
  have g_rv_valueOf36 := rv_valueOf36
  have g_rv_valueOf142 := rv_valueOf142
  have g_rv_valueOf140 := rv_valueOf140
  have g_rv_type140 := rv_type140
  have g_rv_methodKind := rv_methodKind
  have g_rv_methodElem := rv_methodElem
  have g_rv_methodImplements := rv_methodImplements
  have g_rv_kind140 := rv_kind140
  have g_rv_kind36 := rv_kind36
  have g_rv_elem140 := rv_elem140
  have g_rv_implements36 := rv_implements36
  have g_rv_methodUnwrap := rv_methodUnwrap
  have g_noAs36 := noAs36
  have g_noAs142 := noAs142
  have g_noUnwrap36 := noUnwrap36
  have g_noUnwraps36 := noUnwraps36
  have g_hasUnwrap142 := hasUnwrap142
  have n8 := rv_isNil140 ⟨w.heap.size, 0, none⟩ t ((w.alloc (.cells #[.pointer (some t)] 140)).alloc (.cells #[.pointer (some ⟨5, 140, none⟩), .pointer (some ⟨w.heap.size, 0, none⟩), .int .u64 150] 269)) (by simp)
  have hlt : 0 < w.heap.size := World.block_lt_of_cell? w _ hg
  have hg2 : ((w.alloc (.cells #[.pointer (some t)] 140)).alloc (.cells #[.pointer (some ⟨5, 140, none⟩), .pointer (some ⟨w.heap.size, 0, none⟩), .int .u64 150] 269)).cell? ⟨0, 0, none⟩ = some (.iface 381 (.agg #[.pointer (some ⟨5, 45, none⟩)])) := Et.below hg (by repeat (first | assumption | exact Below.refl _ _ | with_reducible refine bset ?_ (by simp) _ | with_reducible refine balloc ?_ _ | with_reducible refine bdrew ?_ | with_reducible refine bdrewN ?_ _ | with_reducible refine bstep ?_ (by assumption)))
  have htl : t.block < w.heap.size := World.block_lt_of_cell? w t ht0
  have el := rv_elemV140 ⟨w.heap.size, 0, none⟩ t (((w.alloc (.cells #[.pointer (some t)] 140)).alloc (.cells #[.pointer (some ⟨5, 140, none⟩), .pointer (some ⟨w.heap.size, 0, none⟩), .int .u64 150] 269)).alloc (.cells #[.pointer (some ⟨5, 140, none⟩), .pointer (some ⟨w.heap.size, 0, none⟩), .int .u64 150] 269)) (by rw [World.cell?_alloc_lt _ _ ⟨w.heap.size, 0, none⟩ (by simp; omega)]; simp)
  have st := rv_set36 t ⟨w.heap.size + 1 + 1 + 1, 0, none⟩ e old ((((w.alloc (.cells #[.pointer (some t)] 140)).alloc (.cells #[.pointer (some ⟨5, 140, none⟩), .pointer (some ⟨w.heap.size, 0, none⟩), .int .u64 150] 269)).alloc (.cells #[.pointer (some ⟨5, 140, none⟩), .pointer (some ⟨w.heap.size, 0, none⟩), .int .u64 150] 269)).alloc (.cells #[.int .i64 e] 36)) (by rw [World.cell?_alloc_at _ _ _ _ (by simp)]; rfl) (bkeep (by repeat (first | assumption | exact Below.refl _ _ | with_reducible refine bset ?_ (by simp) _ | with_reducible refine balloc ?_ _ | with_reducible refine bdrew ?_ | with_reducible refine bdrewN ?_ _ | with_reducible refine bstep ?_ (by assumption))) ht0) (bkeepF (by repeat (first | assumption | exact Below.refl _ _ | with_reducible refine bset ?_ (by simp) _ | with_reducible refine balloc ?_ _ | with_reducible refine bdrew ?_ | with_reducible refine bdrewN ?_ _ | with_reducible refine bstep ?_ (by assumption))) ht0 hf0)
  have c0 : (((w.alloc (.cells #[.pointer (some t)] 140)).alloc (.cells #[.pointer (some ⟨5, 140, none⟩), .pointer (some ⟨w.heap.size, 0, none⟩), .int .u64 150] 269)).alloc (.cells #[.pointer (some ⟨5, 140, none⟩), .pointer (some ⟨w.heap.size, 0, none⟩), .int .u64 150] 269)).cell? ⟨b, 0, none⟩ = _ := bkeep (by repeat (first | assumption | exact Below.refl _ _ | with_reducible refine bset ?_ (by simp) _ | with_reducible refine balloc ?_ _ | with_reducible refine bdrew ?_ | with_reducible refine bdrewN ?_ _ | with_reducible refine bstep ?_ (by assumption))) hc0
  have c1 : (((w.alloc (.cells #[.pointer (some t)] 140)).alloc (.cells #[.pointer (some ⟨5, 140, none⟩), .pointer (some ⟨w.heap.size, 0, none⟩), .int .u64 150] 269)).alloc (.cells #[.pointer (some ⟨5, 140, none⟩), .pointer (some ⟨w.heap.size, 0, none⟩), .int .u64 150] 269)).cell? ⟨b, 1, none⟩ = _ := bkeep (by repeat (first | assumption | exact Below.refl _ _ | with_reducible refine bset ?_ (by simp) _ | with_reducible refine balloc ?_ _ | with_reducible refine bdrew ?_ | with_reducible refine bdrewN ?_ _ | with_reducible refine bstep ?_ (by assumption))) hc1
  have hbl : b < w.heap.size := World.block_lt_of_cell? w _ hc0
  clear hc0 hc1
  clear hg ht0 hf0
  go_enter Tryz.func65, Tryz.ntmps65
  go_wp2
  refine wp_loop_rounds 2 ?_
  rw [rounds_succ]
  go_wp2
  rw [rounds_succ]
  go_wp2
  go_ret
  exact ⟨rfl, _, (by repeat (first | assumption | exact Below.refl _ _ | with_reducible refine bset ?_ (by simp) _ | with_reducible refine balloc ?_ _ | with_reducible refine bdrew ?_ | with_reducible refine bdrewN ?_ _ | with_reducible refine bstep ?_ (by assumption))), rfl⟩
set_option maxRecDepth 100000 in
set_option maxHeartbeats 4000000 in
theorem as_path (b : Nat) (t : Addr) (old : Value) (w : World) (hg : Et w) (ht0 : w.cell? t = some old) (hf0 : w.frozen? t = false) :
    Calls Tryz.prog 65 #[.iface 142 (.pointer (some ⟨b, 0, none⟩)), .iface 143 (.pointer (some t))] w fun ev w' => ev = .returned (.bool true) ∧ ∃ W, Below w.heap.size w W ∧ w' = W.setCell t (.pointer (some ⟨b, 0, none⟩)) := by
  have h144 := @run_callFunc_extern Tryz.prog 144 _ (fun args => ReflectliteValue.unpack (args.getD 0 (.tuple #[]))) Tryz.func144 (by kernel_rfl) (by kernel_rfl) (by kernel_rfl) (by kernel_rfl)
  have h145 := @run_callFunc_extern Tryz.prog 145 _ (ReflectliteValue.methodAny (ReflectliteValue.valueError "reflectlite.Value.Type" 0) (fun t _ _ _ => ReflectliteType.toType t)) Tryz.func145 (by kernel_rfl) (by kernel_rfl) (by kernel_rfl) (by kernel_rfl)
  have h146 := @run_callFunc_extern Tryz.prog 146 _ (ReflectliteValue.method (ReflectliteValue.valueError "reflectlite.Value.IsNil" 0) ReflectliteValue.isNil) Tryz.func146 (by kernel_rfl) (by kernel_rfl) (by kernel_rfl) (by kernel_rfl)
  have h390 := @run_callFunc_extern Tryz.prog 390 _ (ReflectliteType.abiMethod fun t => do pure (.int .u8 (← Rtype.kind t))) Tryz.func390 (by kernel_rfl) (by kernel_rfl) (by kernel_rfl) (by kernel_rfl)
  have h403 := @run_callFunc_extern Tryz.prog 403 _ (ReflectliteType.method ReflectliteType.elem) Tryz.func403 (by kernel_rfl) (by kernel_rfl) (by kernel_rfl) (by kernel_rfl)
  have h404 := @run_callFunc_extern Tryz.prog 404 _ (ReflectliteType.relation "Implements" ReflectliteType.implements_) Tryz.func404 (by kernel_rfl) (by kernel_rfl) (by kernel_rfl) (by kernel_rfl)
  have h148 := @run_callFunc_extern Tryz.prog 148 _ ReflectliteType.typeOf Tryz.func148 (by kernel_rfl) (by kernel_rfl) (by kernel_rfl) (by kernel_rfl)
  have h401 := @run_callFunc_extern Tryz.prog 401 _ (ReflectliteType.relation "AssignableTo" ReflectliteType.assignableTo) Tryz.func401 (by kernel_rfl) (by kernel_rfl) (by kernel_rfl) (by kernel_rfl)
  have h249 := @run_callFunc_extern Tryz.prog 249 _ (ReflectliteValue.method (ReflectliteValue.valueError "reflectlite.Value.Elem" 0) ReflectliteValue.elem) Tryz.func249 (by kernel_rfl) (by kernel_rfl) (by kernel_rfl) (by kernel_rfl)
  have h250 := @run_callFunc_extern Tryz.prog 250 _ ReflectliteValue.set Tryz.func250 (by kernel_rfl) (by kernel_rfl) (by kernel_rfl) (by kernel_rfl)
  have g_rv_typeOf := rv_typeOf
  have g_rv_methodAssignableTo := rv_methodAssignableTo
  have g_rv_assign36_36 := rv_assign36_36
  have g_rv_assign142_36 := rv_assign142_36
  have g_rv_assign36_142 := rv_assign36_142
  have g_rv_assign142_142 := rv_assign142_142
  have g_rv_valueOf36 := rv_valueOf36
  have g_rv_valueOf142 := rv_valueOf142
  have g_rv_valueOf143 := rv_valueOf143
  have g_rv_type143 := rv_type143
  have g_rv_methodKind := rv_methodKind
  have g_rv_methodElem := rv_methodElem
  have g_rv_methodImplements := rv_methodImplements
  have g_rv_kind143 := rv_kind143
  have g_rv_kind142 := rv_kind142
  have g_rv_elem143 := rv_elem143
  have g_rv_implements142 := rv_implements142
  have g_rv_methodUnwrap := rv_methodUnwrap
  have g_noAs36 := noAs36
  have g_noAs142 := noAs142
  have g_noUnwrap36 := noUnwrap36
  have g_noUnwraps36 := noUnwraps36
  have g_hasUnwrap142 := hasUnwrap142
  have n8 := rv_isNil143 ⟨w.heap.size, 0, none⟩ t ((w.alloc (.cells #[.pointer (some t)] 143)).alloc (.cells #[.pointer (some ⟨5, 143, none⟩), .pointer (some ⟨w.heap.size, 0, none⟩), .int .u64 150] 269)) (by simp)
  have hlt : 0 < w.heap.size := World.block_lt_of_cell? w _ hg
  have hg2 : ((w.alloc (.cells #[.pointer (some t)] 143)).alloc (.cells #[.pointer (some ⟨5, 143, none⟩), .pointer (some ⟨w.heap.size, 0, none⟩), .int .u64 150] 269)).cell? ⟨0, 0, none⟩ = some (.iface 381 (.agg #[.pointer (some ⟨5, 45, none⟩)])) := Et.below hg (by repeat (first | assumption | exact Below.refl _ _ | with_reducible refine bset ?_ (by simp) _ | with_reducible refine balloc ?_ _ | with_reducible refine bdrew ?_ | with_reducible refine bdrewN ?_ _ | with_reducible refine bstep ?_ (by assumption)))
  have htl : t.block < w.heap.size := World.block_lt_of_cell? w t ht0
  have el := rv_elemV143 ⟨w.heap.size, 0, none⟩ t (((w.alloc (.cells #[.pointer (some t)] 143)).alloc (.cells #[.pointer (some ⟨5, 143, none⟩), .pointer (some ⟨w.heap.size, 0, none⟩), .int .u64 150] 269)).alloc (.cells #[.pointer (some ⟨5, 143, none⟩), .pointer (some ⟨w.heap.size, 0, none⟩), .int .u64 150] 269)) (by rw [World.cell?_alloc_lt _ _ ⟨w.heap.size, 0, none⟩ (by simp; omega)]; simp)
  have st := rv_set142 t ⟨w.heap.size + 1 + 1 + 1, 0, none⟩ ⟨b, 0, none⟩ old ((((w.alloc (.cells #[.pointer (some t)] 143)).alloc (.cells #[.pointer (some ⟨5, 143, none⟩), .pointer (some ⟨w.heap.size, 0, none⟩), .int .u64 150] 269)).alloc (.cells #[.pointer (some ⟨5, 143, none⟩), .pointer (some ⟨w.heap.size, 0, none⟩), .int .u64 150] 269)).alloc (.cells #[.pointer (some ⟨b, 0, none⟩)] 142)) (by rw [World.cell?_alloc_at _ _ _ _ (by simp)]; rfl) (bkeep (by repeat (first | assumption | exact Below.refl _ _ | with_reducible refine bset ?_ (by simp) _ | with_reducible refine balloc ?_ _ | with_reducible refine bdrew ?_ | with_reducible refine bdrewN ?_ _ | with_reducible refine bstep ?_ (by assumption))) ht0) (bkeepF (by repeat (first | assumption | exact Below.refl _ _ | with_reducible refine bset ?_ (by simp) _ | with_reducible refine balloc ?_ _ | with_reducible refine bdrew ?_ | with_reducible refine bdrewN ?_ _ | with_reducible refine bstep ?_ (by assumption))) ht0 hf0)
  clear hg ht0 hf0
  go_enter Tryz.func65, Tryz.ntmps65
  go_wp2
  refine wp_loop_rounds 1 ?_
  rw [rounds_succ]
  go_wp2
  go_ret
  exact ⟨rfl, _, (by repeat (first | assumption | exact Below.refl _ _ | with_reducible refine bset ?_ (by simp) _ | with_reducible refine balloc ?_ _ | with_reducible refine bdrew ?_ | with_reducible refine bdrewN ?_ _ | with_reducible refine bstep ?_ (by assumption))), rfl⟩
set_option maxRecDepth 100000 in
set_option maxHeartbeats 4000000 in
theorem as_not (e : Int) (t : Addr) (old : Value) (w : World) (hg : Et w) (ht0 : w.cell? t = some old) (hf0 : w.frozen? t = false) :
    Calls Tryz.prog 65 #[.iface 36 (.int .i64 e), .iface 143 (.pointer (some t))] w fun ev w' => ev = .returned (.bool false) ∧ Below w.heap.size w w' := by
  have h144 := @run_callFunc_extern Tryz.prog 144 _ (fun args => ReflectliteValue.unpack (args.getD 0 (.tuple #[]))) Tryz.func144 (by kernel_rfl) (by kernel_rfl) (by kernel_rfl) (by kernel_rfl)
  have h145 := @run_callFunc_extern Tryz.prog 145 _ (ReflectliteValue.methodAny (ReflectliteValue.valueError "reflectlite.Value.Type" 0) (fun t _ _ _ => ReflectliteType.toType t)) Tryz.func145 (by kernel_rfl) (by kernel_rfl) (by kernel_rfl) (by kernel_rfl)
  have h146 := @run_callFunc_extern Tryz.prog 146 _ (ReflectliteValue.method (ReflectliteValue.valueError "reflectlite.Value.IsNil" 0) ReflectliteValue.isNil) Tryz.func146 (by kernel_rfl) (by kernel_rfl) (by kernel_rfl) (by kernel_rfl)
  have h390 := @run_callFunc_extern Tryz.prog 390 _ (ReflectliteType.abiMethod fun t => do pure (.int .u8 (← Rtype.kind t))) Tryz.func390 (by kernel_rfl) (by kernel_rfl) (by kernel_rfl) (by kernel_rfl)
  have h403 := @run_callFunc_extern Tryz.prog 403 _ (ReflectliteType.method ReflectliteType.elem) Tryz.func403 (by kernel_rfl) (by kernel_rfl) (by kernel_rfl) (by kernel_rfl)
  have h404 := @run_callFunc_extern Tryz.prog 404 _ (ReflectliteType.relation "Implements" ReflectliteType.implements_) Tryz.func404 (by kernel_rfl) (by kernel_rfl) (by kernel_rfl) (by kernel_rfl)
  have h148 := @run_callFunc_extern Tryz.prog 148 _ ReflectliteType.typeOf Tryz.func148 (by kernel_rfl) (by kernel_rfl) (by kernel_rfl) (by kernel_rfl)
  have h401 := @run_callFunc_extern Tryz.prog 401 _ (ReflectliteType.relation "AssignableTo" ReflectliteType.assignableTo) Tryz.func401 (by kernel_rfl) (by kernel_rfl) (by kernel_rfl) (by kernel_rfl)
  have h249 := @run_callFunc_extern Tryz.prog 249 _ (ReflectliteValue.method (ReflectliteValue.valueError "reflectlite.Value.Elem" 0) ReflectliteValue.elem) Tryz.func249 (by kernel_rfl) (by kernel_rfl) (by kernel_rfl) (by kernel_rfl)
  have h250 := @run_callFunc_extern Tryz.prog 250 _ ReflectliteValue.set Tryz.func250 (by kernel_rfl) (by kernel_rfl) (by kernel_rfl) (by kernel_rfl)
  have g_rv_typeOf := rv_typeOf
  have g_rv_methodAssignableTo := rv_methodAssignableTo
  have g_rv_assign36_36 := rv_assign36_36
  have g_rv_assign142_36 := rv_assign142_36
  have g_rv_assign36_142 := rv_assign36_142
  have g_rv_assign142_142 := rv_assign142_142
  have g_rv_valueOf36 := rv_valueOf36
  have g_rv_valueOf142 := rv_valueOf142
  have g_rv_valueOf143 := rv_valueOf143
  have g_rv_type143 := rv_type143
  have g_rv_methodKind := rv_methodKind
  have g_rv_methodElem := rv_methodElem
  have g_rv_methodImplements := rv_methodImplements
  have g_rv_kind143 := rv_kind143
  have g_rv_kind142 := rv_kind142
  have g_rv_elem143 := rv_elem143
  have g_rv_implements142 := rv_implements142
  have g_rv_methodUnwrap := rv_methodUnwrap
  have g_noAs36 := noAs36
  have g_noAs142 := noAs142
  have g_noUnwrap36 := noUnwrap36
  have g_noUnwraps36 := noUnwraps36
  have g_hasUnwrap142 := hasUnwrap142
  have n8 := rv_isNil143 ⟨w.heap.size, 0, none⟩ t ((w.alloc (.cells #[.pointer (some t)] 143)).alloc (.cells #[.pointer (some ⟨5, 143, none⟩), .pointer (some ⟨w.heap.size, 0, none⟩), .int .u64 150] 269)) (by simp)
  have hlt : 0 < w.heap.size := World.block_lt_of_cell? w _ hg
  have hg2 : ((w.alloc (.cells #[.pointer (some t)] 143)).alloc (.cells #[.pointer (some ⟨5, 143, none⟩), .pointer (some ⟨w.heap.size, 0, none⟩), .int .u64 150] 269)).cell? ⟨0, 0, none⟩ = some (.iface 381 (.agg #[.pointer (some ⟨5, 45, none⟩)])) := Et.below hg (by repeat (first | assumption | exact Below.refl _ _ | with_reducible refine bset ?_ (by simp) _ | with_reducible refine balloc ?_ _ | with_reducible refine bdrew ?_ | with_reducible refine bdrewN ?_ _ | with_reducible refine bstep ?_ (by assumption)))
  have htl : t.block < w.heap.size := World.block_lt_of_cell? w t ht0
  clear hg ht0 hf0
  go_enter Tryz.func65, Tryz.ntmps65
  go_wp2
  refine wp_loop_rounds 1 ?_
  rw [rounds_succ]
  go_wp2
  go_ret
  exact ⟨rfl, (by repeat (first | assumption | exact Below.refl _ _ | with_reducible refine bset ?_ (by simp) _ | with_reducible refine balloc ?_ _ | with_reducible refine bdrew ?_ | with_reducible refine bdrewN ?_ _ | with_reducible refine bstep ?_ (by assumption)))⟩
set_option maxRecDepth 100000 in
set_option maxHeartbeats 4000000 in
theorem is_num (e : Int) (he : e ≠ 0) (w : World) :
    Calls Tryz.prog 66 #[.iface 36 (.int .i64 e), .iface 36 (.int .i64 0)] w fun ev w' => ev = .returned (.bool false) ∧ Below w.heap.size w w' := by
  have h148 := @run_callFunc_extern Tryz.prog 148 _ ReflectliteType.typeOf Tryz.func148 (by kernel_rfl) (by kernel_rfl) (by kernel_rfl) (by kernel_rfl)
  have h402 := @run_callFunc_extern Tryz.prog 402 _ (ReflectliteType.method fun t => do Rtype.noPackHeld "Comparable" t; pure (.bool (← typeInfo t).comparable)) Tryz.func402 (by kernel_rfl) (by kernel_rfl) (by kernel_rfl) (by kernel_rfl)
  have g_rv_typeOf := rv_typeOf
  have g_rv_methodComparable := rv_methodComparable
  have g_rv_comparable36 := rv_comparable36
  have g_rv_methodUnwrap := rv_methodUnwrap
  have g_noIs36 := noIs36
  have g_noIs142 := noIs142
  have g_noUnwrap36 := noUnwrap36
  have g_noUnwraps36 := noUnwraps36
  have g_hasUnwrap142 := hasUnwrap142
  have q1 := fun (v1 v2 : Value) (w : World) => run_eql_iface_types (P := Tryz.prog) 142 36 v1 v2 Tryz.underlying45 (by decide) w
  have q2 := fun (w : World) => eqErr e he w
  clear he
  go_enter Tryz.func66, Tryz.ntmps66
  go_wp2
  refine wp_loop_rounds 1 ?_
  rw [rounds_succ]
  go_wp2
  go_ret
  exact ⟨rfl, (by repeat (first | assumption | exact Below.refl _ _ | with_reducible refine bset ?_ (by simp) _ | with_reducible refine balloc ?_ _ | with_reducible refine bdrew ?_ | with_reducible refine bdrewN ?_ _ | with_reducible refine bstep ?_ (by assumption)))⟩
set_option maxRecDepth 100000 in
set_option maxHeartbeats 4000000 in
theorem is_wrap (e : Int) (he : e ≠ 0) (s : ByteArray) (b : Nat) (w : World) (hc0 : w.cell? ⟨b, 0, none⟩ = some (.string s)) (hc1 : w.cell? ⟨b, 1, none⟩ = some (.iface 36 (.int .i64 e))) :
    Calls Tryz.prog 66 #[.iface 142 (.pointer (some ⟨b, 0, none⟩)), .iface 36 (.int .i64 0)] w fun ev w' => ev = .returned (.bool false) ∧ Below w.heap.size w w' := by
  have h148 := @run_callFunc_extern Tryz.prog 148 _ ReflectliteType.typeOf Tryz.func148 (by kernel_rfl) (by kernel_rfl) (by kernel_rfl) (by kernel_rfl)
  have h402 := @run_callFunc_extern Tryz.prog 402 _ (ReflectliteType.method fun t => do Rtype.noPackHeld "Comparable" t; pure (.bool (← typeInfo t).comparable)) Tryz.func402 (by kernel_rfl) (by kernel_rfl) (by kernel_rfl) (by kernel_rfl)
  have g_rv_typeOf := rv_typeOf
  have g_rv_methodComparable := rv_methodComparable
  have g_rv_comparable36 := rv_comparable36
  have g_rv_methodUnwrap := rv_methodUnwrap
  have g_noIs36 := noIs36
  have g_noIs142 := noIs142
  have g_noUnwrap36 := noUnwrap36
  have g_noUnwraps36 := noUnwraps36
  have g_hasUnwrap142 := hasUnwrap142
  have q1 := fun (v1 v2 : Value) (w : World) => run_eql_iface_types (P := Tryz.prog) 142 36 v1 v2 Tryz.underlying45 (by decide) w
  have q2 := fun (w : World) => eqErr e he w
  clear he
  go_enter Tryz.func66, Tryz.ntmps66
  go_wp2
  refine wp_loop_rounds 2 ?_
  rw [rounds_succ]
  go_wp2
  rw [rounds_succ]
  go_wp2
  go_ret
  exact ⟨rfl, (by repeat (first | assumption | exact Below.refl _ _ | with_reducible refine bset ?_ (by simp) _ | with_reducible refine balloc ?_ _ | with_reducible refine bdrew ?_ | with_reducible refine bdrewN ?_ _ | with_reducible refine bstep ?_ (by assumption)))⟩
end Go.Proofs.YtdfknlhfdbbogaaGreatDoor

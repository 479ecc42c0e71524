/- Closed facts on the model's entries for internal/reflectlite at this program's types (targets **fault.Fault and *api.Errno), after the pattern of a worked example. -/
import Derived.Test.YtceddcogpigolaaDoorProg
import Derived.Handy
import Derived.LaidEql
import Derived.Stop.Asserts
import Derived.RowKitTokens
namespace Go.Proofs.YtceddcogpigolaaDoor
open Go.RowKit Go.Extern.Stop Go.Stop Go.Extern

def tyH (t : TypeId) : Value := .pointer (some ⟨6, t, none⟩)
/- 121: **fault.Fault · 123: *api.Errno · 24: *fault.Fault · 22: api.Errno · 125: *fault.wrapped · 38: other · 33: error · 237: reflectlite.rtype · 186: reflectlite.Value -/
theorem valueOf121 (t : Addr) (w : World) : (ReflectliteValue.unpack (.iface 121 (.pointer (some t)))).run Tryd.prog w
    = .ok (.agg #[.pointer (some ⟨6, 121, none⟩), .pointer (some ⟨w.heap.size, 0, none⟩), .int .u64 150]) (w.alloc (.cells #[.pointer (some t)] 121)) := by kernel_rfl
theorem valueOf123 (t : Addr) (w : World) : (ReflectliteValue.unpack (.iface 123 (.pointer (some t)))).run Tryd.prog w
    = .ok (.agg #[.pointer (some ⟨6, 123, none⟩), .pointer (some ⟨w.heap.size, 0, none⟩), .int .u64 150]) (w.alloc (.cells #[.pointer (some t)] 123)) := by kernel_rfl
theorem type121 (a : Addr) (w : World) : (ReflectliteValue.methodAny (ReflectliteValue.valueError "reflectlite.Value.Type" 0) (fun t _ _ _ => ReflectliteType.toType t) #[.agg #[.pointer (some ⟨6, 121, none⟩), .pointer (some a), .int .u64 150]]).run Tryd.prog w
    = .ok (.iface 237 (.agg #[.pointer (some ⟨6, 121, none⟩)])) w := by kernel_rfl
theorem type123 (a : Addr) (w : World) : (ReflectliteValue.methodAny (ReflectliteValue.valueError "reflectlite.Value.Type" 0) (fun t _ _ _ => ReflectliteType.toType t) #[.agg #[.pointer (some ⟨6, 123, none⟩), .pointer (some a), .int .u64 150]]).run Tryd.prog w
    = .ok (.iface 237 (.agg #[.pointer (some ⟨6, 123, none⟩)])) w := by kernel_rfl
theorem methodKind (h : Value) (w : World) : (Go.method 440 237 (.agg #[h]) "Kind").run Tryd.prog w = .ok (270, h) w := by kernel_rfl
theorem methodElem (h : Value) (w : World) : (Go.method 440 237 (.agg #[h]) "Elem").run Tryd.prog w = .ok (282, .agg #[h]) w := by kernel_rfl
theorem methodImplements (h : Value) (w : World) : (Go.method 440 237 (.agg #[h]) "Implements").run Tryd.prog w = .ok (283, .agg #[h]) w := by kernel_rfl
theorem methodAssignableTo (h : Value) (w : World) : (Go.method 440 237 (.agg #[h]) "AssignableTo").run Tryd.prog w = .ok (280, .agg #[h]) w := by kernel_rfl
theorem methodComparable (h : Value) (w : World) : (Go.method 440 237 (.agg #[h]) "Comparable").run Tryd.prog w = .ok (281, .agg #[h]) w := by kernel_rfl
theorem kind121 (w : World) : ((ReflectliteType.abiMethod fun t => (fun a : Nat => Value.int IntKind.u8 (a : Int)) <$> Rtype.kind t) #[.pointer (some ⟨6, 121, none⟩)]).run Tryd.prog w = .ok (.int .u8 22) w := by kernel_rfl
theorem kind123 (w : World) : ((ReflectliteType.abiMethod fun t => (fun a : Nat => Value.int IntKind.u8 (a : Int)) <$> Rtype.kind t) #[.pointer (some ⟨6, 123, none⟩)]).run Tryd.prog w = .ok (.int .u8 22) w := by kernel_rfl
theorem kind24 (w : World) : ((ReflectliteType.abiMethod fun t => (fun a : Nat => Value.int IntKind.u8 (a : Int)) <$> Rtype.kind t) #[.pointer (some ⟨6, 24, none⟩)]).run Tryd.prog w = .ok (.int .u8 22) w := by kernel_rfl
theorem kind22 (w : World) : ((ReflectliteType.abiMethod fun t => (fun a : Nat => Value.int IntKind.u8 (a : Int)) <$> Rtype.kind t) #[.pointer (some ⟨6, 22, none⟩)]).run Tryd.prog w = .ok (.int .u8 2) w := by kernel_rfl
theorem elem121 (w : World) : (ReflectliteType.method ReflectliteType.elem #[.agg #[.pointer (some ⟨6, 121, none⟩)]]).run Tryd.prog w = .ok (.iface 237 (.agg #[.pointer (some ⟨6, 24, none⟩)])) w := by kernel_rfl
theorem elem123 (w : World) : (ReflectliteType.method ReflectliteType.elem #[.agg #[.pointer (some ⟨6, 123, none⟩)]]).run Tryd.prog w = .ok (.iface 237 (.agg #[.pointer (some ⟨6, 22, none⟩)])) w := by kernel_rfl
theorem implements24 (w : World) : (ReflectliteType.relation "Implements" ReflectliteType.implements_ #[.agg #[.pointer (some ⟨6, 24, none⟩)], .iface 237 (.agg #[.pointer (some ⟨6, 33, none⟩)])]).run Tryd.prog w = .ok (.bool true) w := by kernel_rfl
theorem implements22 (w : World) : (ReflectliteType.relation "Implements" ReflectliteType.implements_ #[.agg #[.pointer (some ⟨6, 22, none⟩)], .iface 237 (.agg #[.pointer (some ⟨6, 33, none⟩)])]).run Tryd.prog w = .ok (.bool true) w := by kernel_rfl
theorem typeOf24 (v : Value) (w : World) : (ReflectliteType.typeOf #[.iface 24 v]).run Tryd.prog w = .ok (.iface 237 (.agg #[.pointer (some ⟨6, 24, none⟩)])) w := by kernel_rfl
theorem typeOf22 (v : Value) (w : World) : (ReflectliteType.typeOf #[.iface 22 v]).run Tryd.prog w = .ok (.iface 237 (.agg #[.pointer (some ⟨6, 22, none⟩)])) w := by kernel_rfl
theorem typeOf125 (v : Value) (w : World) : (ReflectliteType.typeOf #[.iface 125 v]).run Tryd.prog w = .ok (.iface 237 (.agg #[.pointer (some ⟨6, 125, none⟩)])) w := by kernel_rfl
theorem typeOf38 (v : Value) (w : World) : (ReflectliteType.typeOf #[.iface 38 v]).run Tryd.prog w = .ok (.iface 237 (.agg #[.pointer (some ⟨6, 38, none⟩)])) w := by kernel_rfl
theorem assign24_24 (w : World) : (ReflectliteType.relation "AssignableTo" ReflectliteType.assignableTo #[.agg #[.pointer (some ⟨6, 24, none⟩)], .iface 237 (.agg #[.pointer (some ⟨6, 24, none⟩)])]).run Tryd.prog w = .ok (.bool true) w := by kernel_rfl
theorem assign22_24 (w : World) : (ReflectliteType.relation "AssignableTo" ReflectliteType.assignableTo #[.agg #[.pointer (some ⟨6, 22, none⟩)], .iface 237 (.agg #[.pointer (some ⟨6, 24, none⟩)])]).run Tryd.prog w = .ok (.bool false) w := by kernel_rfl
theorem assign125_24 (w : World) : (ReflectliteType.relation "AssignableTo" ReflectliteType.assignableTo #[.agg #[.pointer (some ⟨6, 125, none⟩)], .iface 237 (.agg #[.pointer (some ⟨6, 24, none⟩)])]).run Tryd.prog w = .ok (.bool false) w := by kernel_rfl
theorem assign38_24 (w : World) : (ReflectliteType.relation "AssignableTo" ReflectliteType.assignableTo #[.agg #[.pointer (some ⟨6, 38, none⟩)], .iface 237 (.agg #[.pointer (some ⟨6, 24, none⟩)])]).run Tryd.prog w = .ok (.bool false) w := by kernel_rfl
theorem assign24_22 (w : World) : (ReflectliteType.relation "AssignableTo" ReflectliteType.assignableTo #[.agg #[.pointer (some ⟨6, 24, none⟩)], .iface 237 (.agg #[.pointer (some ⟨6, 22, none⟩)])]).run Tryd.prog w = .ok (.bool false) w := by kernel_rfl
theorem assign22_22 (w : World) : (ReflectliteType.relation "AssignableTo" ReflectliteType.assignableTo #[.agg #[.pointer (some ⟨6, 22, none⟩)], .iface 237 (.agg #[.pointer (some ⟨6, 22, none⟩)])]).run Tryd.prog w = .ok (.bool true) w := by kernel_rfl
theorem assign125_22 (w : World) : (ReflectliteType.relation "AssignableTo" ReflectliteType.assignableTo #[.agg #[.pointer (some ⟨6, 125, none⟩)], .iface 237 (.agg #[.pointer (some ⟨6, 22, none⟩)])]).run Tryd.prog w = .ok (.bool false) w := by kernel_rfl
theorem assign38_22 (w : World) : (ReflectliteType.relation "AssignableTo" ReflectliteType.assignableTo #[.agg #[.pointer (some ⟨6, 38, none⟩)], .iface 237 (.agg #[.pointer (some ⟨6, 22, none⟩)])]).run Tryd.prog w = .ok (.bool false) w := by kernel_rfl
theorem comparable22 (w : World) : ((ReflectliteType.method fun t => (fun a => Value.bool a.comparable) <$> typeInfo t) #[.agg #[.pointer (some ⟨6, 22, none⟩)]]).run Tryd.prog w = .ok (.bool true) w := by kernel_rfl
theorem valueOf24 (e : Addr) (w : World) : (ReflectliteValue.unpack (.iface 24 (.pointer (some e)))).run Tryd.prog w
    = .ok (.agg #[.pointer (some ⟨6, 24, none⟩), .pointer (some ⟨w.heap.size, 0, none⟩), .int .u64 150]) (w.alloc (.cells #[.pointer (some e)] 24)) := by kernel_rfl
theorem valueOf22 (n : Int) (w : World) : (ReflectliteValue.unpack (.iface 22 (.int .i64 n))).run Tryd.prog w
    = .ok (.agg #[.pointer (some ⟨6, 22, none⟩), .pointer (some ⟨w.heap.size, 0, none⟩), .int .u64 130]) (w.alloc (.cells #[.int .i64 n] 22)) := by kernel_rfl

theorem rlm (z : Sem Value) (f : TypeId → Addr → Nat → Nat → Sem Value) (v : Value) :
    ReflectliteValue.method z f #[v] = (do match ← ReflectliteValue.parts v with | none => z | some (t, a, fl) => f t a fl (fl % 32)) := rfl
theorem parts121 (a : Addr) (w : World) : (ReflectliteValue.parts (.agg #[.pointer (some ⟨6, 121, none⟩), .pointer (some a), .int .u64 150])).run Tryd.prog w = .ok (some (121, a, 150)) w := by kernel_rfl
theorem parts123 (a : Addr) (w : World) : (ReflectliteValue.parts (.agg #[.pointer (some ⟨6, 123, none⟩), .pointer (some a), .int .u64 150])).run Tryd.prog w = .ok (some (123, a, 150)) w := by kernel_rfl
theorem isNil121 (a p : Addr) (W : World) (ha : W.cell? a = some (.pointer (some p))) :
    (ReflectliteValue.method (ReflectliteValue.valueError "reflectlite.Value.IsNil" 0) ReflectliteValue.isNil #[.agg #[.pointer (some ⟨6, 121, none⟩), .pointer (some a), .int .u64 150]]).run Tryd.prog W = .ok (.bool false) W := by
  rw [rlm]
  simp only [Sem.run_bind, parts121, Result.andThen]
  simp [ReflectliteValue.isNil, loadVar, isAgg, underlying, Tryd.underlying121, ha, Result.andThen]
theorem isNil123 (a p : Addr) (W : World) (ha : W.cell? a = some (.pointer (some p))) :
    (ReflectliteValue.method (ReflectliteValue.valueError "reflectlite.Value.IsNil" 0) ReflectliteValue.isNil #[.agg #[.pointer (some ⟨6, 123, none⟩), .pointer (some a), .int .u64 150]]).run Tryd.prog W = .ok (.bool false) W := by
  rw [rlm]
  simp only [Sem.run_bind, parts123, Result.andThen]
  simp [ReflectliteValue.isNil, loadVar, isAgg, underlying, Tryd.underlying123, ha, Result.andThen]
theorem elemOf121 (w : World) : (Rtype.elem? 121).run Tryd.prog w = .ok (some 24) w := by kernel_rfl
theorem elemOf123 (w : World) : (Rtype.elem? 123).run Tryd.prog w = .ok (some 22) w := by kernel_rfl
theorem mk24 (p : Addr) (w : World) : (ReflectliteValue.mk 24 p ReflectliteValue.flagAddr).run Tryd.prog w = .ok (.agg #[.pointer (some ⟨6, 24, none⟩), .pointer (some p), .int .u64 406]) w := by kernel_rfl
theorem mk22 (p : Addr) (w : World) : (ReflectliteValue.mk 22 p ReflectliteValue.flagAddr).run Tryd.prog w = .ok (.agg #[.pointer (some ⟨6, 22, none⟩), .pointer (some p), .int .u64 386]) w := by kernel_rfl
theorem elemV121 (a p : Addr) (W : World) (ha : W.cell? a = some (.pointer (some p))) :
    (ReflectliteValue.method (ReflectliteValue.valueError "reflectlite.Value.Elem" 0) ReflectliteValue.elem #[.agg #[.pointer (some ⟨6, 121, none⟩), .pointer (some a), .int .u64 150]]).run Tryd.prog W
      = .ok (.agg #[.pointer (some ⟨6, 24, none⟩), .pointer (some p), .int .u64 406]) W := by
  rw [rlm]
  simp only [Sem.run_bind, parts121, Result.andThen]
  simp [ReflectliteValue.elem, loadVar, isAgg, underlying, Tryd.underlying121, ha, Result.andThen, elemOf121, mk24]
theorem elemV123 (a p : Addr) (W : World) (ha : W.cell? a = some (.pointer (some p))) :
    (ReflectliteValue.method (ReflectliteValue.valueError "reflectlite.Value.Elem" 0) ReflectliteValue.elem #[.agg #[.pointer (some ⟨6, 123, none⟩), .pointer (some a), .int .u64 150]]).run Tryd.prog W
      = .ok (.agg #[.pointer (some ⟨6, 22, none⟩), .pointer (some p), .int .u64 386]) W := by
  rw [rlm]
  simp only [Sem.run_bind, parts123, Result.andThen]
  simp [ReflectliteValue.elem, loadVar, isAgg, underlying, Tryd.underlying123, ha, Result.andThen, elemOf123, mk22]
theorem rls (v x : Value) : ReflectliteValue.set #[v, x] = (do
    let (some (dst, a, fl), some (src, b, _)) := (← ReflectliteValue.parts v, ← ReflectliteValue.parts x)
      | unsupported (.noEntry "extern/(internal/reflectlite.Value).Set.zeroValue")
    if fl / ReflectliteValue.flagAddr % 2 == 0 then unsupported (.noEntry "extern/(internal/reflectlite.Value).Set.unaddressable")
    let val ← loadVar src b
    if ← Rtype.directlyAssignable dst src then storeVar dst a val
    else if ← Rtype.implements dst src then
      if (← Rtype.kind src) == 20 then
        match val with
        | .nilIface => unsupported (.noEntry "extern/reflectlite: a nil value of one interface type handed on as a value of another")
        | _ => storeVar dst a val
      else storeVar dst a (.iface src val)
    else panicString ("reflectlite.Set: value of type " ++ (← Rtype.spelt src) ++ " is not assignable to type " ++ (← Rtype.spelt dst))
    pure (.tuple #[])) := rfl
theorem parts24a (a : Addr) (w : World) : (ReflectliteValue.parts (.agg #[.pointer (some ⟨6, 24, none⟩), .pointer (some a), .int .u64 406])).run Tryd.prog w = .ok (some (24, a, 406)) w := by kernel_rfl
theorem parts24 (a : Addr) (w : World) : (ReflectliteValue.parts (.agg #[.pointer (some ⟨6, 24, none⟩), .pointer (some a), .int .u64 150])).run Tryd.prog w = .ok (some (24, a, 150)) w := by kernel_rfl
theorem parts22a (a : Addr) (w : World) : (ReflectliteValue.parts (.agg #[.pointer (some ⟨6, 22, none⟩), .pointer (some a), .int .u64 386])).run Tryd.prog w = .ok (some (22, a, 386)) w := by kernel_rfl
theorem parts22 (a : Addr) (w : World) : (ReflectliteValue.parts (.agg #[.pointer (some ⟨6, 22, none⟩), .pointer (some a), .int .u64 130])).run Tryd.prog w = .ok (some (22, a, 130)) w := by kernel_rfl
theorem direct24 (w : World) : (Rtype.directlyAssignable 24 24).run Tryd.prog w = .ok true w := by kernel_rfl
theorem direct22 (w : World) : (Rtype.directlyAssignable 22 22).run Tryd.prog w = .ok true w := by kernel_rfl
theorem set24 (ta b e : Addr) (old : Value) (W : World) (hb : W.cell? b = some (.pointer (some e))) (ht : W.cell? ta = some old) (hf : W.frozen? ta = false) :
    (ReflectliteValue.set #[.agg #[.pointer (some ⟨6, 24, none⟩), .pointer (some ta), .int .u64 406], .agg #[.pointer (some ⟨6, 24, none⟩), .pointer (some b), .int .u64 150]]).run Tryd.prog W
      = .ok (.tuple #[]) (W.setCell ta (.pointer (some e))) := by
  rw [rls]
  simp only [Sem.run_bind, parts24a, parts24, Result.andThen]
  simp [ReflectliteValue.flagAddr, loadVar, isAgg, underlying, Tryd.underlying24, hb, Result.andThen, direct24, storeVar, Value.cells, storeCells, Addr.add]
  rw [run_store Tryd.prog W ta _ _ (by rfl)]
  simp [ht, hf]
theorem set22 (ta b : Addr) (n : Int) (old : Value) (W : World) (hb : W.cell? b = some (.int .i64 n)) (ht : W.cell? ta = some old) (hf : W.frozen? ta = false) :
    (ReflectliteValue.set #[.agg #[.pointer (some ⟨6, 22, none⟩), .pointer (some ta), .int .u64 386], .agg #[.pointer (some ⟨6, 22, none⟩), .pointer (some b), .int .u64 130]]).run Tryd.prog W
      = .ok (.tuple #[]) (W.setCell ta (.int .i64 n)) := by
  rw [rls]
  simp only [Sem.run_bind, parts22a, parts22, Result.andThen]
  simp [ReflectliteValue.flagAddr, loadVar, isAgg, underlying, Tryd.underlying22, hb, Result.andThen, direct22, storeVar, Value.cells, storeCells, Addr.add]
  rw [run_store Tryd.prog W ta _ _ (by rfl)]
  simp [ht, hf]
/- the assertions to interface types: 241: As · 249: Is · 244: Unwrap() error · 245: Unwrap() []error -/
theorem noAs22 (v : Value) (w : World) : (Instr.typeAssert (.iface 22 v) 33 241 true).run Tryd.prog w = .ok (.tuple #[.nilIface, .bool false]) w := run_typeAssert_lacksB Tryd.underlying241 (by kernel_rfl) (by kernel_rfl) v 33 w
theorem noAs24 (v : Value) (w : World) : (Instr.typeAssert (.iface 24 v) 33 241 true).run Tryd.prog w = .ok (.tuple #[.nilIface, .bool false]) w := run_typeAssert_lacksB Tryd.underlying241 (by kernel_rfl) (by kernel_rfl) v 33 w
theorem noAs125 (v : Value) (w : World) : (Instr.typeAssert (.iface 125 v) 33 241 true).run Tryd.prog w = .ok (.tuple #[.nilIface, .bool false]) w := run_typeAssert_lacksB Tryd.underlying241 (by kernel_rfl) (by kernel_rfl) v 33 w
theorem noAs38 (v : Value) (w : World) : (Instr.typeAssert (.iface 38 v) 33 241 true).run Tryd.prog w = .ok (.tuple #[.nilIface, .bool false]) w := run_typeAssert_lacksB Tryd.underlying241 (by kernel_rfl) (by kernel_rfl) v 33 w
theorem noIs22 (v : Value) (w : World) : (Instr.typeAssert (.iface 22 v) 33 249 true).run Tryd.prog w = .ok (.tuple #[.nilIface, .bool false]) w := run_typeAssert_lacksB Tryd.underlying249 (by kernel_rfl) (by kernel_rfl) v 33 w
theorem noIs24 (v : Value) (w : World) : (Instr.typeAssert (.iface 24 v) 33 249 true).run Tryd.prog w = .ok (.tuple #[.nilIface, .bool false]) w := run_typeAssert_lacksB Tryd.underlying249 (by kernel_rfl) (by kernel_rfl) v 33 w
theorem noIs125 (v : Value) (w : World) : (Instr.typeAssert (.iface 125 v) 33 249 true).run Tryd.prog w = .ok (.tuple #[.nilIface, .bool false]) w := run_typeAssert_lacksB Tryd.underlying249 (by kernel_rfl) (by kernel_rfl) v 33 w
theorem noUn22 (v : Value) (w : World) : (Instr.typeAssert (.iface 22 v) 33 244 true).run Tryd.prog w = .ok (.tuple #[.nilIface, .bool false]) w := run_typeAssert_lacksB Tryd.underlying244 (by kernel_rfl) (by kernel_rfl) v 33 w
theorem noUn38 (v : Value) (w : World) : (Instr.typeAssert (.iface 38 v) 33 244 true).run Tryd.prog w = .ok (.tuple #[.nilIface, .bool false]) w := run_typeAssert_lacksB Tryd.underlying244 (by kernel_rfl) (by kernel_rfl) v 33 w
theorem un24 (v : Value) (w : World) : (Instr.typeAssert (.iface 24 v) 33 244 true).run Tryd.prog w = .ok (.tuple #[.iface 24 v, .bool true]) w := run_typeAssert_hasB Tryd.underlying244 (by kernel_rfl) v 33 w
theorem un125 (v : Value) (w : World) : (Instr.typeAssert (.iface 125 v) 33 244 true).run Tryd.prog w = .ok (.tuple #[.iface 125 v, .bool true]) w := run_typeAssert_hasB Tryd.underlying244 (by kernel_rfl) v 33 w
theorem noUns22 (v : Value) (w : World) : (Instr.typeAssert (.iface 22 v) 33 245 true).run Tryd.prog w = .ok (.tuple #[.nilIface, .bool false]) w := run_typeAssert_lacksB Tryd.underlying245 (by kernel_rfl) (by kernel_rfl) v 33 w
theorem noUns38 (v : Value) (w : World) : (Instr.typeAssert (.iface 38 v) 33 245 true).run Tryd.prog w = .ok (.tuple #[.nilIface, .bool false]) w := run_typeAssert_lacksB Tryd.underlying245 (by kernel_rfl) (by kernel_rfl) v 33 w
theorem methodUnwrap24 (a : Addr) (w : World) : (Go.method 440 24 (.pointer (some a)) "Unwrap").run Tryd.prog w = .ok (17, .pointer (some a)) w := by kernel_rfl
theorem methodUnwrap125 (a : Addr) (w : World) : (Go.method 440 125 (.pointer (some a)) "Unwrap").run Tryd.prog w = .ok (275, .pointer (some a)) w := by kernel_rfl
end Go.Proofs.YtceddcogpigolaaDoor

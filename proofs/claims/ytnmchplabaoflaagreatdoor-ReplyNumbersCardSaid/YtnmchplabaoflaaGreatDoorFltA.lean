/- errors.As and errors.Is at the targets *fault.Fault and api.Code: the closed facts on the model's entries for internal/reflectlite at this program's types (after the kit's worked example Toyas). -/
import Derived.Test.YtnmchplabaoflaaGreatDoorBase
import Derived.Test.YtnmchplabaoflaaGreatDoorChecked
import Derived.WalkKit
import Derived.LaidEql
import Derived.Stop.Asserts
import Derived.RowKitTokens
import Derived.Elder7
namespace Go.Proofs.YtnmchplabaoflaaGreatDoor
open Go.RowKit Go.Extern.Stop Go.Stop Go.Extern
set_option linter.unusedVariables false
set_option maxRecDepth 100000

theorem rlm (z : Sem Value) (f : TypeId → Addr → Nat → Nat → Sem Value) (v : Value) :
    ReflectliteValue.method z f #[v] = (do match ← ReflectliteValue.parts v with | none => z | some (t, a, fl) => f t a fl (fl % 32)) := rfl
theorem rls (v x : Value) : ReflectliteValue.set #[v, x] = (do
    let (some (dst, a, fl), some (src, b, _)) := (← ReflectliteValue.parts v, ← ReflectliteValue.parts x)
      | unsupported (.noEntry "extern/(internal/reflectlite.Value).Set.zeroValue")
    if fl / ReflectliteValue.flagAddr % 2 == 0 then unsupported (.noEntry "extern/(internal/reflectlite.Value).Set.unaddressable")
    let val ← loadVar src b
    if ← Rtype.directlyAssignable dst src then storeVar dst a val
    else if ← Rtype.implements dst src then
      if (← Rtype.kind src) == 20 then
        match val with
        | .nilIface => unsupported (.noEntry "extern/reflectlite: a nil value of one interface type handed on as a value of another")
        | _ => storeVar dst a val
      else storeVar dst a (.iface src val)
    else panicString ("reflectlite.Set: value of type " ++ (← Rtype.spelt src) ++ " is not assignable to type " ++ (← Rtype.spelt dst))
    pure (.tuple #[])) := rfl

theorem methodKind (h : Value) (w : World) : (Go.method 257 106 (.agg #[h]) "Kind").run Tryz.prog w = .ok (103, h) w := by kernel_rfl
theorem methodElem (h : Value) (w : World) : (Go.method 257 106 (.agg #[h]) "Elem").run Tryz.prog w = .ok (116, .agg #[h]) w := by kernel_rfl
theorem methodImplements (h : Value) (w : World) : (Go.method 257 106 (.agg #[h]) "Implements").run Tryz.prog w = .ok (117, .agg #[h]) w := by kernel_rfl
theorem methodAssignableTo (h : Value) (w : World) : (Go.method 257 106 (.agg #[h]) "AssignableTo").run Tryz.prog w = .ok (114, .agg #[h]) w := by kernel_rfl
theorem methodComparable (h : Value) (w : World) : (Go.method 257 106 (.agg #[h]) "Comparable").run Tryz.prog w = .ok (115, .agg #[h]) w := by kernel_rfl
theorem methodUnwrap (v : Value) (w : World) : (Go.method 257 41 v "Unwrap").run Tryz.prog w = .ok (108, v) w := by kernel_rfl
theorem ekind_f (w : World) : ((ReflectliteType.abiMethod fun t => (fun a : Nat => Value.int IntKind.u8 (a : Int)) <$> Rtype.kind t) #[.pointer (some ⟨4, 41, none⟩)]).run Tryz.prog w = .ok (.int .u8 22) w := by kernel_rfl
theorem eimpl_f (w : World) : (ReflectliteType.relation "Implements" ReflectliteType.implements_ #[.agg #[.pointer (some ⟨4, 41, none⟩)], .iface 106 (.agg #[.pointer (some ⟨4, 29, none⟩)])]).run Tryz.prog w = .ok (.bool true) w := by kernel_rfl
theorem etype_f (v : Value) (w : World) : (ReflectliteType.typeOf #[.iface 41 v]).run Tryz.prog w = .ok (.iface 106 (.agg #[.pointer (some ⟨4, 41, none⟩)])) w := by kernel_rfl
theorem eval_f (p : Addr) (w : World) : (ReflectliteValue.unpack (.iface 41 (.pointer (some p)))).run Tryz.prog w
    = .ok (.agg #[.pointer (some ⟨4, 41, none⟩), .pointer (some ⟨w.heap.size, 0, none⟩), .int .u64 150]) (w.alloc (.cells #[.pointer (some p)] 41)) := by kernel_rfl
theorem emk_f (p : Addr) (w : World) : (ReflectliteValue.mk 41 p ReflectliteValue.flagAddr).run Tryz.prog w = .ok (.agg #[.pointer (some ⟨4, 41, none⟩), .pointer (some p), .int .u64 406]) w := by kernel_rfl
theorem eparts1_f (a : Addr) (w : World) : (ReflectliteValue.parts (.agg #[.pointer (some ⟨4, 41, none⟩), .pointer (some a), .int .u64 406])).run Tryz.prog w = .ok (some (41, a, 406)) w := by kernel_rfl
theorem eparts_f (a : Addr) (w : World) : (ReflectliteValue.parts (.agg #[.pointer (some ⟨4, 41, none⟩), .pointer (some a), .int .u64 150])).run Tryz.prog w = .ok (some (41, a, 150)) w := by kernel_rfl
theorem edirect_f (w : World) : (Rtype.directlyAssignable 41 41).run Tryz.prog w = .ok true w := by kernel_rfl
theorem eset_f (ta b : Addr) (p : Addr) (old : Value) (W : World) (hb : W.cell? b = some (.pointer (some p))) (ht : W.cell? ta = some old) (hf : W.frozen? ta = false) :
    (ReflectliteValue.set #[.agg #[.pointer (some ⟨4, 41, none⟩), .pointer (some ta), .int .u64 406], .agg #[.pointer (some ⟨4, 41, none⟩), .pointer (some b), .int .u64 150]]).run Tryz.prog W
      = .ok (.tuple #[]) (W.setCell ta (.pointer (some p))) := by
  rw [rls]
  simp only [Sem.run_bind, eparts1_f, eparts_f, Result.andThen]
  simp [ReflectliteValue.flagAddr, loadVar, isAgg, underlying, Tryz.underlying41, hb, Result.andThen, edirect_f, storeVar, Value.cells, storeCells, Addr.add]
  rw [run_store Tryz.prog W ta _ _ (by rfl)]
  simp [ht, hf]
/-! ### the target 68 -/
theorem pval_c (t : Addr) (w : World) : (ReflectliteValue.unpack (.iface 68 (.pointer (some t)))).run Tryz.prog w
    = .ok (.agg #[.pointer (some ⟨4, 68, none⟩), .pointer (some ⟨w.heap.size, 0, none⟩), .int .u64 150]) (w.alloc (.cells #[.pointer (some t)] 68)) := by kernel_rfl
theorem ptype_c (a : Addr) (w : World) : (ReflectliteValue.methodAny (ReflectliteValue.valueError "reflectlite.Value.Type" 0) (fun t _ _ _ => ReflectliteType.toType t) #[.agg #[.pointer (some ⟨4, 68, none⟩), .pointer (some a), .int .u64 150]]).run Tryz.prog w
    = .ok (.iface 106 (.agg #[.pointer (some ⟨4, 68, none⟩)])) w := by kernel_rfl
theorem pkind_c (w : World) : ((ReflectliteType.abiMethod fun t => (fun a : Nat => Value.int IntKind.u8 (a : Int)) <$> Rtype.kind t) #[.pointer (some ⟨4, 68, none⟩)]).run Tryz.prog w = .ok (.int .u8 22) w := by kernel_rfl
theorem ekind_c (w : World) : ((ReflectliteType.abiMethod fun t => (fun a : Nat => Value.int IntKind.u8 (a : Int)) <$> Rtype.kind t) #[.pointer (some ⟨4, 26, none⟩)]).run Tryz.prog w = .ok (.int .u8 2) w := by kernel_rfl
theorem pparts_c (a : Addr) (w : World) : (ReflectliteValue.parts (.agg #[.pointer (some ⟨4, 68, none⟩), .pointer (some a), .int .u64 150])).run Tryz.prog w = .ok (some (68, a, 150)) w := by kernel_rfl
theorem pisnil_c (a p : Addr) (W : World) (ha : W.cell? a = some (.pointer (some p))) :
    (ReflectliteValue.method (ReflectliteValue.valueError "reflectlite.Value.IsNil" 0) ReflectliteValue.isNil #[.agg #[.pointer (some ⟨4, 68, none⟩), .pointer (some a), .int .u64 150]]).run Tryz.prog W = .ok (.bool false) W := by
  rw [rlm]
  simp only [Sem.run_bind, pparts_c, Result.andThen]
  simp [ReflectliteValue.isNil, loadVar, isAgg, underlying, Tryz.underlying68, ha, Result.andThen]
theorem pelem_c (w : World) : (ReflectliteType.method ReflectliteType.elem #[.agg #[.pointer (some ⟨4, 68, none⟩)]]).run Tryz.prog w = .ok (.iface 106 (.agg #[.pointer (some ⟨4, 26, none⟩)])) w := by kernel_rfl
theorem eimpl_c (w : World) : (ReflectliteType.relation "Implements" ReflectliteType.implements_ #[.agg #[.pointer (some ⟨4, 26, none⟩)], .iface 106 (.agg #[.pointer (some ⟨4, 29, none⟩)])]).run Tryz.prog w = .ok (.bool true) w := by kernel_rfl
theorem etype_c (v : Value) (w : World) : (ReflectliteType.typeOf #[.iface 26 v]).run Tryz.prog w = .ok (.iface 106 (.agg #[.pointer (some ⟨4, 26, none⟩)])) w := by kernel_rfl
theorem eval_c (p : Int) (w : World) : (ReflectliteValue.unpack (.iface 26 (.int .i64 p))).run Tryz.prog w
    = .ok (.agg #[.pointer (some ⟨4, 26, none⟩), .pointer (some ⟨w.heap.size, 0, none⟩), .int .u64 130]) (w.alloc (.cells #[.int .i64 p] 26)) := by kernel_rfl
theorem pelemOf_c (w : World) : (Rtype.elem? 68).run Tryz.prog w = .ok (some 26) w := by kernel_rfl
theorem emk_c (p : Addr) (w : World) : (ReflectliteValue.mk 26 p ReflectliteValue.flagAddr).run Tryz.prog w = .ok (.agg #[.pointer (some ⟨4, 26, none⟩), .pointer (some p), .int .u64 386]) w := by kernel_rfl
theorem pelemV_c (a p : Addr) (W : World) (ha : W.cell? a = some (.pointer (some p))) :
    (ReflectliteValue.method (ReflectliteValue.valueError "reflectlite.Value.Elem" 0) ReflectliteValue.elem #[.agg #[.pointer (some ⟨4, 68, none⟩), .pointer (some a), .int .u64 150]]).run Tryz.prog W
      = .ok (.agg #[.pointer (some ⟨4, 26, none⟩), .pointer (some p), .int .u64 386]) W := by
  rw [rlm]
  simp only [Sem.run_bind, pparts_c, Result.andThen]
  simp [ReflectliteValue.elem, loadVar, isAgg, underlying, Tryz.underlying68, ha, Result.andThen, pelemOf_c, emk_c]
theorem eparts1_c (a : Addr) (w : World) : (ReflectliteValue.parts (.agg #[.pointer (some ⟨4, 26, none⟩), .pointer (some a), .int .u64 386])).run Tryz.prog w = .ok (some (26, a, 386)) w := by kernel_rfl
theorem eparts_c (a : Addr) (w : World) : (ReflectliteValue.parts (.agg #[.pointer (some ⟨4, 26, none⟩), .pointer (some a), .int .u64 130])).run Tryz.prog w = .ok (some (26, a, 130)) w := by kernel_rfl
theorem edirect_c (w : World) : (Rtype.directlyAssignable 26 26).run Tryz.prog w = .ok true w := by kernel_rfl
theorem eset_c (ta b : Addr) (p : Int) (old : Value) (W : World) (hb : W.cell? b = some (.int .i64 p)) (ht : W.cell? ta = some old) (hf : W.frozen? ta = false) :
    (ReflectliteValue.set #[.agg #[.pointer (some ⟨4, 26, none⟩), .pointer (some ta), .int .u64 386], .agg #[.pointer (some ⟨4, 26, none⟩), .pointer (some b), .int .u64 130]]).run Tryz.prog W
      = .ok (.tuple #[]) (W.setCell ta (.int .i64 p)) := by
  rw [rls]
  simp only [Sem.run_bind, eparts1_c, eparts_c, Result.andThen]
  simp [ReflectliteValue.flagAddr, loadVar, isAgg, underlying, Tryz.underlying26, hb, Result.andThen, edirect_c, storeVar, Value.cells, storeCells, Addr.add]
  rw [run_store Tryz.prog W ta _ _ (by rfl)]
  simp [ht, hf]
/-! ### which error is assignable to which target -/
theorem assign_ff (w : World) : (ReflectliteType.relation "AssignableTo" ReflectliteType.assignableTo #[.agg #[.pointer (some ⟨4, 41, none⟩)], .iface 106 (.agg #[.pointer (some ⟨4, 41, none⟩)])]).run Tryz.prog w = .ok (.bool true) w := by kernel_rfl
theorem assign_cc (w : World) : (ReflectliteType.relation "AssignableTo" ReflectliteType.assignableTo #[.agg #[.pointer (some ⟨4, 26, none⟩)], .iface 106 (.agg #[.pointer (some ⟨4, 26, none⟩)])]).run Tryz.prog w = .ok (.bool true) w := by kernel_rfl
theorem assign_cf (w : World) : (ReflectliteType.relation "AssignableTo" ReflectliteType.assignableTo #[.agg #[.pointer (some ⟨4, 26, none⟩)], .iface 106 (.agg #[.pointer (some ⟨4, 41, none⟩)])]).run Tryz.prog w = .ok (.bool false) w := by kernel_rfl
theorem assign_fc (w : World) : (ReflectliteType.relation "AssignableTo" ReflectliteType.assignableTo #[.agg #[.pointer (some ⟨4, 41, none⟩)], .iface 106 (.agg #[.pointer (some ⟨4, 26, none⟩)])]).run Tryz.prog w = .ok (.bool false) w := by kernel_rfl
theorem cComparable (w : World) : ((Extern.ReflectliteType.method fun t => (fun a => Value.bool a.comparable) <$> typeInfo t) #[.agg #[.pointer (some ⟨4, 26, none⟩)]]).run Tryz.prog w = .ok (.bool true) w := by kernel_rfl
theorem fComp : (Tryz.prog.info? 41).map (·.comparable) = some true := by kernel_rfl
theorem fSize : (Tryz.prog.info? 43).map (·.size) = some 2 := by kernel_rfl
/-! ### what the assertions find -/
theorem noAs_f (v : Value) (xT : TypeId) (w : World) : (Instr.typeAssert (.iface 41 v) xT 111 true).run Tryz.prog w = .ok (.tuple #[.nilIface, .bool false]) w := run_typeAssert_lacksB Tryz.underlying111 (by kernel_rfl) (by kernel_rfl) v xT w
theorem noUnwraps_f (v : Value) (xT : TypeId) (w : World) : (Instr.typeAssert (.iface 41 v) xT 116 true).run Tryz.prog w = .ok (.tuple #[.nilIface, .bool false]) w := run_typeAssert_lacksB Tryz.underlying116 (by kernel_rfl) (by kernel_rfl) v xT w
theorem noAs_c (v : Value) (xT : TypeId) (w : World) : (Instr.typeAssert (.iface 26 v) xT 111 true).run Tryz.prog w = .ok (.tuple #[.nilIface, .bool false]) w := run_typeAssert_lacksB Tryz.underlying111 (by kernel_rfl) (by kernel_rfl) v xT w
theorem noUnwraps_c (v : Value) (xT : TypeId) (w : World) : (Instr.typeAssert (.iface 26 v) xT 116 true).run Tryz.prog w = .ok (.tuple #[.nilIface, .bool false]) w := run_typeAssert_lacksB Tryz.underlying116 (by kernel_rfl) (by kernel_rfl) v xT w
theorem noUnwrap_c (v : Value) (xT : TypeId) (w : World) : (Instr.typeAssert (.iface 26 v) xT 114 true).run Tryz.prog w = .ok (.tuple #[.nilIface, .bool false]) w := run_typeAssert_lacksB Tryz.underlying114 (by kernel_rfl) (by kernel_rfl) v xT w
theorem hasUnwrap_f (v : Value) (xT : TypeId) (w : World) : (Instr.typeAssert (.iface 41 v) xT 114 true).run Tryz.prog w = .ok (.tuple #[.iface 41 v, .bool true]) w := run_typeAssert_hasB Tryz.underlying114 (by kernel_rfl) v xT w
end Go.Proofs.YtnmchplabaoflaaGreatDoor

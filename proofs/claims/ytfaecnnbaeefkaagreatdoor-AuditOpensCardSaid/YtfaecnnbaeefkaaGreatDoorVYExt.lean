/- A part of the proof of AuditOpens: the program run by the evaluator. No condition. -/
import Derived.Test.YtfaecnnbaeefkaaGreatDoorVELowB
import Derived.Test.YtfaecnnbaeefkaaGreatDoorVE15
set_option linter.all false
namespace Go.Proofs
noncomputable section
open Go Go.VE Go.Extern
set_option maxRecDepth 100000
theorem extOf {P : Program} {f : Nat} {fn : Func} {X : Array Value → Sem Value} (hf : P.funcs[f]? = some fn) (hname : (fn.name == "runtime.NumGoroutine") = false) (hb : fn.body.isNone = true) (hn : Extern.findNext fn = none) (he : Extern.find fn = some X) : ExtFn P f X := fun args w => by
  rw [run_callFunc_extern hf hname hb hn he]
theorem ext357 : ExtFn Tryz.prog 357 Extern.BytealgIndexByte.indexByte := extOf Tryz.func357 (by kernel_rfl) (by kernel_rfl) (by kernel_rfl) (by kernel_rfl)
theorem ext333 : ExtFn Tryz.prog 333 Extern.BytealgCount.count := extOf Tryz.func333 (by kernel_rfl) (by kernel_rfl) (by kernel_rfl) (by kernel_rfl)
theorem ext248 : ExtFn Tryz.prog 248 Extern.BytealgCompare.compare := extOf Tryz.func248 (by kernel_rfl) (by kernel_rfl) (by kernel_rfl) (by kernel_rfl)
theorem ext34 : ExtFn Tryz.prog 34 ReflectliteType.typeOf := extOf Tryz.func34 (by kernel_rfl) (by kernel_rfl) (by kernel_rfl) (by kernel_rfl)
theorem ext402 : ExtFn Tryz.prog 402 (ReflectliteType.method (fun t => do Rtype.noPackHeld "Comparable" t; pure (.bool (← typeInfo t).comparable))) := extOf Tryz.func402 (by kernel_rfl) (by kernel_rfl) (by kernel_rfl) (by kernel_rfl)
theorem ext403 : ExtFn Tryz.prog 403 (ReflectliteType.method ReflectliteType.elem) := extOf Tryz.func403 (by kernel_rfl) (by kernel_rfl) (by kernel_rfl) (by kernel_rfl)
theorem ext390 : ExtFn Tryz.prog 390 (ReflectliteType.abiMethod fun t => do pure (.int .u8 (← Rtype.kind t))) := extOf Tryz.func390 (by kernel_rfl) (by kernel_rfl) (by kernel_rfl) (by kernel_rfl)
theorem ext401 : ExtFn Tryz.prog 401 (ReflectliteType.relation "AssignableTo" ReflectliteType.assignableTo) := extOf Tryz.func401 (by kernel_rfl) (by kernel_rfl) (by kernel_rfl) (by kernel_rfl)
theorem ext404 : ExtFn Tryz.prog 404 (ReflectliteType.relation "Implements" ReflectliteType.implements_) := extOf Tryz.func404 (by kernel_rfl) (by kernel_rfl) (by kernel_rfl) (by kernel_rfl)
theorem ext30 : ExtFn Tryz.prog 30 (fun args => ReflectliteValue.unpack (args.getD 0 (.tuple #[]))) := extOf Tryz.func30 (by kernel_rfl) (by kernel_rfl) (by kernel_rfl) (by kernel_rfl)
theorem ext31 : ExtFn Tryz.prog 31 (ReflectliteValue.methodAny (ReflectliteValue.valueError "reflectlite.Value.Type" 0) fun t _ _ _ => ReflectliteType.toType t) := extOf Tryz.func31 (by kernel_rfl) (by kernel_rfl) (by kernel_rfl) (by kernel_rfl)
theorem ext32 : ExtFn Tryz.prog 32 (ReflectliteValue.method (ReflectliteValue.valueError "reflectlite.Value.IsNil" 0) ReflectliteValue.isNil) := extOf Tryz.func32 (by kernel_rfl) (by kernel_rfl) (by kernel_rfl) (by kernel_rfl)
theorem ext69 : ExtFn Tryz.prog 69 (ReflectliteValue.method (ReflectliteValue.valueError "reflectlite.Value.Elem" 0) ReflectliteValue.elem) := extOf Tryz.func69 (by kernel_rfl) (by kernel_rfl) (by kernel_rfl) (by kernel_rfl)
theorem ext70 : ExtFn Tryz.prog 70 ReflectliteValue.set := extOf Tryz.func70 (by kernel_rfl) (by kernel_rfl) (by kernel_rfl) (by kernel_rfl)
end
end Go.Proofs

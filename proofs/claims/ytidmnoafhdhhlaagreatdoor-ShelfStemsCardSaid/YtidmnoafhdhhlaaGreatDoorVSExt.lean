/- A part of the proof of ShelfStems: the program run by the evaluator. No condition. -/
import Derived.Test.YtidmnoafhdhhlaaGreatDoorVSLowB
import Derived.Test.YtidmnoafhdhhlaaGreatDoorVE18
set_option linter.all false
namespace Go.Proofs
noncomputable section
open Go Go.VE Go.Extern
set_option maxRecDepth 100000
theorem extOf {P : Program} {f : Nat} {fn : Func} {X : Array Value → Sem Value} (hf : P.funcs[f]? = some fn) (hname : (fn.name == "runtime.NumGoroutine") = false) (hb : fn.body.isNone = true) (hn : Extern.findNext fn = none) (he : Extern.find fn = some X) : zcd P f X := fun args w => by
  rw [run_callFunc_extern hf hname hb hn he]
theorem ext450 : zcd Tryz.prog 450 Extern.BytealgIndexByte.indexByte := extOf Tryz.func450 (by kernel_rfl) (by kernel_rfl) (by kernel_rfl) (by kernel_rfl)
theorem ext431 : zcd Tryz.prog 431 Extern.BytealgCount.count := extOf Tryz.func431 (by kernel_rfl) (by kernel_rfl) (by kernel_rfl) (by kernel_rfl)
theorem ext323 : zcd Tryz.prog 323 Extern.BytealgCompare.compare := extOf Tryz.func323 (by kernel_rfl) (by kernel_rfl) (by kernel_rfl) (by kernel_rfl)
theorem ext107 : zcd Tryz.prog 107 ReflectliteType.typeOf := extOf Tryz.func107 (by kernel_rfl) (by kernel_rfl) (by kernel_rfl) (by kernel_rfl)
theorem ext518 : zcd Tryz.prog 518 (ReflectliteType.method (fun t => do Rtype.noPackHeld "Comparable" t; pure (.bool (← typeInfo t).comparable))) := extOf Tryz.func518 (by kernel_rfl) (by kernel_rfl) (by kernel_rfl) (by kernel_rfl)
theorem ext519 : zcd Tryz.prog 519 (ReflectliteType.method ReflectliteType.elem) := extOf Tryz.func519 (by kernel_rfl) (by kernel_rfl) (by kernel_rfl) (by kernel_rfl)
theorem ext503 : zcd Tryz.prog 503 (ReflectliteType.abiMethod fun t => do pure (.int .u8 (← Rtype.kind t))) := extOf Tryz.func503 (by kernel_rfl) (by kernel_rfl) (by kernel_rfl) (by kernel_rfl)
theorem ext517 : zcd Tryz.prog 517 (ReflectliteType.relation "AssignableTo" ReflectliteType.assignableTo) := extOf Tryz.func517 (by kernel_rfl) (by kernel_rfl) (by kernel_rfl) (by kernel_rfl)
theorem ext520 : zcd Tryz.prog 520 (ReflectliteType.relation "Implements" ReflectliteType.implements_) := extOf Tryz.func520 (by kernel_rfl) (by kernel_rfl) (by kernel_rfl) (by kernel_rfl)
theorem ext103 : zcd Tryz.prog 103 (fun args => ReflectliteValue.unpack (args.getD 0 (.tuple #[]))) := extOf Tryz.func103 (by kernel_rfl) (by kernel_rfl) (by kernel_rfl) (by kernel_rfl)
theorem ext104 : zcd Tryz.prog 104 (ReflectliteValue.methodAny (ReflectliteValue.valueError "reflectlite.Value.Type" 0) fun t _ _ _ => ReflectliteType.toType t) := extOf Tryz.func104 (by kernel_rfl) (by kernel_rfl) (by kernel_rfl) (by kernel_rfl)
theorem ext105 : zcd Tryz.prog 105 (ReflectliteValue.method (ReflectliteValue.valueError "reflectlite.Value.IsNil" 0) ReflectliteValue.isNil) := extOf Tryz.func105 (by kernel_rfl) (by kernel_rfl) (by kernel_rfl) (by kernel_rfl)
theorem ext188 : zcd Tryz.prog 188 (ReflectliteValue.method (ReflectliteValue.valueError "reflectlite.Value.Elem" 0) ReflectliteValue.elem) := extOf Tryz.func188 (by kernel_rfl) (by kernel_rfl) (by kernel_rfl) (by kernel_rfl)
theorem ext189 : zcd Tryz.prog 189 ReflectliteValue.set := extOf Tryz.func189 (by kernel_rfl) (by kernel_rfl) (by kernel_rfl) (by kernel_rfl)
theorem ext365 : zcd Tryz.prog 365 AbiNoEscape.same := extOf Tryz.func365 (by kernel_rfl) (by kernel_rfl) (by kernel_rfl) (by kernel_rfl)
theorem ext442 : zcd Tryz.prog 442 (BytealgMakeNoZero.makeNoZero Tryz.f442.params #[24]) := extOf Tryz.func442 (by kernel_rfl) (by kernel_rfl) (by kernel_rfl) (by kernel_rfl)
theorem bsT : Tryz.prog.underlying 24 = some (.slice 5) := by kernel_rfl
end
end Go.Proofs

/- A part of the proof of BootCands: the program run by the evaluator. No condition. -/
import Derived.Test.YtjpelmgihpmohaaGreatDoorVBLowB
import Derived.Test.YtjpelmgihpmohaaGreatDoorVE18
set_option linter.all false
namespace Go.Proofs
noncomputable section
open Go Go.VE Go.Extern
set_option maxRecDepth 100000
theorem extOf {P : Program} {f : Nat} {fn : Func} {X : Array Value → Sem Value} (hf : P.funcs[f]? = some fn) (hname : (fn.name == "runtime.NumGoroutine") = false) (hb : fn.body.isNone = true) (hn : Extern.findNext fn = none) (he : Extern.find fn = some X) : zcd P f X := fun args w => by
 rw [run_callFunc_extern hf hname hb hn he]
theorem ext466:zcd Tryz.prog 466 Extern.BytealgIndexByte.indexByte:=extOf Tryz.func466 (by kernel_rfl) (by kernel_rfl) (by kernel_rfl) (by kernel_rfl)
theorem ext446:zcd Tryz.prog 446 Extern.BytealgCount.count:=extOf Tryz.func446 (by kernel_rfl) (by kernel_rfl) (by kernel_rfl) (by kernel_rfl)
theorem ext352:zcd Tryz.prog 352 Extern.BytealgCompare.compare:=extOf Tryz.func352 (by kernel_rfl) (by kernel_rfl) (by kernel_rfl) (by kernel_rfl)
theorem ext117:zcd Tryz.prog 117 ReflectliteType.typeOf:=extOf Tryz.func117 (by kernel_rfl) (by kernel_rfl) (by kernel_rfl) (by kernel_rfl)
theorem ext516 : zcd Tryz.prog 516 (ReflectliteType.method (fun t => do Rtype.noPackHeld "Comparable" t; pure (.bool (← typeInfo t).comparable))) := extOf Tryz.func516 (by kernel_rfl) (by kernel_rfl) (by kernel_rfl) (by kernel_rfl)
theorem ext517:zcd Tryz.prog 517 (ReflectliteType.method ReflectliteType.elem):=extOf Tryz.func517 (by kernel_rfl) (by kernel_rfl) (by kernel_rfl) (by kernel_rfl)
theorem ext501:zcd Tryz.prog 501 (ReflectliteType.abiMethod fun t=>do pure (.int .u8 (← Rtype.kind t))):=extOf Tryz.func501 (by kernel_rfl) (by kernel_rfl) (by kernel_rfl) (by kernel_rfl)
theorem ext515 : zcd Tryz.prog 515 (ReflectliteType.relation "AssignableTo" ReflectliteType.assignableTo) := extOf Tryz.func515 (by kernel_rfl) (by kernel_rfl) (by kernel_rfl) (by kernel_rfl)
theorem ext518 : zcd Tryz.prog 518 (ReflectliteType.relation "Implements" ReflectliteType.implements_) := extOf Tryz.func518 (by kernel_rfl) (by kernel_rfl) (by kernel_rfl) (by kernel_rfl)
theorem ext113:zcd Tryz.prog 113 (fun args=>ReflectliteValue.unpack (args.getD 0 (.tuple #[]))):=extOf Tryz.func113 (by kernel_rfl) (by kernel_rfl) (by kernel_rfl) (by kernel_rfl)
theorem ext114 : zcd Tryz.prog 114 (ReflectliteValue.methodAny (ReflectliteValue.valueError "reflectlite.Value.Type" 0) fun t _ _ _ => ReflectliteType.toType t) := extOf Tryz.func114 (by kernel_rfl) (by kernel_rfl) (by kernel_rfl) (by kernel_rfl)
theorem ext115 : zcd Tryz.prog 115 (ReflectliteValue.method (ReflectliteValue.valueError "reflectlite.Value.IsNil" 0) ReflectliteValue.isNil) := extOf Tryz.func115 (by kernel_rfl) (by kernel_rfl) (by kernel_rfl) (by kernel_rfl)
theorem ext197 : zcd Tryz.prog 197 (ReflectliteValue.method (ReflectliteValue.valueError "reflectlite.Value.Elem" 0) ReflectliteValue.elem) := extOf Tryz.func197 (by kernel_rfl) (by kernel_rfl) (by kernel_rfl) (by kernel_rfl)
theorem ext198:zcd Tryz.prog 198 ReflectliteValue.set:=extOf Tryz.func198 (by kernel_rfl) (by kernel_rfl) (by kernel_rfl) (by kernel_rfl)
theorem ext225:zcd Tryz.prog 225 AbiNoEscape.same:=extOf Tryz.func225 (by kernel_rfl) (by kernel_rfl) (by kernel_rfl) (by kernel_rfl)
theorem ext419:zcd Tryz.prog 419 (BytealgMakeNoZero.makeNoZero Tryz.f419.params #[54]):=extOf Tryz.func419 (by kernel_rfl) (by kernel_rfl) (by kernel_rfl) (by kernel_rfl)
theorem bsT:Tryz.prog.underlying 54=some (.slice 5):=by kernel_rfl
end
end Go.Proofs

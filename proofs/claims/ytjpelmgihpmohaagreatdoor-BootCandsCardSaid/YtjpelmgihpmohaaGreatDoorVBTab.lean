/- A part of the proof of BootCands: the program run by the evaluator. No condition. -/
import Derived.Test.YtjpelmgihpmohaaGreatDoorVBLowB
import Derived.Test.YtjpelmgihpmohaaGreatDoorVE18
set_option linter.all false
namespace Go.Proofs
noncomputable section
open Go Go.VE Go.Extern
set_option maxRecDepth 100000
def tabT:RTab:={ rt:=292,kinds:=[(101,22),(83,2),(101,22),(99,22)],ptrs:=[(101,99),(101,99)],one:=[83,99],comp:=[(83,true),(99,true)],assg:=[((83,83),true),((99,83),false),((99,99),true),((83,99),false)],impl:=[((83,28),true),((99,28),true)] }
theorem mem2 {α:Type} {a b x:α} (h:x ∈ [a,b]):x=a∨x=b:=by simpa using h
theorem mem4 {α:Type} {a b c d x:α} (h:x ∈ [a,b,c,d]):x=a∨x=b∨x=c∨x=d:=by simpa using h
theorem tab_hb:Tryz.prog.globals.size=HB:=by kernel_rfl
theorem tab_ct (w : World) : (cutType "internal/reflectlite.rtype").run Tryz.prog w = .ok 292 w := by kernel_rfl
theorem tab_kinds:∀ t c,(t,c) ∈ tabT.kinds→Tryz.prog.packed t=false∧c < 32∧∀ w,(Rtype.kind t).run Tryz.prog w=.ok c w:=fun t c h=>by
 rcases mem4 h with h | h | h | h<;>cases h<;>exact ⟨by kernel_rfl,by decide,fun w=>by kernel_rfl⟩
theorem tab_ptrs:∀ t e,(t,e) ∈ tabT.ptrs→Tryz.prog.packed t=false∧Tryz.prog.underlying t=some (.pointer e)∧∀ w,(Rtype.elem? t).run Tryz.prog w=.ok (some e) w:=fun t e h=>by
 rcases mem2 h with h | h<;>cases h<;>exact ⟨by kernel_rfl,by kernel_rfl,fun w=>by kernel_rfl⟩
def oneB (t:Nat):Bool:=match Tryz.prog.underlying t,Tryz.prog.info? t with | some d,some i=>!aggD d && i.size == 1 | _,_=>false
theorem oneB_ok {t:Nat} (h:oneB t=true):∃ d i,Tryz.prog.underlying t=some d∧aggD d=false∧Tryz.prog.info? t=some i∧i.size=1:=by
 unfold oneB at h
 split at h
 ·rename_i d i h1 h2
  simp at h
  exact ⟨d,i,h1,h.1,h2,h.2⟩
 ·cases h
theorem tab_one:∀ t,t ∈ tabT.one→∃ d i,Tryz.prog.underlying t=some d∧aggD d=false∧Tryz.prog.info? t=some i∧i.size=1:=fun t h=>by
 rcases mem2 h with rfl | rfl<;>exact oneB_ok (by kernel_rfl)
theorem tab_parts:∀ t c,(t,c) ∈ tabT.kinds→∀ a w u,(u=c + 128∨u=c + 384)→(ReflectliteValue.partsAny (.agg #[.pointer (some ⟨HB,t,none⟩),.pointer (some a),.int .u64 (u:Int)])).run Tryz.prog w=.ok (some (t,a,u)) w:=fun t c h a w u hu=>by
 rcases mem4 h with h | h | h | h<;>cases h<;>rcases hu with rfl | rfl<;>kernel_rfl
theorem tab_comp : ∀ t b, (t, b) ∈ tabT.comp → ∀ w, (ReflectliteType.method (fun t => do Rtype.noPackHeld "Comparable" t; pure (.bool (← typeInfo t).comparable)) #[.agg #[.pointer (some ⟨HB, t, none⟩)]]).run Tryz.prog w = .ok (.bool b) w := fun t b h w => by
 rcases mem2 h with h | h<;>cases h<;>kernel_rfl
theorem tab_assg : ∀ t u b, ((t, u), b) ∈ tabT.assg → ∀ r w, (ReflectliteType.relation "AssignableTo" ReflectliteType.assignableTo #[.agg #[.pointer (some ⟨HB, t, none⟩)], .iface r (.agg #[.pointer (some ⟨HB, u, none⟩)])]).run Tryz.prog w = .ok (.bool b) w := fun t u b h r w => by
 rcases mem4 h with h | h | h | h<;>cases h<;>kernel_rfl
theorem tab_impl : ∀ t u b, ((t, u), b) ∈ tabT.impl → ∀ r w, (ReflectliteType.relation "Implements" ReflectliteType.implements_ #[.agg #[.pointer (some ⟨HB, t, none⟩)], .iface r (.agg #[.pointer (some ⟨HB, u, none⟩)])]).run Tryz.prog w = .ok (.bool b) w := fun t u b h r w => by
 rcases mem2 h with h | h<;>cases h<;>kernel_rfl
theorem tab_ok:RTabOk Tryz.prog tabT:=⟨tab_hb,tab_ct,tab_kinds,tab_parts,tab_ptrs,tab_one,tab_comp,tab_assg,tab_impl⟩
theorem prom_ok : ∀ t m f, (t, m, f) ∈ [(292, "Kind", 501)] → ∀ (h : Value) (w : World), (method (Tryz.prog.types.size + Made.depth) t (.agg #[h]) m).run Tryz.prog w = .ok (f, h) w := fun t m f hm h w => by
 simp only [List.mem_singleton] at hm
 cases hm
 kernel_rfl
theorem tb_ok:TbOk Tryz.prog tbT:=tbP_ok Tryz.prog (of_decide_eq_true (by kernel_rfl)) prom_ok
theorem mixed:Tryz.prog.follows .mixedOrders=true:=by kernel_rfl
end
end Go.Proofs

/- The evaluator, part 13: definitions and their laws, over any program. No condition. -/
import Derived.Test.YtfaecnnbaeefkaaGreatDoorVE12
set_option linter.all false
namespace Go.VE
noncomputable section
open Go
section
variable {P : Program} {ρ : Mp} {h : H} {n : Nat} {w : World} {k : K} {rr : RR} {st xt et tt : TypeId} {ei : TypeInfo}
theorem run_asInt {j : IntKind} {a : Int} : (Go.asInt (.int j a)).run P w = .ok a w := by simp [Go.asInt, Go.asIntOf]
def zC (z : Value) (size a : Nat) : Array Value := if a * size = 0 then #[] else Builtin.zeroCells z.cells a
theorem way_zero (hs : P.underlying st = some (.slice et)) (hin : P.info? et = some ei) {kd : IntKind} (hx : P.underlying xt = some (.int kd)) {z : Value} (hz : ei.zero = some z) {a : Nat} {j : IntKind} (ha : a < 16777216) (hab : a * ei.bytes ≤ 140737488355328) :
    Way P w et ei.size ei.bytes z (fun s => Builtin.append_ #[st, xt] tt #[s, .int j a]) (fun _ c => c = zC z ei.size a) a := by
  have hw := wrap_nat (a := a) (by omega)
  have hb : ¬ (281474976710656 < (a : Int) * (ei.bytes : Int)) := by
    have : ((a * ei.bytes : Nat) : Int) = (a : Int) * (ei.bytes : Int) := by simp
    omega
  have hn0 : ¬ ((a : Int) < 0) := by omega
  refine ⟨fun h0 => ?_, fun b len cap c w' h1 h2 h3 => ?_, fun base len cap c1 c2 h1 h2 h3 h4 h5 => ?_⟩
  · subst h0
    have hw0 : IntKind.i64.wrap 0 = 0 := by simpa using hw
    simp [Builtin.append_, run_und hs, run_und hx, run_size hin, run_info hin, run_asInt, hw0]
  · subst h1
    unfold zC at h3
    by_cases h0 : a * ei.size = 0
    · rw [if_pos h0] at h3
      simp [Builtin.append_, run_und hs, run_und hx, run_size hin, run_info hin, run_asInt, hw, hn0, hb, h2, h0, h3]
    · rw [if_neg h0] at h3
      simp [Builtin.append_, run_und hs, run_und hx, run_size hin, run_info hin, run_asInt, hw, hn0, hb, h2, h0, run_zero hin hz, h3]
  · subst h5
    have hbig : ¬ (281474976710656 < Builtin.nextslicecap (len + a) cap * ei.bytes) := by have := growslice_fits h1 h2; omega
    have hnle : ¬ (len + a ≤ cap) := by omega
    have h63 : ¬ (9223372036854775807 < ((len : Int) + (a : Int))) := by omega
    unfold zC
    by_cases h0 : a * ei.size = 0
    · simp [Builtin.append_, run_und hs, run_und hx, run_size hin, run_info hin, run_asInt, hw, hn0, hb, hnle, h63, hbig, h0, Question.forced, askRoom_run, h4, run_zero hin hz, run_newRow, grownCap]
    · simp [Builtin.append_, run_und hs, run_und hx, run_size hin, run_info hin, run_asInt, hw, hn0, hb, hnle, h63, hbig, h0, Question.forced, askRoom_run, h4, run_zero hin hz, run_newRow, grownCap]
theorem seg_zero {z : Value} {l : AV} {size a : Nat} (hl : relL ρ l z.cells.toList) (ho : okCs l = true) (hs : lenC l = size) (hle : a * size ≤ 140737488355328) : SegOf ρ size a (.vs (a * size) 0 (zeroT l size a)) (zC z size a) := by
  have hzs : z.cells.size = size := by rw [← hs, relL_len (chain_of_relL hl) hl]; simp
  have hro := relO_zero (e := 0) (c := a) hl ho hs hle
  obtain ⟨c, e', fz, k1, _, k3⟩ := relO_cells hro
  cases k1
  have hsz : (zC z size a).size = a * size := by
    unfold zC
    split
    · rename_i h0; simp [h0]
    · rw [zeroCells_size, hzs]
  refine ⟨hsz, rfl, fun j hj => ?_⟩
  obtain ⟨v, v1, v2, v3, _⟩ := k3 j hj
  rw [Nat.zero_add] at v1 ⊢
  refine ⟨v, ?_, v2, v3⟩
  have h0 : ¬ (a * size = 0) := by omega
  unfold zC
  rw [if_neg h0]
  unfold Builtin.zeroCells
  rw [hzs]
  rw [hzs] at v1
  exact v1
theorem seg_zeroB {z : Value} {a : Nat} (hz : z.cells = #[.int .u8 0]) (hle : a ≤ 140737488355328) : SegOf ρ 1 a (.bs a 0) (zC z 1 a) := by
  have hsz : (zC z 1 a).size = a * 1 := by
    unfold zC
    split
    · rename_i h0; simp [h0]
    · rw [zeroCells_size, hz]; rfl
  refine ⟨hsz, rfl, rfl, List.replicate a 0, packs_zero a, fun j hj => ?_⟩
  simp only [List.length_replicate] at hj
  have h0 : ¬ (a * 1 = 0) := by omega
  unfold zC
  rw [if_neg h0]
  unfold Builtin.zeroCells
  rw [hz]
  simp [hj, Nat.mod_one]
theorem val_appendZ (hi : Inv ρ h n w) (hne : rr ≠ .fail) (hs : P.underlying st = some (.slice et)) (hin : P.info? et = some ei) {kd : IntKind} (hxt : P.underlying xt = some (.int kd)) {z : Value} (hz : ei.zero = some z) {u8 : Bool} {l : AV}
    (hl : u8 = false → relL ρ l z.cells.toList ∧ okCs l = true ∧ lenC l = ei.size) (h8 : u8 = true → z.cells = #[.int .u8 0] ∧ ei.size = 1) {x y : AV} {rx ry : Value} (hx : rel ρ x rx) (hy : rel ρ y ry)
    (hsz : ∀ a : Nat, a < 16777216 → a * ei.size ≤ 140737488355328)
    (e : (asInt y fun kd a => br (Nat.blt a 16777216) (br (Nat.blt a (hiN kd)) (appendA ei.size ei.bytes x a (br u8 (.bs a 0) (.vs (a * ei.size) 0 (zeroT l ei.size a))) h n k) .fail) .fail) = rr) :
    Val P (Builtin.append_ #[st, xt] tt #[rx, ry]) ρ h n w k rr := by
  obtain ⟨kn, a, rfl, e1⟩ := asInt_inv e hne
  obtain ⟨h1, e2⟩ := br_fail e1 hne
  obtain ⟨h2, e3⟩ := br_fail e2 hne
  rw [Nat.blt_eq] at h1 h2
  obtain ⟨j, _, rfl⟩ := nat_inv hi hne hy h2
  have hab : a * ei.bytes ≤ 140737488355328 := by
    cases x <;> try exact absurd e3.symm hne
    case nils =>
      simp only [appendA, br_if] at e3
      by_cases h0 : Nat.beq a 0 = true
      · rw [Nat.beq_eq] at h0; rw [h0]; omega
      · rw [if_neg h0, ← br_if, ← br_if] at e3
        obtain ⟨_, e4⟩ := br_fail e3 hne
        obtain ⟨h5, _⟩ := br_fail e4 hne
        rwa [Nat.ble_eq] at h5
    case sl b off len cap ex =>
      obtain ⟨_, e4⟩ := br_fail e3 hne
      obtain ⟨h5, _⟩ := br_fail e4 hne
      rw [Nat.ble_eq] at h5
      exact Nat.le_trans (Nat.mul_le_mul_right _ (by omega)) h5
  have hzs : z.cells.size = ei.size := by
    cases u8 with
    | true => obtain ⟨g1, g2⟩ := h8 rfl; rw [g1, g2]; rfl
    | false =>
      obtain ⟨g1, g2, g3⟩ := hl rfl
      rw [← g3, relL_len (chain_of_relL g1) g1]; simp
  have hsrc : Src ρ w ei.size (fun _ c => c = zC z ei.size a) a (br u8 (.bs a 0) (.vs (a * ei.size) 0 (zeroT l ei.size a))) := by
    refine ⟨fun w' _ => ⟨_, rfl, ?_⟩⟩
    cases u8 with
    | true =>
      obtain ⟨g1, g2⟩ := h8 rfl
      rw [br_true, g2]
      exact seg_zeroB g1 (by omega)
    | false =>
      obtain ⟨g1, g2, g3⟩ := hl rfl
      rw [br_false]
      exact seg_zero g1 g2 g3 (hsz a h1)
  exact val_appendA (f := fun s => Builtin.append_ #[st, xt] tt #[s, .int j a]) hi hne hzs hx hsrc (way_zero hs hin hxt hz h1 hab) e3
end
section
variable {P : Program} {tb : Tb} {o : Oper}
def appZGood (tb : Tb) (ats : Array TypeId) : Bool := Nat.beq ats.size 2 && (match und tb (ats.getD 1 0) with | .int _ => true | _ => false) && (match und tb (ats.getD 0 0) with
  | .slice e => (match tb.types.get (e + 1) with
    | some i => bif isU8 tb e then (match i.zero with | some z => isZ8 z && Nat.beq i.size 1 | none => false)
      else (match zeroL tb e with | some z => okCs z && Nat.beq (lenC z) i.size && Nat.ble i.size 4096 | none => true)
    | none => false)
  | _ => true)
theorem appZ_ok {c : Call} (hT : TbOk P tb) (hop : o.op = .call c) (hcb : c.callee = .builtin .append) (h : appZGood tb c.argTypes = true) : OpOk P tb o := by
  unfold appZGood at h
  rw [Bool.and_eq_true, Bool.and_eq_true] at h
  obtain ⟨⟨h0, h1⟩, h2⟩ := h
  rw [Nat.beq_eq] at h0
  intro ds ls e a ρ h' n w call k rr Q hc hf hi hr hne
  have hr' := low_builtin hop hcb hr hne
  obtain ⟨x, y, hl⟩ := two_args hr' hne (.inl rfl)
  rw [hl] at hr'
  simp only [lowBuiltin] at hr'
  have hx := mem_args hop hcb (x := x) (by rw [hl]; simp)
  have hy := mem_args hop hcb (x := y) (by rw [hl]; simp)
  have hat : c.argTypes = #[c.argTypes.getD 0 0, c.argTypes.getD 1 0] := by
    apply Array.ext
    · simp [h0]
    · intro i h1 h2
      simp at h2
      rcases i with _ | _ | i
      · simp [Array.getElem?_eq_getElem (show 0 < c.argTypes.size by omega)]
      · simp [Array.getElem?_eq_getElem (show 1 < c.argTypes.size by omega)]
      · omega
  cases hu : und tb (c.argTypes.getD 0 0) with
  | slice et =>
    rw [hu] at hr' h2
    simp only at hr' h2
    cases hg : tb.types.get (et + 1) with
    | none => rw [hg] at hr'; exact absurd hr'.symm hne
    | some i =>
      cases hzl : zeroL tb et with
      | none => rw [hg, hzl] at hr'; exact absurd hr'.symm hne
      | some z =>
        rw [hg, hzl] at hr'
        rw [hg] at h2
        simp only at hr' h2
        cases hu1 : und tb (c.argTypes.getD 1 0) with
        | int kd =>
          rw [hu1] at hr'
          obtain ⟨s, u, g1, g2, hk⟩ := ok2_inv hr' hne
          have hzero : ∃ zv, i.zero = some zv := by
            unfold zeroL at hzl
            cases hza : zeroA tb et with
            | none => rw [hza] at hzl; cases hzl
            | some z' =>
              obtain ⟨i', zv, g1, _, g3, _⟩ := zeroA_of hT hza
              rw [hg] at g1; cases g1
              exact ⟨zv, g3⟩
          obtain ⟨zv, hzv⟩ := hzero
          refine wp_valB hop hcb (s := Builtin.append_ #[c.argTypes.getD 0 0, c.argTypes.getD 1 0] o.type #[a.eval x, a.eval y]) (fun consts => ?_)
            (val_appendZ hi hne (hT.und hu (by simp)).1 (hT.info _ _ hg) (hT.und hu1 (by simp)).1 hzv (u8 := isU8 tb et) (l := z) (fun h8 => ?_) (fun h8 => ?_) (hf x hx s g1) (hf y hy u g2) (fun b hb => ?_) hk)
          · rw [args2 hl, ← hat]; rfl
          · rw [h8, cond_false, hzl] at h2
            simp only [Bool.and_eq_true] at h2
            obtain ⟨i', zv', z1, z2, z3, z4⟩ := zeroL_of hT hzl h2.1.1
            rw [hg] at z1; cases z1
            rw [hzv] at z3; cases z3
            exact ⟨z4 ρ, h2.1.1, beq_n h2.1.2⟩
          · rw [h8, cond_true, hzv] at h2
            simp only [Bool.and_eq_true] at h2
            rw [isZ8_of h2.1]
            exact ⟨rfl, beq_n h2.2⟩
          · have hs : i.size ≤ 4096 := by
              cases h8 : isU8 tb et with
              | true =>
                rw [h8, cond_true, hzv] at h2
                simp only [Bool.and_eq_true] at h2
                have := beq_n h2.2; omega
              | false =>
                rw [h8, cond_false, hzl] at h2
                simp only [Bool.and_eq_true] at h2
                exact Nat.le_of_ble_eq_true h2.2
            exact Nat.le_trans (Nat.mul_le_mul (Nat.le_of_lt hb) hs) (by decide)
        | _ => rw [hu1] at h1; cases h1
  | _ => rw [hu] at hr'; exact absurd hr'.symm hne
end
end
end Go.VE
namespace Go.VE
noncomputable section
open Go
def opGoodX (tb : Tb) (o : Op) : Bool := opGood tb o || (match o with
  | .call c => (match c.callee with | .builtin .append => appZGood tb c.argTypes | _ => false)
  | _ => false)
theorem opGoodX_ok {P : Program} {tb : Tb} (hT : TbOk P tb) {o : Oper} (h : opGoodX tb o.op = true) : OpLaw P tb o := by
  unfold opGoodX at h
  rw [Bool.or_eq_true] at h
  rcases h with h | h
  · exact ⟨opGood_ok hT h, fun hk => float_ok hT h hk⟩
  · cases hop : o.op with
    | call c =>
      rw [hop] at h
      simp only at h
      refine ⟨?_, fun hk => by rw [hop] at hk; cases hk⟩
      cases hc : c.callee with
      | builtin b =>
        rw [hc] at h
        cases b with
        | append => exact appZ_ok hT hop hc h
        | _ => cases h
      | _ => rw [hc] at h; cases h
    | _ => rw [hop] at h; cases h
def opsGood (tb : Tb) : Code → Bool
  | .region _ ops _ => ops.toList.all fun o => opGoodX tb o.op
  | .seq a b | .cond _ a b | .rangeFunc _ _ a b => opsGood tb a && opsGood tb b
  | .block _ b | .loop b | .scope b => opsGood tb b
  | _ => true
theorem opsGood_ok {P : Program} {tb : Tb} (hT : TbOk P tb) : ∀ (c : Code), opsGood tb c = true → AllOps (OpLaw P tb) c
  | .region _ ops _, h => fun o ho => by
    simp only [opsGood, List.all_eq_true] at h
    exact opGoodX_ok hT (h o ho)
  | .seq a b, h => by
    simp only [opsGood, Bool.and_eq_true] at h
    exact ⟨opsGood_ok hT a h.1, opsGood_ok hT b h.2⟩
  | .cond _ a b, h => by
    simp only [opsGood, Bool.and_eq_true] at h
    exact ⟨opsGood_ok hT a h.1, opsGood_ok hT b h.2⟩
  | .rangeFunc _ _ a b, h => by
    simp only [opsGood, Bool.and_eq_true] at h
    exact ⟨opsGood_ok hT a h.1, opsGood_ok hT b h.2⟩
  | .block _ b, h => opsGood_ok hT b h
  | .loop b, h => opsGood_ok hT b h
  | .scope b, h => opsGood_ok hT b h
  | .skip, _ | .exit _, _ | .label _, _ | .goto _, _ | .ret, _ | .refuse _, _ => trivial
def fnGood (tb : Tb) (fn : Func) : Bool := match fn.body with
  | some c => rfOk true c && drawsOk tb c && opsGood tb c && !(fn.name == "runtime.NumGoroutine")
  | none => false
def iterGood (tb : Tb) (fn : Func) : Bool := match fn.body with
  | some c => drawsOk tb c && opsGood tb c && !(fn.name == "runtime.NumGoroutine")
  | none => false
theorem iter_ok {P : Program} {tb : Tb} (hT : TbOk P tb) {it : IterT} (h : ∀ g lg, it g = some lg → ∃ fn, P.funcs[g]? = some fn ∧ lowGF tb fn = some lg ∧ iterGood tb fn = true) : IterOk P tb it := by
  intro g lg hg
  obtain ⟨fn, h1, h2, h3⟩ := h g lg hg
  unfold iterGood at h3
  cases hb : fn.body with
  | none => rw [hb] at h3; cases h3
  | some c =>
    rw [hb] at h3
    simp only [Bool.and_eq_true, Bool.not_eq_true'] at h3
    exact ⟨fn, c, h1, hb, h3.2, h2, opsGood_ok hT c h3.1.2, h3.1.1⟩
theorem cx_ok {P : Program} {tb : Tb} (hT : TbOk P tb) {cx : Cx} (hcode : ∀ f lf, cx.code f = some lf → ∃ fn, P.funcs[f]? = some fn ∧ lowF tb fn = some lf ∧ fnGood tb fn = true) (hiter : IterOk P tb cx.iter)
    (hintr : ∀ f i, cx.intr f = some i → ∀ (args : List AV) (h : H) (n : Nat) (k : K) (rr : RR), i args h n k = rr → rr ≠ .fail → CallLaw P f args h n k rr) : CxOk P tb cx := by
  refine ⟨fun f lf hf => ?_, hiter, hintr⟩
  obtain ⟨fn, h1, h2, h3⟩ := hcode f lf hf
  unfold fnGood at h3
  cases hb : fn.body with
  | none => rw [hb] at h3; cases h3
  | some c =>
    rw [hb] at h3
    simp only [Bool.and_eq_true, Bool.not_eq_true'] at h3
    exact ⟨fn, c, h1, hb, h3.2, h2, h3.1.1.1, opsGood_ok hT c h3.1.2, h3.1.1.2⟩
end
end Go.VE

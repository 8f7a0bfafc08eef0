/- The evaluator, part 4: definitions and their laws, over any program. No condition. -/
import Derived.Laws.Strings
import Derived.Lib.Strings
import Derived.Test.YtfaecnnbaeefkaaGreatDoorVE3
set_option linter.all false
namespace Go.VE
noncomputable section
open Go
section
variable {P : Program} {ρ : Mp} {h : H} {n : Nat} {w : World} {k : K} {rr : RR}
theorem enc_mul_nat (k : IntKind) (x : Int) (z : Nat) : encI k (x * (z : Int)) = (encI k x * z) % moN (kindN k) := by
  have : ((encI k (x * (z : Int)) : Nat) : Int) = ((encI k x * z) % moN (kindN k) : Nat) := by
    rw [enc_cast, Int.natCast_emod, Int.natCast_mul, enc_cast, Int.mul_emod, Int.mul_emod (x % _) (z : Int), Int.emod_emod]
  exact_mod_cast this
theorem bl_total : ∀ (a b : List UInt8), (Op.bytesLess a b || a == b) = !(Op.bytesLess b a)
  | [], [] => rfl
  | [], b :: m => rfl
  | a :: l, [] => rfl
  | a :: l, b :: m => by
    have ih := bl_total l m
    simp only [Op.bytesLess]
    rcases Nat.lt_trichotomy a.toNat b.toNat with hab | hab | hab
    · have h1 : (a < b) := UInt8.lt_iff_toNat_lt.2 hab
      have h2 : ¬ b < a := fun hh => by have := UInt8.lt_iff_toNat_lt.1 hh; omega
      have h3 : (b == a) = false := by rw [beq_eq_false_iff_ne]; rintro rfl; omega
      simp [h1, h2, h3]
    · have h1 : a = b := UInt8.toNat_inj.1 hab
      subst h1
      simp only [beq_self_eq_true, Bool.true_and]
      simp
      exact ih
    · have h1 : (b < a) := UInt8.lt_iff_toNat_lt.2 hab
      have h2 : ¬ a < b := fun hh => by have := UInt8.lt_iff_toNat_lt.1 hh; omega
      have h3 : (a == b) = false := by rw [beq_eq_false_iff_ne]; rintro rfl; omega
      simp [h1, h2, h3]
theorem bi_bits (k : IntKind) : biN (kindN k) = k.bits := by cases k <;> rfl
section
variable {kd : IntKind} {x y : AV} {rx ry : Value} {t : TypeId} (hi : Inv ρ h n w) (hx : rel ρ x rx) (hy : rel ρ y ry) (hne : rr ≠ .fail)
include hi hx hy hne
theorem val_shl (e : (asInt x fun i a => asInt y fun j b => br (Nat.beq i (kindN kd)) (br (Nat.blt b (hiN j)) (frc ((a * 2 ^ Nat.min b (biN (kindN kd))) % moN (kindN kd)) fun c => k (.int (kindN kd) c) h n) .fail) .fail) = rr) :
    Val P (binOp .shl t rx ry) ρ h n w k rr := by
  obtain ⟨i, a, rfl, e1⟩ := asInt_inv e hne
  obtain ⟨j, b, rfl, e2⟩ := asInt_inv e1 hne
  obtain ⟨h1, e3⟩ := br_fail e2 hne
  obtain ⟨h2, e4⟩ := br_fail e3 hne
  rw [Nat.beq_eq] at h1; subst h1
  rw [Nat.blt_eq] at h2
  rw [frc_eq] at e4
  obtain ⟨p, rfl, rfl, hp⟩ := int_inv hx
  obtain ⟨kj, q, rfl, rfl, rfl, hq⟩ := int_inv' hy
  have e5 := enc_self hq
  have hq0 := e5.1.1 h2
  refine .same hi e4 (rv := .int kd (kd.wrap (p * ((2 ^ Nat.min (encI kj q) (biN (kindN kd)) : Nat) : Int)))) ?_ (rel_int' (enc_mul_nat _ _ _).symm)
  have e6 : q.toNat = encI kj q := by have := e5.2 hq0; omega
  have e7 : ¬ q < 0 := by omega
  simp only [binOp, Op.shift, e7, if_false, Sem.run_pure, e6, bi_bits]
  simp
theorem val_shr (e : (asInt x fun i a => asInt y fun j b => br (Nat.beq i (kindN kd)) (br (Nat.blt b (hiN j)) (br (Nat.blt a (hiN (kindN kd))) (frc (a / 2 ^ Nat.min b (biN (kindN kd))) fun c => k (.int (kindN kd) c) h n) .fail) .fail) .fail) = rr) :
    Val P (binOp .shr t rx ry) ρ h n w k rr := by
  obtain ⟨i, a, rfl, e1⟩ := asInt_inv e hne
  obtain ⟨j, b, rfl, e2⟩ := asInt_inv e1 hne
  obtain ⟨h1, e3⟩ := br_fail e2 hne
  obtain ⟨h2, e4⟩ := br_fail e3 hne
  obtain ⟨h3, e5⟩ := br_fail e4 hne
  rw [Nat.beq_eq] at h1; subst h1
  rw [Nat.blt_eq] at h2 h3
  rw [frc_eq] at e5
  obtain ⟨p, rfl, rfl, hp⟩ := int_inv hx
  obtain ⟨kj, q, rfl, rfl, rfl, hq⟩ := int_inv' hy
  have g1 := enc_self hq
  have g2 := enc_self hp
  have hq0 := g1.1.1 h2
  have hp0 := g2.1.1 h3
  have e6 : q.toNat = encI kj q := by have := g1.2 hq0; omega
  have e7 : ¬ q < 0 := by omega
  have hlt : encI kd p / 2 ^ Nat.min (encI kj q) (biN (kindN kd)) < hiN (kindN kd) := Nat.lt_of_le_of_lt (Nat.div_le_self _ _) h3
  have hr := rel_int (ρ := ρ) (in_nat hlt)
  rw [enc_nat (Nat.lt_of_lt_of_le hlt (hi_le_mo kd))] at hr
  refine .same hi e5 ?_ hr
  simp only [binOp, Op.shift, e7, if_false, Sem.run_pure, e6, bi_bits]
  have e8 : p = ((encI kd p : Nat) : Int) := (g2.2 hp0).symm
  generalize encI kd p = u at *
  subst e8
  have : ((u : Int)).fdiv (2 ^ min (encI kj q) kd.bits) = ((u / 2 ^ Nat.min (encI kj q) kd.bits : Nat) : Int) := by
    rw [Int.fdiv_eq_ediv_of_nonneg _ (Int.le_of_lt (Int.pow_pos (by omega)))]
    simp
  rw [this]
theorem val_cat (e : str2 x y (fun a s c d => br (Nat.blt (a + c) 140737488355328) (frc (catB s c d) fun z => k (.str (a + c) z) h n) .fail) = rr) : Val P (binOp .add t rx ry) ρ h n w k rr := by
  cases x <;> try exact absurd e.symm hne
  cases y <;> try exact absurd e.symm hne
  obtain ⟨h1, e1⟩ := br_fail e hne
  rw [Nat.blt_eq] at h1
  rw [frc_eq] at e1
  simp only [rel] at hx hy
  obtain ⟨s, rfl, hs⟩ := hx
  obtain ⟨u, rfl, hu⟩ := hy
  refine .same hi e1 (rv := .string (s ++ u)) ?_ ?_
  · have e2 : ¬ (((s.size + u.size : Nat) : Int) > IntKind.i64.max) := by
      rw [(minmax _).2]
      have := hs.1; have := hu.1
      rw [Lib.size_eq, Lib.size_eq]; simp only; omega
    simp only [binOp, Op.stringOp, e2, if_false, Sem.run_pure]
  · simp only [rel]
    refine ⟨_, rfl, ?_⟩
    have := packs_cat hs hu
    simpa using this
theorem val_ltS (e : str2 x y (fun a s c d => k (.bool (ltB a s c d)) h n) = rr) : Val P (binOp .lss t rx ry) ρ h n w k rr := by
  cases x <;> try exact absurd e.symm hne
  cases y <;> try exact absurd e.symm hne
  simp only [rel] at hx hy
  obtain ⟨s, rfl, hs⟩ := hx
  obtain ⟨u, rfl, hu⟩ := hy
  refine .same hi e (rv := .bool (Op.bytesLess s.data.toList u.data.toList)) ?_ ?_
  · simp [binOp, Op.stringOp, ByteArray.toList_eq]
  · rw [ltB_eq hs hu]; exact rel_bool _
theorem val_leS (e : str2 x y (fun a s c d => k (.bool (!ltB c d a s)) h n) = rr) : Val P (binOp .leq t rx ry) ρ h n w k rr := by
  cases x <;> try exact absurd e.symm hne
  cases y <;> try exact absurd e.symm hne
  simp only [rel] at hx hy
  obtain ⟨s, rfl, hs⟩ := hx
  obtain ⟨u, rfl, hu⟩ := hy
  refine .same hi e (rv := .bool (!(Op.bytesLess u.data.toList s.data.toList))) ?_ ?_
  · have : (Op.bytesLess s.data.toList u.data.toList || s.data.toList == u.data.toList) = !(Op.bytesLess u.data.toList s.data.toList) := by
      exact bl_total _ _
    simp only [binOp, Op.stringOp, ByteArray.toList_eq, this, Sem.run_pure]
  · rw [ltB_eq hu hs]; exact rel_bool _
end
end
end
end Go.VE

/- The evaluator, part 2: definitions and their laws, over any program. No condition. -/
import Derived.Test.YtidmnoafhdhhlaaGreatDoorVE1
set_option linter.all false
namespace Go.VE
noncomputable section
theorem zhf (l : List UInt8) : ∀ x, zb3 l x = x * 256 ^ l.length + zb3 l 0 := by
  induction l with
  | nil => intro x; simp [zb3]
  | cons b l ih =>
    intro x
    simp only [zb3, List.length_cons]
    rw [ih, ih (0 * 256 + b.toNat)]
    rw [Nat.pow_succ, Nat.add_mul, Nat.zero_mul, Nat.zero_add, Nat.mul_assoc, Nat.mul_comm 256]; omega
theorem zhg (l : List UInt8) : zb3 l 0 < 256 ^ l.length := by
  induction l with
  | nil => simp [zb3]
  | cons b l ih =>
    simp only [zb3, List.length_cons]
    rw [zhf, Nat.pow_succ]
    have hb : b.toNat < 256 := b.toNat_lt
    have : (0 * 256 + b.toNat) * 256 ^ l.length ≤ 255 * 256 ^ l.length := Nat.mul_le_mul_right _ (by omega)
    omega
theorem zfo (a b : List UInt8) : zb3 (a ++ b) 0 = zb3 a 0 * 256 ^ b.length + zb3 b 0 := by
  have : ∀ x, zb3 (a ++ b) x = zb3 b (zb3 a x) := by
    induction a with
    | nil => intro x; rfl
    | cons c a ih => intro x; simp only [List.cons_append, zb3]; exact ih _
  rw [this, zhf]
def zb6 (l : List UInt8) (n x : Nat) : Prop := l.length = n ∧ zb3 l 0 = x
theorem zni : zb6 [] 0 0 := ⟨rfl, rfl⟩
theorem zfp {a b : List UInt8} {n x m y : Nat} (ha : zb6 a n x) (hb : zb6 b m y) : zb6 (a ++ b) (n + m) (catB x m y) := by
  obtain ⟨rfl, rfl⟩ := ha; obtain ⟨rfl, rfl⟩ := hb
  refine ⟨by simp, ?_⟩
  rw [zfo]; rw [zln]
  rw [Nat.shiftLeft_eq, Nat.pow_mul]
theorem zqi (m : Nat) : 2 ^ (8 * m) = 256 ^ m := by rw [Nat.pow_mul]
theorem zrl {l : List UInt8} {n x r : Nat} (h : zb6 l n x) (hr : r ≤ n) : zb6 (l.take r) r (x / 256 ^ (n - r)) := by
  obtain ⟨rfl, rfl⟩ := h
  refine ⟨by simp; omega, ?_⟩
  have h1 := zfo (l.take r) (l.drop r)
  rw [List.take_append_drop] at h1
  have h2 := zhg (l.drop r)
  rw [List.length_drop] at h1 h2
  rw [h1, Nat.mul_comm, Nat.mul_add_div (Nat.pow_pos (by omega)), Nat.div_eq_of_lt h2]; rfl
theorem zrk {l : List UInt8} {n x r : Nat} (h : zb6 l n x) (hr : r ≤ n) : zb6 (l.drop r) (n - r) (x % 256 ^ (n - r)) := by
  obtain ⟨rfl, rfl⟩ := h
  refine ⟨by simp, ?_⟩
  have h1 := zfo (l.take r) (l.drop r)
  rw [List.take_append_drop] at h1
  have h2 := zhg (l.drop r)
  rw [List.length_drop] at h1 h2
  rw [h1, Nat.mul_comm, Nat.mul_add_mod, Nat.mod_eq_of_lt h2]
theorem zdj {l : List UInt8} {n x a b : Nat} (h : zb6 l n x) (hab : a ≤ b) (hb : b ≤ n) : zb6 ((l.take b).drop a) (b - a) (cutB n x a b) := by
  have h1 := zrk (zrl h hb) (r := a) hab
  refine ⟨h1.1, ?_⟩
  rw [h1.2, zg3]
  rw [Nat.shiftRight_eq_div_pow, zqi, zqi]
theorem zdg {l : List UInt8} {n x i : Nat} (h : zb6 l n x) (hi : i < n) : zar n x i = (l[i]'(by rw [h.1]; exact hi)).toNat := by
  have h1 := zdj h (a := i) (b := i + 1) (by omega) (by omega)
  have h2 : (l.take (i + 1)).drop i = [l[i]'(by rw [h.1]; exact hi)] := by
    have hl := h.1
    rw [List.drop_take, show i + 1 - i = 1 by omega, List.drop_eq_getElem_cons (by omega)]
    rfl
  rw [h2] at h1
  have h3 := h1.2
  rw [zg3] at h3
  rw [zq1]
  have e1 : n - 1 - i = n - (i + 1) := by omega
  have e2 : i + 1 - i = 1 := by omega
  rw [e2] at h3
  rw [e1, ← show (2 ^ (8 * 1)) = 256 from rfl, ← h3]
  simp [zb3]
theorem zcs (n x i : Nat) : zar n x i < 256 := Nat.mod_lt _ (by omega)
theorem zjw {c : Nat} (h : c < 256) : zb6 [UInt8.ofNat c] 1 c := by
  refine ⟨rfl, ?_⟩
  simp [zb3]; omega
theorem zhh {l m : List UInt8} {n x off k y : Nat} (h : zb6 l n x) (hm : zb6 m k y) (ho : off + k ≤ n) :
    zb6 (l.take off ++ m ++ l.drop (off + k)) n (layB n x off k y) := by
  have hl := h.1
  have h1 := zdj h (a := 0) (b := off) (by omega) (by omega)
  have h2 := zdj h (a := off + k) (b := n) (by omega) (by omega)
  have h3 := zfp (zfp h1 hm) h2
  have e1 : off - 0 + k + (n - (off + k)) = n := by omega
  have e2 : n - (off + k) = n - off - k := by omega
  rw [e1] at h3
  simp only [List.drop_zero] at h3
  rw [List.take_of_length_le (by omega : l.length ≤ n)] at h3
  unfold layB
  rw [← e2]
  exact h3
theorem znh {l m : List UInt8} {n x : Nat} (h1 : zb6 l n x) (h2 : zb6 m n x) : l = m := by
  apply List.ext_getElem
  · rw [h1.1, h2.1]
  · intro i hi hj
    have hi' : i < n := by rw [← h1.1]; exact hi
    have e1 := zdg h1 hi'
    have e2 := zdg h2 hi'
    exact UInt8.toNat_inj.1 (by rw [← e1, ← e2])
theorem zl6 {l m : List UInt8} {n x k y : Nat} (h1 : zb6 l n x) (h2 : zb6 m k y) : (l = m) ↔ (n = k ∧ x = y) := by
  constructor
  · rintro rfl; exact ⟨h1.1.symm.trans h2.1, h1.2.symm.trans h2.2⟩
  · rintro ⟨rfl, rfl⟩; exact znh h1 h2
theorem zdv (n : Nat) : zb6 (List.replicate n 0) n 0 := by
  refine ⟨by simp, ?_⟩
  induction n with
  | zero => rfl
  | succ n ih => simp [List.replicate_succ, zb3, ih]
theorem zg2 : ∀ (a b : List UInt8), Op.bytesLess a b = true ↔
    zb3 a 0 * 256 ^ (max a.length b.length - a.length) < zb3 b 0 * 256 ^ (max a.length b.length - b.length) ∨
    (zb3 a 0 * 256 ^ (max a.length b.length - a.length) = zb3 b 0 * 256 ^ (max a.length b.length - b.length) ∧ a.length < b.length)
  | a, [] => by
    simp only [Op.bytesLess, Bool.false_eq_true, false_iff]
    simp [zb3]
  | [], b :: l => by
    simp only [Op.bytesLess, true_iff]
    simp only [zb3, List.length_nil, Nat.zero_mul, List.length_cons]
    rcases Nat.eq_zero_or_pos (zb3 l (0 * 256 + b.toNat) * 256 ^ (max 0 (l.length + 1) - (l.length + 1))) with h | h
    · right; exact ⟨by simpa using h.symm, by omega⟩
    · left; simpa using h
  | a :: l, b :: m => by
    have ih := zg2 l m
    have hl := zhg l
    have hm := zhg m
    simp only [Op.bytesLess, List.length_cons]
    have ea : zb3 (a :: l) 0 = a.toNat * 256 ^ l.length + zb3 l 0 := by simp only [zb3]; rw [zhf]; simp
    have eb : zb3 (b :: m) 0 = b.toNat * 256 ^ m.length + zb3 m 0 := by simp only [zb3]; rw [zhf]; simp
    rw [ea, eb]
    have emax : max (l.length + 1) (m.length + 1) = max l.length m.length + 1 := by omega
    rw [emax]
    have e1 : max l.length m.length + 1 - (l.length + 1) = max l.length m.length - l.length := by omega
    have e2 : max l.length m.length + 1 - (m.length + 1) = max l.length m.length - m.length := by omega
    rw [e1, e2]
    generalize hM : max l.length m.length = M at *
    have pA : 256 ^ l.length * 256 ^ (M - l.length) = 256 ^ M := by rw [← Nat.pow_add]; congr 1; omega
    have pB : 256 ^ m.length * 256 ^ (M - m.length) = 256 ^ M := by rw [← Nat.pow_add]; congr 1; omega
    have hl2 : zb3 l 0 * 256 ^ (M - l.length) < 256 ^ M := by rw [← pA]; exact Nat.mul_lt_mul_of_pos_right hl (Nat.pow_pos (by omega))
    have hm2 : zb3 m 0 * 256 ^ (M - m.length) < 256 ^ M := by rw [← pB]; exact Nat.mul_lt_mul_of_pos_right hm (Nat.pow_pos (by omega))
    rw [Nat.add_mul, Nat.add_mul, Nat.mul_assoc, Nat.mul_assoc, pA, pB]
    generalize zb3 l 0 * 256 ^ (M - l.length) = p at *
    generalize zb3 m 0 * 256 ^ (M - m.length) = q at *
    generalize 256 ^ M = Z at *
    rcases Nat.lt_trichotomy a.toNat b.toNat with hab | hab | hab
    · have h1 : (a < b) = True := by simp [UInt8.lt_iff_toNat_lt, hab]
      have : (a.toNat + 1) * Z ≤ b.toNat * Z := Nat.mul_le_mul_right _ hab
      rw [Nat.add_mul] at this
      simp only [h1, decide_true, Bool.true_or, true_iff]
      left; omega
    · have h1 : a = b := UInt8.toNat_inj.1 hab
      subst h1
      have h2 : decide (a < a) = false := by simp
      rw [h2]
      simp only [Bool.false_or, beq_self_eq_true, Bool.true_and]
      rw [ih]
      constructor <;> (rintro (h | h) <;> first | (left; omega) | (right; omega))
    · have h1 : decide (a < b) = false := by simp [UInt8.lt_iff_toNat_lt]; omega
      have h2 : (a == b) = false := by
        rw [beq_eq_false_iff_ne]; intro h; rw [h] at hab; omega
      have : (b.toNat + 1) * Z ≤ a.toNat * Z := Nat.mul_le_mul_right _ hab
      rw [Nat.add_mul] at this
      rw [h1, h2]
      simp only [Bool.false_or, Bool.false_and, Bool.false_eq_true, false_iff]
      omega
theorem zxs {a b : List UInt8} {n x m y : Nat} (ha : zb6 a n x) (hb : zb6 b m y) : ltB n x m y = Op.bytesLess a b := by
  have h := zg2 a b
  rw [ha.1, hb.1, ha.2, hb.2] at h
  unfold ltB
  rw [zay, zay]
  simp only [Nat.shiftLeft_eq, zqi]
  have e : Nat.max n m = max n m := rfl
  rw [e]
  rw [Bool.eq_iff_iff, h]
  by_cases h1 : x * 256 ^ (max n m - n) < y * 256 ^ (max n m - m)
  · simp [h1]
  · by_cases h2 : x * 256 ^ (max n m - n) = y * 256 ^ (max n m - m)
    · simp [h2, Nat.blt_eq]
    · simp [h1, h2, Nat.beq_eq, Nat.blt_eq]
end
end Go.VE

/- NameBytes: for every byte, number and place the pure form of the law answers true. No condition beyond the row's own. -/
import Derived.Test.YtpalgkfilpkgeaaDoorPNameBytesx1
import Derived.Test.YtpalgkfilpkgeaaDoorPureBase
namespace Go.Proofs.YtpalgkfilpkgeaaDoor.Pure
set_option linter.unusedSimpArgs false
open Go.RowKit Go.Proofs.YtpalgkfilpkgeaaDoor Go.Proofs.YtpalgkfilpkgeaaDoor.PNameBytes Go.Proofs.YtpalgkfilpkgeaaDoorW.PrintWords Go.Proofs.YtpalgkfilpkgeaaDoorW.PrintLast
open Go.Proofs.YtpalgkfilpkgeaaDoor.PureBase

theorem set_next (i d : Nat) : (List.replicate i (113 : Int) ++ List.replicate (d + 1) 0).set i 113 = List.replicate (i + 1) 113 ++ List.replicate d 0 := by
  rw [List.set_append_right _ _ (by simp), List.length_replicate, Nat.sub_self, List.replicate_succ (n := d), List.set_cons_zero, List.replicate_succ' (n := i), List.append_assoc]
  rfl

theorem bytes_fill (c x1 x2 : Int) (n : Nat) (hn : n ≤ 30) (k : Nat) : ∀ (d i : Nat), i + d = n →
    credenzalaw9_NameBytes.l0 (k + d) c x1 x2 (List.replicate i 113 ++ List.replicate d 0) (n : Int) (i : Int) = credenzalaw9_NameBytes.l0 k c x1 x2 (List.replicate n 113) (n : Int) (n : Int)
  | 0, i, h => by
    obtain rfl : i = n := by omega
    simp
  | d + 1, i, h => by
    have ih := bytes_fill c x1 x2 n hn k d (i + 1) (by omega)
    rw [← ih, ← Nat.add_assoc]
    conv => lhs; unfold credenzalaw9_NameBytes.l0
    have hw : wrap64 ((i : Int) + 1) = ((i + 1 : Nat) : Int) := by unfold wrap64; omega
    rw [if_pos (by omega), if_pos (by omega), if_pos (by simp; omega), hw, Int.toNat_natCast, set_next]

def gd (c : Int) : Bool := decide (c ≥ 97 ∧ c ≤ 122) || decide (c ≥ 65 ∧ c ≤ 90) || decide (c ≥ 48 ∧ c ≤ 57)
def gdAll (c : Int) : Bool := ((((gd c || c == 46) || c == 43) || c == 45) || c == 95) || c == 126
theorem gd_all : ∀ c : Fin 256, gdAll (c.val : Int) = Plain.sgn (UInt8.ofNat c.val) := by decide +kernel

theorem bytes_step (k : Nat) (c n : Int) (r : List Int) (g : Bool) (y : List Int) (i : Nat) (h : i < y.length) (h5 : y.length ≤ 9) :
    credenzalaw9_NameBytes.l1 (k + 1) c n r g y (y.length : Int) (i : Int) = credenzalaw9_NameBytes.l1 k c n r (g || c == rd y (i : Int)) y (y.length : Int) ((i + 1 : Nat) : Int) := by
  conv => lhs; unfold credenzalaw9_NameBytes.l1
  have hw : wrap64 ((i : Int) + 1) = ((i + 1 : Nat) : Int) := by unfold wrap64; omega
  rw [if_pos (by omega), if_pos (by omega), if_pos (by omega), hw]
  cases g with
  | true => rw [if_pos rfl]; rfl
  | false => rw [if_neg (by decide)]; rfl

theorem bytes_loop (k : Nat) (c n : Int) (r : List Int) (g : Bool) :
    credenzalaw9_NameBytes.l1 (k + 6) c n r g ([46, 43, 45, 95, 126] : List Int) 5 0 = credenzalaw9_NameBytes.j3 k n r (((((g || c == 46) || c == 43) || c == 45) || c == 95) || c == 126) (decide (n = 1) && c == 46) := by
  have s := fun k g i h => bytes_step k c n r g [46, 43, 45, 95, 126] i h (by decide)
  rw [show (5 : Int) = (([46, 43, 45, 95, 126] : List Int).length : Int) from rfl, show (0 : Int) = ((0 : Nat) : Int) from rfl]
  rw [s (k + 5) _ 0 (by decide), s (k + 4) _ 1 (by decide), s (k + 3) _ 2 (by decide), s (k + 2) _ 3 (by decide), s (k + 1) _ 4 (by decide)]
  conv => lhs; unfold credenzalaw9_NameBytes.l1
  rw [if_neg (by decide)]
  by_cases h : n = 1
  · rw [if_pos h, decide_eq_true h]; rfl
  · rw [if_neg h, decide_eq_false h]; rfl

theorem bytes_j1 (k : Nat) (c n : Int) (r : List Int) (g : Bool) : credenzalaw9_NameBytes.j1 (k + 7) c n r g = credenzalaw9_NameBytes.j3 k n r (((((g || c == 46) || c == 43) || c == 45) || c == 95) || c == 126) (decide (n = 1) && c == 46) := by
  rw [← bytes_loop k c n r g]
  conv => lhs; unfold credenzalaw9_NameBytes.j1
  rfl

theorem okL_bytes (n p c : Nat) (hp : p < n) (hc : c < 256) :
    Plain.okL (((List.replicate n (113 : Int)).set p (c : Int)).map fun m => UInt8.ofNat m.toNat) = (decide (n ≤ 27) && !(decide (n = 1) && decide (c = 46)) && Plain.sgn (UInt8.ofNat c)) := by
  have e : ((List.replicate n (113 : Int)).set p (c : Int)).map (fun m => UInt8.ofNat m.toNat) = (List.replicate n (113 : UInt8)).set p (UInt8.ofNat c) := by
    rw [List.map_set, List.map_replicate]; rfl
  rw [e]
  have hc46 : (UInt8.ofNat c = 46) ↔ c = 46 := by
    constructor
    · intro h
      have := congrArg UInt8.toNat h
      rw [UInt8.toNat_ofNat_of_lt' (by simpa using hc)] at this
      exact this
    · rintro rfl; rfl
  have hall : ((List.replicate n (113 : UInt8)).set p (UInt8.ofNat c)).all Plain.sgn = Plain.sgn (UInt8.ofNat c) := by
    cases hs : Plain.sgn (UInt8.ofNat c) with
    | true =>
      rw [List.all_eq_true]
      intro x hx
      rcases List.mem_or_eq_of_mem_set hx with h | h
      · rw [List.eq_of_mem_replicate h]; decide
      · rw [h]; exact hs
    | false =>
      rw [List.all_eq_false]
      refine ⟨UInt8.ofNat c, ?_, by rw [hs]; decide⟩
      exact List.mem_set (by simpa using hp) _
  unfold Plain.okL
  rw [hall, List.length_set, List.length_replicate, decide_eq_true (show 1 ≤ n by omega), Bool.true_and]
  have h1 : (((List.replicate n (113 : UInt8)).set p (UInt8.ofNat c)) == [46]) = (decide (n = 1) && decide (c = 46)) := by
    match n, hp with
    | 1, hp =>
      obtain rfl : p = 0 := by omega
      show ([UInt8.ofNat c] == [46]) = _
      by_cases h : c = 46
      · subst h; rfl
      · have h' : ¬ UInt8.ofNat c = 46 := fun e => h (hc46.1 e)
        simp [h, h']
    | n + 2, hp =>
      have : ¬ (n + 2 = 1) := by omega
      rw [decide_eq_false this, Bool.false_and]
      refine beq_eq_false_iff_ne.2 fun h => ?_
      have := congrArg List.length h
      simp at this
  have h2 : (((List.replicate n (113 : UInt8)).set p (UInt8.ofNat c)) == [46, 46]) = false := by
    refine beq_eq_false_iff_ne.2 fun h => ?_
    have hl := congrArg List.length h
    simp at hl
    subst hl
    have p2 : p = 0 ∨ p = 1 := by omega
    rcases p2 with rfl | rfl
    · have := congrArg (fun l => l[1]?) h
      simp [List.replicate_succ] at this
    · have := congrArg (fun l => l[0]?) h
      simp [List.replicate_succ] at this
  rw [h1, h2]
  simp

theorem bytes_j3 (n p c : Nat) (hp : p < n) (hn : n ≤ 30) (hc : c < 256) :
    credenzalaw9_NameBytes.j3 1 (n : Int) ((List.replicate n (113 : Int)).set p (c : Int)) (gdAll (c : Int)) (decide ((n : Int) = 1) && (c : Int) == 46) = some true := by
  have hg : gdAll (c : Int) = Plain.sgn (UInt8.ofNat c) := gd_all ⟨c, hc⟩
  have ho : Given2.name_Ok.f (strOfNums ((List.replicate n (113 : Int)).set p (c : Int))) = some (decide (n ≤ 27) && !(decide (n = 1) && decide (c = 46)) && Plain.sgn (UInt8.ofNat c)) := by
    rw [← okL_bytes n p c hp hc]; rfl
  have e1 : (decide ((n : Int) = 1) && (c : Int) == 46) = (decide (n = 1) && decide (c = 46)) := by
    by_cases a : n = 1 <;> by_cases b : c = 46 <;> simp [a, b] <;> omega
  have e2 : decide ((n : Int) ≤ 27) = decide (n ≤ 27) := by
    by_cases a : n ≤ 27 <;> simp [a] <;> omega
  simp only [credenzalaw9_NameBytes.j3]
  rw [ho, hg, e1, e2]
  cases (decide (n = 1) && decide (c = 46)) <;> cases (decide (n ≤ 27)) <;> cases (Plain.sgn (UInt8.ofNat c)) <;> rfl

theorem NameBytes : credenzalaw9_NameBytes.Pure := by
  intro a0 a1 a2 w0 _ _
  obtain ⟨c, hc, rfl⟩ : ∃ c : Nat, c < 256 ∧ a0 = (c : Int) := by
    have : 0 ≤ a0 ∧ a0 ≤ 255 := by
      simpa [Lit.wf, IntKind.min, IntKind.max, IntKind.signed, IntKind.bits] using w0
    exact ⟨a0.toNat, by omega, by omega⟩
  have h0 : 0 ≤ a1 % 256 := by omega
  obtain ⟨n, hn, e⟩ : ∃ n : Nat, n ≤ 30 ∧ Int.tmod (a1 % 256) 31 = (n : Int) :=
    ⟨((a1 % 256) % 31).toNat, by omega, by rw [Int.tmod_eq_emod_of_nonneg h0]; omega⟩
  refine ⟨8 + 1 + n, ?_⟩
  unfold credenzalaw9_NameBytes.f
  rw [and_ff, e, if_pos (by omega), if_pos (by omega)]
  show credenzalaw9_NameBytes.l0 (8 + 1 + n) (c : Int) (n : Int) a2 (List.replicate ((n : Int).toNat) 0) ((List.replicate ((n : Int).toNat) (0 : Int)).length : Int) 0 = some true
  rw [Int.toNat_natCast, List.length_replicate]
  have hf := bytes_fill (c : Int) (n : Int) a2 n hn (8 + 1) n 0 (by omega)
  rw [show (List.replicate 0 (113 : Int) ++ List.replicate n 0) = List.replicate n 0 from rfl] at hf
  refine Eq.trans hf ?_
  unfold credenzalaw9_NameBytes.l0
  rw [if_neg (by omega)]
  by_cases hz : n = 0
  · subst hz
    rw [if_pos (by rfl)]
    rfl
  rw [if_neg (by omega), and_ff]
  have h2 : 0 ≤ a2 % 256 := by omega
  obtain ⟨p, hp, e2⟩ : ∃ p : Nat, p < n ∧ Int.tmod (a2 % 256) (n : Int) = (p : Int) := by
    refine ⟨((a2 % 256) % (n : Int)).toNat, ?_, ?_⟩
    · have := Int.emod_lt_of_pos (a2 % 256) (show (0 : Int) < (n : Int) by omega)
      have := Int.emod_nonneg (a2 % 256) (show (n : Int) ≠ 0 by omega)
      omega
    · have := Int.emod_nonneg (a2 % 256) (show (n : Int) ≠ 0 by omega)
      rw [Int.tmod_eq_emod_of_nonneg h2]; omega
  rw [e2, if_pos (by omega), if_pos (by simp; omega), Option.bind_some, Int.toNat_natCast]
  have key : credenzalaw9_NameBytes.j1 8 (c : Int) (n : Int) ((List.replicate n (113 : Int)).set p (c : Int)) (gd (c : Int)) = some true := by
    rw [bytes_j1 1]
    exact bytes_j3 n p c hp hn hc
  generalize (List.replicate n (113 : Int)).set p (c : Int) = r at key ⊢
  unfold gd at key
  by_cases a : (c : Int) ≥ 97 <;> by_cases b : (c : Int) ≤ 122 <;> by_cases d : (c : Int) ≥ 65 <;> by_cases f : (c : Int) ≤ 90 <;> by_cases g : (c : Int) ≥ 48 <;> by_cases j : (c : Int) ≤ 57 <;>
    simp only [a, b, d, f, g, j, if_true, if_false, and_true, and_false, decide_true, decide_false, Bool.or_false, Bool.or_true] at key ⊢ <;> first | exact key | omega

end Go.Proofs.YtpalgkfilpkgeaaDoor.Pure

/- PlaceFirst: for every list of ranges and two sizes the pure form of the law answers true. No condition beyond the row's own. -/
import Derived.Test.YticjkhkmbinmgaaFirstLaws
import Derived.Test.YticjkhkmbinmgaaBits
import Derived.Test.YticjkhkmbinmgaaUFirstx1
namespace Go.Proofs.Yticjkhkmbinmgaa.Pure
open Go.RowKit Go.Proofs.YticjkhkmbinmgaaW.PrintWords Go.Proofs.YticjkhkmbinmgaaW.PrintLast Go.Proofs.YticjkhkmbinmgaaW.PrintMore
open Go.Proofs.Yticjkhkmbinmgaa.QClean Go.Proofs.Yticjkhkmbinmgaa.Canon Go.Proofs.Yticjkhkmbinmgaa.PureA Go.Proofs.Yticjkhkmbinmgaa.PureB Go.Proofs.Yticjkhkmbinmgaa.PureC Go.Proofs.Yticjkhkmbinmgaa.PureD Go.Proofs.Yticjkhkmbinmgaa.TakeLaws Go.Proofs.Yticjkhkmbinmgaa.FirstLaws Go.Proofs.Yticjkhkmbinmgaa.RPlace Go.Proofs.Yticjkhkmbinmgaa.STells Go.Proofs.Yticjkhkmbinmgaa.Bits Go.Proofs.Yticjkhkmbinmgaa.UFirst
open Go.Proofs.Yticjkhkmbinmgaa.GivenA (okR)

def mkF (x : S25) : S25 := ⟨x.f0 % 1024, x.f0 % 1024 + x.f1 % 256⟩
theorem mkF_code (x : S25) : (⟨Go.bits .and .i64 x.f0 1023, wrap64 ((Go.bits .and .i64 x.f0 1023) + (Go.bits .and .i64 x.f1 255))⟩ : S25) = mkF x := by
  rw [and_3ff, and_ff, w64 (by omega) (by omega)]; rfl

theorem first_fill (l : List S25) (a1 a2 : Int) (out : List S25) (i lo hi : Int) (n : Nat) (R : Bool) : ∀ (d t : Nat) (bs : List Bool), bs.length = n → n ≤ 100000 → t + d ≤ n → hi = ((t + d : Nat) : Int) →
    Ev (fun k => credenzalaw18_PlaceFirst.l0 k l a1 a2 out (fill true d t bs) (wrap64 (i + 1))) R → Ev (fun k => credenzalaw18_PlaceFirst.l1 k l a1 a2 out bs i (t : Int) lo hi) R
  | 0, t, bs, hb, hn, ht, hh, K => by
    refine Ev.step (fun k => ?_) K
    simp only [credenzalaw18_PlaceFirst.l1]
    rw [if_neg (by omega)]
    rfl
  | d + 1, t, bs, hb, hn, ht, hh, K => by
    have ih := first_fill l a1 a2 out i lo hi n R d (t + 1) (bs.set t true) (by rw [List.length_set]; exact hb) hn (by omega) (by omega) K
    rw [← nxt t (by omega)] at ih
    refine Ev.step (fun k => ?_) ih
    simp only [credenzalaw18_PlaceFirst.l1]
    rw [if_pos (by omega), if_pos (by omega), if_pos (by omega), Int.toNat_natCast]

theorem first_build (l : List S25) (a1 a2 : Int) (R : Bool) : ∀ (b p out : List S25) (bs : List Bool), l = p ++ b → p.length ≤ 10 → out.length = p.length → Arr 1500 bs out →
    (∀ bs' i', Arr 1500 bs' (out ++ (b.take (10 - p.length)).map mkF) → Ev (fun k => credenzalaw18_PlaceFirst.j1 k l a1 a2 (out ++ (b.take (10 - p.length)).map mkF) bs' i' false) R) →
    Ev (fun k => credenzalaw18_PlaceFirst.l0 k l a1 a2 out bs (p.length : Int)) R
  | [], p, out, bs, e, hp, ho, hA, K => by
    rw [List.append_nil] at e
    subst e
    rw [List.take_nil, List.map_nil, List.append_nil] at K
    refine Ev.step (fun k => ?_) (K bs (l.length : Int) hA)
    simp only [credenzalaw18_PlaceFirst.l0]
    rw [if_neg (by omega)]
  | x :: b, p, out, bs, e, hp, ho, hA, K => by
    have hx : rd_T25 l (p.length : Int) = x := by rw [e]; exact rd_mid p b x
    have hll : l.length = p.length + (b.length + 1) := by rw [e]; simp
    by_cases h : p.length < 10
    · have e1 : (x :: b).take (10 - p.length) = x :: b.take (10 - (p ++ [x]).length) := by
        rw [show 10 - p.length = (10 - (p ++ [x]).length) + 1 by simp; omega, List.take_succ_cons]
      rw [e1, List.map_cons] at K
      obtain ⟨lo, hlo⟩ : ∃ lo : Nat, x.f0 % 1024 = (lo : Int) := ⟨(x.f0 % 1024).toNat, by omega⟩
      obtain ⟨d, hd⟩ : ∃ d : Nat, x.f1 % 256 = (d : Int) := ⟨(x.f1 % 256).toNat, by omega⟩
      have hm : mkF x = ⟨(lo : Int), (lo : Int) + (d : Int)⟩ := by unfold mkF; rw [hlo, hd]
      have hA' := arr_push hA lo d (by omega)
      rw [← hm] at hA'
      have ih := first_build l a1 a2 R b (p ++ [x]) (out ++ [mkF x]) (fill true d lo bs) (by rw [e]; simp) (by simp; omega) (by simp [ho]) hA' (fun bs' i' hB => by
        have := K bs' i'
        rw [List.append_assoc] at hB ⊢
        exact this hB)
      rw [← nxt_snoc p x (by omega)] at ih
      have hf := first_fill l a1 a2 (out ++ [mkF x]) (p.length : Int) (lo : Int) ((lo : Int) + (d : Int)) 1500 R d lo bs hA.1 (by omega) (by omega) (by omega) ih
      have hj : Ev (fun k => credenzalaw18_PlaceFirst.j1 k l a1 a2 out bs (p.length : Int) true) R := by
        refine Ev.step (fun k => ?_) hf
        simp only [credenzalaw18_PlaceFirst.j1]
        rw [if_pos trivial, if_pos (by omega), if_pos (by omega), if_pos (by omega), hx, mkF_code, and_3ff, and_ff, w64 (by omega) (by omega), hlo, hd]
      refine Ev.step (fun k => ?_) hj
      simp only [credenzalaw18_PlaceFirst.l0]
      rw [if_pos (by omega), decide_eq_true (by omega)]
    · rw [show 10 - p.length = 0 by omega, List.take_zero, List.map_nil, List.append_nil] at K
      refine Ev.step (fun k => ?_) (K bs (p.length : Int) hA)
      simp only [credenzalaw18_PlaceFirst.l0]
      rw [if_pos (by omega), decide_eq_false (by omega)]

theorem first_in (m x2 : Int) (a : List S25) (bs : List Bool) (hb : bs.length = 1500) (q : Int) (ok : Bool) (w p : Int) (R : Bool) : ∀ (d t : Nat) (inn : Bool), t + d ≤ 1500 → wrap64 (p + m) = ((t + d : Nat) : Int) →
    Ev (fun k => credenzalaw18_PlaceFirst.l2 k m x2 a bs q ok (if (inn && allB bs t d) = true then p else w) (wrap64 (p + 16))) R → Ev (fun k => credenzalaw18_PlaceFirst.l3 k m x2 a bs q ok w p inn (t : Int)) R
  | 0, t, inn, ht, hh, K => by
    refine Ev.step (fun k => ?_) K
    simp only [credenzalaw18_PlaceFirst.l3]
    rw [if_neg (by omega), allB, Bool.and_true]
    cases inn with
    | true => rw [if_pos rfl, if_pos rfl]
    | false => rw [if_neg (by decide), if_neg (by decide)]
  | d + 1, t, inn, ht, hh, K => by
    cases inn with
    | true =>
      rw [allB, Bool.true_and] at K
      have ih := first_in m x2 a bs hb q ok w p R d (t + 1) (bs.getD t false) (by omega) (by omega) K
      rw [← nxt t (by omega)] at ih
      have hr : rdOf false bs (t : Int) = bs.getD t false := by unfold rdOf; rw [Int.toNat_natCast]
      refine Ev.step (fun k => ?_) ih
      simp only [credenzalaw18_PlaceFirst.l3]
      rw [if_pos (by omega), if_pos trivial, if_pos (by omega), if_pos (by omega), hr]
    | false =>
      rw [Bool.false_and] at K
      have ih := first_in m x2 a bs hb q ok w p R d (t + 1) false (by omega) (by omega) (by rw [Bool.false_and]; exact K)
      rw [← nxt t (by omega)] at ih
      refine Ev.step (fun k => ?_) ih
      simp only [credenzalaw18_PlaceFirst.l3]
      rw [if_pos (by omega), if_neg (by decide)]

theorem first_search (m : Nat) (hm : m ≤ 200) (x2 : Int) (a : List S25) (bs : List Bool) (hb : bs.length = 1500) (q : Int) (ok : Bool) (R : Bool) : ∀ (f i : Nat) (w : Int), i + f = 80 →
    (∀ p', Ev (fun k => credenzalaw18_PlaceFirst.j4 k (m : Int) x2 a bs q ok (srch m bs f i w) p' false) R) → Ev (fun k => credenzalaw18_PlaceFirst.l2 k (m : Int) x2 a bs q ok w ((16 * i : Nat) : Int)) R
  | 0, i, w, hi, K => by
    refine Ev.step (fun k => ?_) (K ((16 * i : Nat) : Int))
    simp only [credenzalaw18_PlaceFirst.l2]
    rw [if_neg (by omega)]
    rfl
  | f + 1, i, w, hi, K => by
    rw [srch] at K
    by_cases hw : w < 0
    · rw [if_pos hw] at K
      have ih := first_search m hm x2 a bs hb q ok R f (i + 1) _ (by omega) K
      have hp16 : wrap64 (((16 * i : Nat) : Int) + 16) = ((16 * (i + 1) : Nat) : Int) := by unfold wrap64; omega
      rw [← hp16] at ih
      have hin := first_in (m : Int) x2 a bs hb q ok w ((16 * i : Nat) : Int) R m (16 * i) true (by omega) (by unfold wrap64; omega) (by rw [Bool.true_and]; exact ih)
      have hj : Ev (fun k => credenzalaw18_PlaceFirst.j4 k (m : Int) x2 a bs q ok w ((16 * i : Nat) : Int) true) R := by
        refine Ev.step (fun k => ?_) hin
        simp only [credenzalaw18_PlaceFirst.j4]
        rw [if_pos trivial]
      refine Ev.step (fun k => ?_) hj
      simp only [credenzalaw18_PlaceFirst.l2]
      rw [if_pos (by omega), decide_eq_true hw]
    · rw [if_neg hw] at K
      refine Ev.step (fun k => ?_) (K ((16 * i : Nat) : Int))
      simp only [credenzalaw18_PlaceFirst.l2]
      rw [if_pos (by omega), decide_eq_false hw]

theorem mx_id (m : Int) (h : 1 ≤ m) : mx m 1 = m := by unfold mx; split <;> omega
theorem PlaceFirst (l : List S25) (s0 s1 : Int) : ∃ k, credenzalaw18_PlaceFirst.f k l s0 s1 = some true := by
  refine Ev.rounds (g := fun k => credenzalaw18_PlaceFirst.f k l s0 s1) ?_
  unfold credenzalaw18_PlaceFirst.f
  refine first_build l s0 s1 true l [] [] _ rfl (by simp) rfl (arr_new 1500) (fun bs i hA => ?_)
  have hal : ((l.take (10 - ([] : List S25).length)).map mkF).length ≤ 10 := by simp; omega
  have hbd : ∀ x ∈ (l.take (10 - ([] : List S25).length)).map mkF, 0 ≤ x.f0 ∧ x.f0 ≤ x.f1 ∧ x.f1 ≤ 1278 := fun x hx => by
    obtain ⟨y, _, rfl⟩ := List.mem_map.1 hx
    show 0 ≤ y.f0 % 1024 ∧ y.f0 % 1024 ≤ y.f0 % 1024 + y.f1 % 256 ∧ y.f0 % 1024 + y.f1 % 256 ≤ 1278
    omega
  rw [List.nil_append] at hA ⊢
  generalize (l.take (10 - ([] : List S25).length)).map mkF = a at hal hbd hA ⊢
  have hao : okR a = true := okR_of (by omega) (fun x hx => by have := hbd x hx; omega)
  have aw : Ev (fun k => (credenzalaw18_awake.f k).bind fun t => some t) true := Ev.bind awake_ev (Ev.now true)
  obtain ⟨m, hm, hm1, hm2⟩ : ∃ m : Nat, wrap64 ((Int.tmod (Go.bits .and .i64 s0 255) 200) + 1) = (m : Int) ∧ 1 ≤ m ∧ m ≤ 200 := by
    rw [and_ff, Int.tmod_eq_emod_of_nonneg (by omega)]
    exact ⟨(s0 % 256 % 200 + 1).toNat, by unfold wrap64; omega, by omega, by omega⟩
  obtain ⟨m', hm', h1', h2'⟩ : ∃ m' : Int, wrap64 ((Int.tmod (Go.bits .and .i64 s1 255) (m : Int)) + 1) = m' ∧ 1 ≤ m' ∧ m' ≤ (m : Int) := by
    rw [and_ff, Int.tmod_eq_emod_of_nonneg (by omega)]
    have g0 := Int.emod_nonneg (s1 % 256) (show (m : Int) ≠ 0 by omega)
    have g1 := Int.emod_lt_of_pos (s1 % 256) (show (0 : Int) < (m : Int) by omega)
    exact ⟨s1 % 256 % (m : Int) + 1, by unfold wrap64; omega, by omega, by omega⟩
  have hf := findA_code a (m : Int)
  have hf' := findA_code a m'
  have e1 : findA a (m : Int) = findR (cleanR a) (m : Int) := by unfold findA; rw [if_neg (by omega), mx_id _ (by omega)]
  have e2 : findA a m' = findR (cleanR a) m' := by unfold findA; rw [if_neg (by omega), mx_id _ (by omega)]
  have fin : Ev (fun k => credenzalaw18_PlaceFirst.l2 k (m : Int) s1 a bs (findA a (m : Int)).1 (findA a (m : Int)).2 (-1) 0) true := by
    refine first_search m hm2 s1 a bs hA.1 _ _ true 80 0 (-1) rfl (fun p' => ?_)
    rcases srch_find a bs m hA hao (fun x hx => (hbd x hx).2.2) hm1 hm2 with ⟨q, hq0, hq1, hq2⟩ | ⟨hq1, hq2⟩
    · rw [e1, hq1, hq2]
      obtain ⟨q', hl1, hl2⟩ := find_less (cleanR a) (m : Int) m' (clean_can a) (clean_bounds a) h1' h2' q hq1
      have hj6 : Ev (fun k => credenzalaw18_PlaceFirst.j6 k (m : Int) s1 a q true false) true := by
        rw [e2, hl1] at hf'
        have hb := Ev.bind hf' (f := fun k bt114 => (if bt114.2 = true then (if bt114.1 ≤ q then ((credenzalaw18_awake.f k).bind fun t116 => (some t116)) else (some false)) else (some false))) (r := true) (Ev.congr (fun k => by rw [if_pos rfl, if_pos hl2]) aw)
        refine Ev.step (fun k => ?_) hb
        simp only [credenzalaw18_PlaceFirst.j6]
        rw [if_neg (by decide), if_pos trivial, if_neg (by omega), hm']
      refine Ev.step (fun k => ?_) hj6
      simp only [credenzalaw18_PlaceFirst.j4]
      rw [if_neg (by decide), decide_eq_true (show q ≥ 0 from hq0), if_neg (by decide), if_pos trivial, bne_self_eq_false]
    · rw [e1, hq1, hq2]
      have hj6 : Ev (fun k => credenzalaw18_PlaceFirst.j6 k (m : Int) s1 a 0 false false) true := by
        refine Ev.step (fun k => ?_) aw
        simp only [credenzalaw18_PlaceFirst.j6]
        rw [if_neg (by decide), if_neg (by decide), if_pos trivial]
      refine Ev.step (fun k => ?_) hj6
      simp only [credenzalaw18_PlaceFirst.j4]
      rw [if_neg (by decide), if_neg (by decide), if_neg (by decide)]
  have hb := Ev.bind hf (f := fun k bt111 => credenzalaw18_PlaceFirst.l2 k (m : Int) s1 a bs bt111.1 bt111.2 (-1) 0) fin
  refine Ev.step (fun k => ?_) hb
  simp only [credenzalaw18_PlaceFirst.j1]
  rw [if_neg (by decide), hm]

end Go.Proofs.Yticjkhkmbinmgaa.Pure

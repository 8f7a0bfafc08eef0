/- PlaceTakes: for every list of ranges and every range the pure form of the law answers true. No condition beyond the row's own. -/
import Derived.Test.YticjkhkmbinmgaaTakeLaws
import Derived.Test.YticjkhkmbinmgaaBits
import Derived.Test.YticjkhkmbinmgaaTTakesx1
namespace Go.Proofs.Yticjkhkmbinmgaa.Pure
open Go.RowKit Go.Proofs.YticjkhkmbinmgaaW.PrintWords Go.Proofs.YticjkhkmbinmgaaW.PrintLast Go.Proofs.YticjkhkmbinmgaaW.PrintMore
open Go.Proofs.Yticjkhkmbinmgaa.QClean Go.Proofs.Yticjkhkmbinmgaa.Canon Go.Proofs.Yticjkhkmbinmgaa.PureA Go.Proofs.Yticjkhkmbinmgaa.PureB Go.Proofs.Yticjkhkmbinmgaa.PureC Go.Proofs.Yticjkhkmbinmgaa.PureD Go.Proofs.Yticjkhkmbinmgaa.TakeLaws Go.Proofs.Yticjkhkmbinmgaa.RPlace Go.Proofs.Yticjkhkmbinmgaa.STells Go.Proofs.Yticjkhkmbinmgaa.Bits Go.Proofs.Yticjkhkmbinmgaa.TTakes
open Go.Proofs.Yticjkhkmbinmgaa.GivenA (okR)

def inB (l : List S25) (t : Int) : Bool := l.any fun x => decide (x.f0 ≤ t) && decide (t < x.f1)
theorem inB_iff (l : List S25) (t : Int) : inB l t = true ↔ cov l t := by
  unfold inB cov
  rw [List.any_eq_true]
  exact ⟨fun ⟨x, hx, h⟩ => ⟨x, hx, by simpa using h⟩, fun ⟨x, hx, h⟩ => ⟨x, hx, by simpa using h⟩⟩
theorem in_loop (l : List S25) (t : Int) (hl : l.length ≤ 100000) : ∀ (b p : List S25), l = p ++ b → Ev (fun k => credenzalaw18_PlaceTakes_1.l0 k l t (p.length : Int)) (inB b t)
  | [], p, e => by
    rw [List.append_nil] at e
    subst e
    refine Ev.step (f := fun _ => some false) (fun k => ?_) (Ev.now _)
    simp only [credenzalaw18_PlaceTakes_1.l0]
    rw [if_neg (by omega)]
  | x :: b, p, e => by
    have hx : rd_T25 l (p.length : Int) = x := by rw [e]; exact rd_mid p b x
    have hll : l.length = p.length + (b.length + 1) := by rw [e]; simp
    have ih := in_loop l t hl b (p ++ [x]) (by rw [e]; simp)
    rw [← nxt_snoc p x (by omega)] at ih
    have hc : inB (x :: b) t = ((decide (x.f0 ≤ t) && decide (t < x.f1)) || inB b t) := by unfold inB; rw [List.any_cons]
    rw [hc]
    by_cases h1 : t ≥ x.f0
    · by_cases h2 : t < x.f1
      · rw [decide_eq_true (show x.f0 ≤ t from h1), decide_eq_true h2]
        refine Ev.step (f := fun _ => some true) (fun k => ?_) (Ev.now _)
        simp only [credenzalaw18_PlaceTakes_1.l0]
        rw [if_pos (by omega), if_pos (by omega), hx, if_pos h1, if_pos h2]
      · rw [decide_eq_false h2, Bool.and_false, Bool.false_or]
        refine Ev.step (fun k => ?_) ih
        simp only [credenzalaw18_PlaceTakes_1.l0]
        rw [if_pos (by omega), if_pos (by omega), hx, if_pos h1, if_neg h2]
    · rw [decide_eq_false (show ¬ x.f0 ≤ t from h1), Bool.false_and, Bool.false_or]
      refine Ev.step (fun k => ?_) ih
      simp only [credenzalaw18_PlaceTakes_1.l0]
      rw [if_pos (by omega), if_pos (by omega), hx, if_neg h1]
theorem in_ev (l : List S25) (t : Int) (hl : l.length ≤ 100000) : Ev (fun k => credenzalaw18_PlaceTakes_1.f k l t) (inB l t) := in_loop l t hl l [] rfl

def mkR (x : S25) : S25 := ⟨x.f0 % 1024, x.f0 % 1024 + x.f1 % 64⟩
theorem mk_code (x : S25) : (⟨Go.bits .and .i64 x.f0 1023, wrap64 ((Go.bits .and .i64 x.f0 1023) + (Go.bits .and .i64 x.f1 63))⟩ : S25) = mkR x := by
  rw [and_3ff, and_3f, w64 (by omega) (by omega)]; rfl

theorem takes_build (l : List S25) (r0 r1 : Int) (R : Bool) : ∀ (b p out : List S25), l = p ++ b → p.length ≤ 12 → out.length = p.length →
    Ev (fun k => credenzalaw18_PlaceTakes.j1 k (out ++ (b.take (12 - p.length)).map mkR) r0 r1) R → Ev (fun k => credenzalaw18_PlaceTakes.l0 k l out (p.length : Int) r0 r1) R
  | [], p, out, e, hp, ho, K => by
    rw [List.append_nil] at e
    subst e
    rw [List.take_nil, List.map_nil, List.append_nil] at K
    refine Ev.step (fun k => ?_) K
    simp only [credenzalaw18_PlaceTakes.l0]
    rw [if_neg (by omega)]
  | x :: b, p, out, e, hp, ho, K => by
    have hx : rd_T25 l (p.length : Int) = x := by rw [e]; exact rd_mid p b x
    have hll : l.length = p.length + (b.length + 1) := by rw [e]; simp
    by_cases h : p.length < 12
    · have e1 : (x :: b).take (12 - p.length) = x :: b.take (12 - (p ++ [x]).length) := by
        rw [show 12 - p.length = (12 - (p ++ [x]).length) + 1 by simp; omega, List.take_succ_cons]
      rw [e1, List.map_cons] at K
      have ih := takes_build l r0 r1 R b (p ++ [x]) (out ++ [mkR x]) (by rw [e]; simp) (by simp; omega) (by simp [ho]) (by rw [List.append_assoc]; exact K)
      rw [← nxt_snoc p x (by omega)] at ih
      refine Ev.step (fun k => ?_) ih
      simp only [credenzalaw18_PlaceTakes.l0]
      rw [if_pos (by omega), if_pos (by omega), if_pos (by omega), if_pos (by omega), hx, mk_code]
    · rw [show 12 - p.length = 0 by omega, List.take_zero, List.map_nil, List.append_nil] at K
      refine Ev.step (fun k => ?_) K
      simp only [credenzalaw18_PlaceTakes.l0]
      rw [if_pos (by omega), if_neg (by omega)]

theorem takes_check (a c : List S25) (r0 r1 : Int) (ha : a.length ≤ 100000) (hc : c.length ≤ 100000) (h : ∀ t, cov c t ↔ cov a t ∧ ¬ (r0 ≤ t ∧ t < r1)) (R : Bool)
    (K : Ev (fun k => (place_Take.f k c r0 r1).bind fun t113 => ((credenzalaw18_same.f k t113 c).bind fun t116 => (if t116 = true then ((credenzalaw18_awake.f k).bind fun t117 => (some t117)) else (some false)))) R) :
    ∀ (d t : Nat), t + d = 1100 → Ev (fun k => credenzalaw18_PlaceTakes.l1 k a c (t : Int) r0 r1) R
  | 0, t, e => by
    refine Ev.step (fun k => ?_) K
    simp only [credenzalaw18_PlaceTakes.l1]
    rw [if_neg (by omega)]
  | d + 1, t, e => by
    have ih := takes_check a c r0 r1 ha hc h R K d (t + 1) (by omega)
    rw [← nxt t (by omega)] at ih
    have h1 := in_ev c (t : Int) hc
    have h2 := in_ev a (t : Int) ha
    have hh := h (t : Int)
    rw [← inB_iff, ← inB_iff] at hh
    have hd : Ev (fun k => (credenzalaw18_PlaceTakes_1.f k c (t : Int)).bind fun t118 => ((credenzalaw18_PlaceTakes_1.f k a (t : Int)).bind fun t119 => (if t119 = true then (if (t : Int) ≥ r0 then (if (t118 != (!(decide ((t : Int) < r1)))) = true then (some false) else (credenzalaw18_PlaceTakes.l1 k a c (wrap64 ((t : Int) + 1)) r0 r1)) else (if (t118 != (!false)) = true then (some false) else (credenzalaw18_PlaceTakes.l1 k a c (wrap64 ((t : Int) + 1)) r0 r1))) else (if (t118 != false) = true then (some false) else (credenzalaw18_PlaceTakes.l1 k a c (wrap64 ((t : Int) + 1)) r0 r1))))) R := by
      refine Ev.bind h1 (Ev.bind h2 ?_)
      refine Ev.congr (fun k => ?_) ih
      cases hu : inB a (t : Int) with
      | false =>
        have : inB c (t : Int) = false := by
          cases hv : inB c (t : Int) with
          | false => rfl
          | true => rw [hu] at hh; exact absurd (hh.1 hv).1 (by decide)
        rw [this, if_neg (by decide), if_neg (by decide)]
      | true =>
        rw [if_pos rfl]
        by_cases g0 : (t : Int) ≥ r0
        · rw [if_pos g0]
          by_cases g1 : (t : Int) < r1
          · have : inB c (t : Int) = false := by
              cases hv : inB c (t : Int) with
              | false => rfl
              | true => exact absurd ⟨g0, g1⟩ (hh.1 hv).2
            rw [this, decide_eq_true g1, if_neg (by decide)]
          · have : inB c (t : Int) = true := hh.2 ⟨hu, fun k => g1 k.2⟩
            rw [this, decide_eq_false g1, if_neg (by decide)]
        · have : inB c (t : Int) = true := hh.2 ⟨hu, fun k => g0 k.1⟩
          rw [if_neg g0, this, if_neg (by decide)]
    refine Ev.step (fun k => ?_) hd
    simp only [credenzalaw18_PlaceTakes.l1]
    rw [if_pos (by omega)]

theorem PlaceTakes (l : List S25) (r0 r1 : Int) : ∃ k, credenzalaw18_PlaceTakes.f k l r0 r1 = some true := by
  refine Ev.rounds (g := fun k => credenzalaw18_PlaceTakes.f k l r0 r1) ?_
  unfold credenzalaw18_PlaceTakes.f
  refine takes_build l r0 r1 true l [] [] rfl (by simp) rfl ?_
  have hal : ((l.take (12 - ([] : List S25).length)).map mkR).length ≤ 12 := by simp; omega
  have hao : okR ((l.take (12 - ([] : List S25).length)).map mkR) = true := okR_of (by omega) (fun x hx => by
    obtain ⟨y, _, rfl⟩ := List.mem_map.1 hx
    show 0 ≤ y.f0 % 1024 ∧ y.f0 % 1024 ≤ y.f0 % 1024 + y.f1 % 64 ∧ y.f0 % 1024 + y.f1 % 64 ≤ 1073741824
    omega)
  rw [List.nil_append]
  generalize (l.take (12 - ([] : List S25).length)).map mkR = a at hal hao ⊢
  have aw : Ev (fun k => (credenzalaw18_awake.f k).bind fun t => some t) true := Ev.bind awake_ev (Ev.now true)
  have hsp := take_spec a (r0 % 1024) (r1 % 1024) hao
  have htw := take_twice a (r0 % 1024) (r1 % 1024) hao (by omega)
  have hcl := takeA_length a (r0 % 1024) (r1 % 1024)
  have htk := takeA_code a (r0 % 1024) (r1 % 1024)
  have ht2 := takeA_code (takeA a (r0 % 1024) (r1 % 1024)) (r0 % 1024) (r1 % 1024)
  rw [htw] at ht2
  have K : Ev (fun k => (place_Take.f k (takeA a (r0 % 1024) (r1 % 1024)) (r0 % 1024) (r1 % 1024)).bind fun t113 => ((credenzalaw18_same.f k t113 (takeA a (r0 % 1024) (r1 % 1024))).bind fun t116 => (if t116 = true then ((credenzalaw18_awake.f k).bind fun t117 => (some t117)) else (some false)))) true :=
    Ev.bind ht2 (Ev.bind (same_self _ hcl) (Ev.congr (fun k => by rw [if_pos rfl]) aw))
  have hck := takes_check a _ _ _ (by omega) hcl hsp.2 true K 1100 0 rfl
  have hb := Ev.bind htk (f := fun k t => credenzalaw18_PlaceTakes.l1 k a t 0 (r0 % 1024) (r1 % 1024)) hck
  refine Ev.step (fun k => ?_) hb
  simp only [credenzalaw18_PlaceTakes.j1]
  rw [and_3ff, and_3ff]

end Go.Proofs.Yticjkhkmbinmgaa.Pure

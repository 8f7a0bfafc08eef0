/- What Clean and Take leave, in plain lists: what is cleaned stays; what is taken out is not covered any more, all else is; taken twice it is as taken once. -/
import Derived.Test.YticjkhkmbinmgaaPureD
namespace Go.Proofs.Yticjkhkmbinmgaa.TakeLaws
open Go.RowKit Go.Proofs.YticjkhkmbinmgaaW.PrintWords Go.Proofs.YticjkhkmbinmgaaW.PrintLast Go.Proofs.YticjkhkmbinmgaaW.PrintMore
open Go.Proofs.Yticjkhkmbinmgaa.QClean Go.Proofs.Yticjkhkmbinmgaa.Canon Go.Proofs.Yticjkhkmbinmgaa.PureA Go.Proofs.Yticjkhkmbinmgaa.PureB Go.Proofs.Yticjkhkmbinmgaa.PureC Go.Proofs.Yticjkhkmbinmgaa.PureD
open Go.Proofs.Yticjkhkmbinmgaa.GivenA (okR bad)

theorem okR_of {l : List S25} (hl : l.length ≤ 32) (h : ∀ x ∈ l, 0 ≤ x.f0 ∧ x.f0 ≤ x.f1 ∧ x.f1 ≤ 1073741824) : okR l = true := by
  unfold okR
  rw [Bool.and_eq_true, decide_eq_true_eq, Bool.not_eq_true', List.any_eq_false]
  refine ⟨hl, fun x hx => ?_⟩
  have := h x hx
  unfold bad
  simp
  omega
theorem clean_cov (l : List S25) (h : okR l = true) (t : Int) : cov (cleanR l) t ↔ cov l t := by
  unfold cleanR
  rw [if_pos h]
  exact (refC_spec l (fun x hx => (okR_all h x hx).2.1)).2 t
theorem clean_of_can (c : List S25) (h : Canon.Can c) (ho : okR c = true) : cleanR c = c :=
  can_unique _ _ (clean_can c) h (fun t => clean_cov c ho t)
theorem refC_length (l : List S25) : (refC l).length ≤ l.length := by
  have : ∀ (l out : List S25), (l.foldl ins out).length ≤ out.length + l.length := by
    intro l
    induction l with
    | nil => intro out; simp
    | cons x l ih => intro out; have := ih (ins out x); have := ins_length out x; simp only [List.foldl_cons, List.length_cons]; omega
  have := this l []
  simpa [refC] using this

theorem piece_cov (x : S25) (r0 r1 t : Int) (_hr : r0 < r1) : cov (piecesR x r0 r1) t ↔ (x.f0 ≤ t ∧ t < x.f1) ∧ ¬ (r0 ≤ t ∧ t < r1) := by
  have hm : mn x.f1 r0 = x.f1 ∧ x.f1 ≤ r0 ∨ mn x.f1 r0 = r0 ∧ r0 ≤ x.f1 := by unfold mn; split <;> omega
  have hx : mx x.f0 r1 = x.f0 ∧ r1 ≤ x.f0 ∨ mx x.f0 r1 = r1 ∧ x.f0 ≤ r1 := by unfold mx; split <;> omega
  have n := cov_nil t
  unfold piecesR
  rw [cov_append]
  have a : cov (if x.f0 < mn x.f1 r0 then [⟨x.f0, mn x.f1 r0⟩] else []) t ↔ x.f0 ≤ t ∧ t < mn x.f1 r0 := by
    by_cases h : x.f0 < mn x.f1 r0
    · rw [if_pos h, cov_cons]; exact ⟨fun k => k.elim id (fun k => absurd k n), .inl⟩
    · rw [if_neg h]; exact ⟨fun k => absurd k n, fun k => by omega⟩
  have b : cov (if mx x.f0 r1 < x.f1 then [⟨mx x.f0 r1, x.f1⟩] else []) t ↔ mx x.f0 r1 ≤ t ∧ t < x.f1 := by
    by_cases h : mx x.f0 r1 < x.f1
    · rw [if_pos h, cov_cons]; exact ⟨fun k => k.elim id (fun k => absurd k n), .inl⟩
    · rw [if_neg h]; exact ⟨fun k => absurd k n, fun k => by omega⟩
  rw [a, b]
  omega
theorem piece_in (x : S25) (r0 r1 : Int) (_hx : x.f0 < x.f1) : ∀ y ∈ piecesR x r0 r1, x.f0 ≤ y.f0 ∧ y.f1 ≤ x.f1 ∧ y.f0 < y.f1 ∧ (y.f1 ≤ r0 ∨ r1 ≤ y.f0) := by
  have hm : mn x.f1 r0 ≤ x.f1 ∧ mn x.f1 r0 ≤ r0 := by unfold mn; split <;> omega
  have hxx : x.f0 ≤ mx x.f0 r1 ∧ r1 ≤ mx x.f0 r1 := by unfold mx; split <;> omega
  intro y hy
  unfold piecesR at hy
  rcases List.mem_append.1 hy with hy | hy
  · by_cases h : x.f0 < mn x.f1 r0
    · rw [if_pos h] at hy
      rw [List.mem_singleton.1 hy]
      exact ⟨Int.le_refl _, hm.1, h, .inl hm.2⟩
    · rw [if_neg h] at hy; cases hy
  · by_cases h : mx x.f0 r1 < x.f1
    · rw [if_pos h] at hy
      rw [List.mem_singleton.1 hy]
      exact ⟨hxx.1, Int.le_refl _, h, .inr hxx.2⟩
    · rw [if_neg h] at hy; cases hy
theorem piece_can (x : S25) (r0 r1 : Int) (hr : r0 < r1) : Canon.Can (piecesR x r0 r1) := by
  have hm : mn x.f1 r0 ≤ r0 := by unfold mn; split <;> omega
  have hxx : r1 ≤ mx x.f0 r1 := by unfold mx; split <;> omega
  unfold piecesR
  refine can_append.2 ⟨?_, ?_, ?_⟩
  · by_cases h : x.f0 < mn x.f1 r0
    · rw [if_pos h]; exact can_one h
    · rw [if_neg h]; exact can_nil
  · by_cases h : mx x.f0 r1 < x.f1
    · rw [if_pos h]; exact can_one h
    · rw [if_neg h]; exact can_nil
  · intro p hp q hq
    by_cases h : x.f0 < mn x.f1 r0
    · rw [if_pos h] at hp
      by_cases h2 : mx x.f0 r1 < x.f1
      · rw [if_pos h2] at hq
        rw [List.mem_singleton.1 hp, List.mem_singleton.1 hq]
        show mn x.f1 r0 < mx x.f0 r1
        omega
      · rw [if_neg h2] at hq; cases hq
    · rw [if_neg h] at hp; cases hp

theorem pieces_all (r0 r1 : Int) (hr : r0 < r1) : ∀ c : List S25, Canon.Can c → Canon.Can (c.flatMap fun x => piecesR x r0 r1) ∧ ∀ t, cov (c.flatMap fun x => piecesR x r0 r1) t ↔ cov c t ∧ ¬ (r0 ≤ t ∧ t < r1)
  | [], _ => ⟨can_nil, fun t => ⟨fun k => absurd k (cov_nil t), fun k => absurd k.1 (cov_nil t)⟩⟩
  | x :: c, h => by
    obtain ⟨h1, h2⟩ := pieces_all r0 r1 hr c (can_tail h)
    have hx := h.1 x List.mem_cons_self
    have hp := (List.pairwise_cons.1 h.2).1
    rw [List.flatMap_cons]
    refine ⟨can_append.2 ⟨piece_can x r0 r1 hr, h1, fun p hp' q hq => ?_⟩, fun t => ?_⟩
    · obtain ⟨z, hz, hq⟩ := List.mem_flatMap.1 hq
      have a := piece_in x r0 r1 hx p hp'
      have b := piece_in z r0 r1 (h.1 z (List.mem_cons_of_mem _ hz)) q hq
      have := hp z hz
      omega
    · rw [cov_append, piece_cov x r0 r1 t hr, h2 t, cov_cons]
      constructor
      · rintro (⟨k, m⟩ | ⟨k, m⟩)
        · exact ⟨.inl k, m⟩
        · exact ⟨.inr k, m⟩
      · rintro ⟨k | k, m⟩
        · exact .inl ⟨k, m⟩
        · exact .inr ⟨k, m⟩
theorem pieces_apart (x : S25) (r0 r1 : Int) (hx : x.f0 < x.f1) (hr : r0 < r1) (h : x.f1 ≤ r0 ∨ r1 ≤ x.f0) : piecesR x r0 r1 = [x] := by
  refine can_unique _ _ (piece_can x r0 r1 hr) (can_one hx) fun t => ?_
  rw [piece_cov x r0 r1 t hr, cov_cons]
  have n := cov_nil t
  constructor
  · exact fun k => .inl k.1
  · rintro (k | k)
    · exact ⟨k, by omega⟩
    · exact absurd k n

/-- What Take leaves. -/
theorem take_spec (a : List S25) (r0 r1 : Int) (ha : okR a = true) : Canon.Can (takeA a r0 r1) ∧ ∀ t, cov (takeA a r0 r1) t ↔ cov a t ∧ ¬ (r0 ≤ t ∧ t < r1) := by
  unfold takeA
  by_cases h : r1 ≤ r0
  · rw [if_pos h]
    exact ⟨clean_can a, fun t => (clean_cov a ha t).trans ⟨fun k => ⟨k, by omega⟩, fun k => k.1⟩⟩
  · rw [if_neg h]
    obtain ⟨h1, h2⟩ := pieces_all r0 r1 (by omega) (cleanR a) (clean_can a)
    exact ⟨h1, fun t => by rw [h2 t, clean_cov a ha t]⟩
theorem take_ok (a : List S25) (r0 r1 : Int) (ha : okR a = true) (hl : a.length ≤ 16) : okR (takeA a r0 r1) = true := by
  have hc : (cleanR a).length ≤ 16 := by unfold cleanR; rw [if_pos ha]; have := refC_length a; omega
  have hb := clean_bounds a
  unfold takeA
  by_cases h : r1 ≤ r0
  · rw [if_pos h]
    exact okR_of (by omega) (fun x hx => by have := hb x hx; omega)
  · rw [if_neg h]
    have : ∀ c : List S25, (c.flatMap fun x => piecesR x r0 r1).length ≤ 2 * c.length := by
      intro c
      induction c with
      | nil => simp
      | cons x c ih => have := pieces_length x r0 r1; simp only [List.flatMap_cons, List.length_append, List.length_cons]; omega
    refine okR_of (by have := this (cleanR a); omega) (fun y hy => ?_)
    obtain ⟨x, hx, hy⟩ := List.mem_flatMap.1 hy
    have := hb x hx
    have := piece_in x r0 r1 this.2.1 y hy
    omega
theorem take_twice (a : List S25) (r0 r1 : Int) (ha : okR a = true) (hl : a.length ≤ 16) : takeA (takeA a r0 r1) r0 r1 = takeA a r0 r1 := by
  have ho := take_ok a r0 r1 ha hl
  obtain ⟨h1, h2⟩ := take_spec a r0 r1 ha
  obtain ⟨k1, k2⟩ := take_spec (takeA a r0 r1) r0 r1 ho
  exact can_unique _ _ k1 h1 fun t => by
    rw [k2 t, h2 t]
    exact ⟨fun k => k.1, fun k => ⟨k, k.2⟩⟩

end Go.Proofs.Yticjkhkmbinmgaa.TakeLaws

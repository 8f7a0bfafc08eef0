/- What the printed Clean, Find and Take of the code, and Find and Take of the document, come to: the code's and the document's are the same. Condition: at most 1000 ranges. -/
import Derived.Test.YticjkhkmbinmgaaPureA
import Derived.Test.YticjkhkmbinmgaaRPlacex
import Derived.Test.YticjkhkmbinmgaaSTellsx2
import Derived.Test.YticjkhkmbinmgaaSTellsx3
import Derived.Test.YticjkhkmbinmgaaSTellsx4
namespace Go.Proofs.Yticjkhkmbinmgaa.PureB
open Go.RowKit Go.Proofs.YticjkhkmbinmgaaW.PrintWords Go.Proofs.YticjkhkmbinmgaaW.PrintLast Go.Proofs.YticjkhkmbinmgaaW.PrintMore
open Go.Proofs.Yticjkhkmbinmgaa.QClean Go.Proofs.Yticjkhkmbinmgaa.Canon Go.Proofs.Yticjkhkmbinmgaa.PureA Go.Proofs.Yticjkhkmbinmgaa.RPlace Go.Proofs.Yticjkhkmbinmgaa.STells
open Go.Proofs.Yticjkhkmbinmgaa.GivenA (okR bad place_Ok.f)
open Go.Proofs.Yticjkhkmbinmgaa.GivenC (fit sortR sort_perm sort_sorted sort_length)

/-! ### the code's Clean -/
theorem mstep_snoc (i : List S25) (y x : S25) (h : ¬ x.f0 = x.f1) : mstep (i ++ [y]) x = if x.f0 ≤ y.f1 then i ++ [⟨y.f0, mx y.f1 x.f1⟩] else (i ++ [y]) ++ [x] := by
  unfold mstep
  rw [if_neg h, List.getLast?_append, List.dropLast_concat]
  simp only [List.getLast?_singleton, Option.some_or]
theorem mstep_length (out : List S25) (x : S25) : (mstep out x).length ≤ out.length + 1 := by
  rcases List.eq_nil_or_concat out with rfl | ⟨i, y, rfl⟩
  · unfold mstep; split <;> simp
  · rw [List.concat_eq_append]
    by_cases h : x.f0 = x.f1
    · unfold mstep; rw [if_pos h]; omega
    · rw [mstep_snoc i y x h]; split <;> simp

theorem merge_loop (s : List S25) (hlen : s.length ≤ 1000) : ∀ (b a out : List S25), s = a ++ b → out.length ≤ a.length → Ev (fun k => place_Clean.l0 k out s (s.length : Int) (a.length : Int)) (b.foldl mstep out)
  | [], a, out, e, ho => by
    rw [List.append_nil] at e
    subst e
    refine Ev.step (f := fun _ => some out) (fun k => ?_) (Ev.now out)
    simp only [place_Clean.l0]
    rw [if_neg (by omega)]
    rfl
  | x :: b, a, out, e, ho => by
    have hx : rd_T25 s (a.length : Int) = x := by rw [e]; exact rd_mid a b x
    have hll : s.length = a.length + (b.length + 1) := by rw [e]; simp
    have ih := merge_loop s hlen b (a ++ [x]) (mstep out x) (by rw [e]; simp) (by have := mstep_length out x; simp; omega)
    rw [← nxt_snoc a x (by omega)] at ih
    rw [List.foldl_cons]
    refine Ev.step (fun k => ?_) ih
    simp only [place_Clean.l0]
    rw [if_pos (by omega), if_pos (by omega), if_pos (by omega), hx]
    by_cases h : x.f0 = x.f1
    · have hm : mstep out x = out := by unfold mstep; rw [if_pos h]
      rw [if_pos h, hm]
    rw [if_neg h]
    rcases List.eq_nil_or_concat out with rfl | ⟨i, y, rfl⟩
    · have hw : wrap64 ((([] : List S25).length : Int) - 1) = -1 := by decide +kernel
      have hm : mstep [] x = [x] := by unfold mstep; rw [if_neg h]; rfl
      rw [hw, if_neg (by decide), if_pos (by decide), hm]
      rfl
    · rw [List.concat_eq_append] at *
      have hw : wrap64 (((i ++ [y]).length : Int) - 1) = (i.length : Int) := by
        rw [List.length_append, List.length_singleton]
        simp at ho
        unfold wrap64; omega
      have hy : rd_T25 (i ++ [y]) (i.length : Int) = y := rd_mid i [] y
      rw [hw, if_pos (by omega), if_pos (by omega), if_pos (by simp; omega), hy, mstep_snoc i y x h]
      by_cases hle : x.f0 ≤ y.f1
      · rw [if_pos hle, if_pos hle, Int.toNat_natCast, List.set_append_right _ _ (Nat.le_refl _), Nat.sub_self, List.set_cons_zero]
      · rw [if_neg hle, if_neg hle, if_pos (by simp at ho ⊢; omega)]

theorem clean_ev (l : List S25) : Ev (fun k => place_Clean.f k l) (cleanR l) := by
  unfold place_Clean.f cleanR
  by_cases ho : okR l = true
  · have hl := okR_length ho
    have ha := okR_all ho
    have hfit : ∀ x ∈ l, fit x = true := fun x hx => by
      have := ha x hx
      unfold fit
      rw [Bool.and_eq_true, decide_eq_true_eq, decide_eq_true_eq]
      omega
    have hs : GivenD.slices_SortR.f l = some (sortR l) := by
      unfold GivenD.slices_SortR.f
      rw [if_pos (List.all_eq_true.2 hfit), if_pos (by omega)]
    have hc : GivenB.slices_CloneR.f l = some l := by
      unfold GivenB.slices_CloneR.f
      rw [if_pos (by omega)]
    have hok : place_Ok.f l = some true := by rw [← ho]; rfl
    have hm : merge (sortR l) = refC l := merge_refC l (sortR l) (sort_perm l hfit) (sort_sorted l hfit) (fun x hx => (ha x hx).2.1)
    have hsl := sort_length l hfit
    have := merge_loop (sortR l) (by omega) (sortR l) [] [] rfl (Nat.le_refl _)
    rw [if_pos ho, ← hm]
    refine Ev.congr (fun k => ?_) this
    rw [hok, Option.bind_some, if_pos rfl, hc, Option.bind_some, hs, Option.bind_some, hsl]
    rfl
  · have hok : place_Ok.f l = some (okR l) := rfl
    have hf : okR l = false := by simpa using ho
    rw [hf] at hok
    rw [if_neg ho]
    refine Ev.congr (fun k => ?_) (Ev.now [])
    rw [hok, Option.bind_some, if_neg (by decide)]

/-- What a cleaned list is: it rises, does not touch, and lies between 0 and 2^30. -/
theorem clean_can (l : List S25) : Canon.Can (cleanR l) := by
  unfold cleanR
  by_cases ho : okR l = true
  · rw [if_pos ho]; exact (refC_spec l (fun x hx => (okR_all ho x hx).2.1)).1
  · rw [if_neg ho]; exact can_nil
theorem clean_bounds (l : List S25) : ∀ x ∈ cleanR l, 0 ≤ x.f0 ∧ x.f0 < x.f1 ∧ x.f1 ≤ 1073741824 := by
  intro x hx
  have hc := clean_can l
  have h1 := hc.1 x hx
  unfold cleanR at hx
  by_cases ho : okR l = true
  · rw [if_pos ho] at hx
    have hs := (refC_spec l (fun x hx => (okR_all ho x hx).2.1)).2
    obtain ⟨y, hy, a1, a2⟩ := (hs x.f0).1 ⟨x, hx, Int.le_refl _, h1⟩
    obtain ⟨z, hz, b1, b2⟩ := (hs (x.f1 - 1)).1 ⟨x, hx, by omega, by omega⟩
    have := okR_all ho y hy
    have := okR_all ho z hz
    omega
  · rw [if_neg ho] at hx; cases hx
theorem clean_length (l : List S25) : (cleanR l).length ≤ 1000 := by
  unfold cleanR
  by_cases ho : okR l = true
  · rw [if_pos ho]
    have hl := okR_length ho
    have : ∀ (l out : List S25), (l.foldl ins out).length ≤ out.length + l.length := by
      intro l
      induction l with
      | nil => intro out; simp
      | cons x l ih => intro out; have := ih (ins out x); have := ins_length out x; simp only [List.foldl_cons, List.length_cons]; omega
    have := this l []
    show (l.foldl ins []).length ≤ 1000
    simp at this; omega
  · rw [if_neg ho]; simp

/-! ### same -/
instance : DecidableEq S25 := fun a b => decidable_of_iff (a.f0 = b.f0 ∧ a.f1 = b.f1) ⟨fun h => by cases a; cases b; simp at h; rw [h.1, h.2], fun h => by rw [h]; exact ⟨rfl, rfl⟩⟩
theorem same_loop (a b : List S25) (hab : a.length = b.length) (hm : a.length ≤ 100000) : ∀ (d i : Nat), i + d = a.length →
    Ev (fun k => credenzalaw18_same.l0 k a b (i : Int)) (decide (a.drop i = b.drop i))
  | 0, i, h => by
    have e : a.drop i = b.drop i := by rw [List.drop_eq_nil_of_le (by omega), List.drop_eq_nil_of_le (by omega)]
    rw [decide_eq_true e]
    refine Ev.step (f := fun _ => some true) (fun k => ?_) (Ev.now true)
    simp only [credenzalaw18_same.l0]
    rw [if_neg (by omega)]
  | d + 1, i, h => by
    have ih := same_loop a b hab hm d (i + 1) (by omega)
    rw [← nxt i (by omega)] at ih
    have ha : i < a.length := by omega
    have hb : i < b.length := by omega
    have ra : rd_T25 a (i : Int) = a[i] := by unfold rd_T25; rw [Int.toNat_natCast, List.getD_eq_getElem?_getD, List.getElem?_eq_getElem ha]; rfl
    have rb : rd_T25 b (i : Int) = b[i] := by unfold rd_T25; rw [Int.toNat_natCast, List.getD_eq_getElem?_getD, List.getElem?_eq_getElem hb]; rfl
    have e : (a.drop i = b.drop i) ↔ (a[i] = b[i] ∧ a.drop (i + 1) = b.drop (i + 1)) := by
      rw [List.drop_eq_getElem_cons ha, List.drop_eq_getElem_cons hb, List.cons.injEq]
    have e2 : a[i] = b[i] ↔ (a[i].f0 = b[i].f0 ∧ a[i].f1 = b[i].f1) := by
      constructor
      · intro h; rw [h]; exact ⟨rfl, rfl⟩
      · intro h; cases hx : a[i]; cases hy : b[i]; rw [hx, hy] at h; simp at h; rw [h.1, h.2]
    by_cases hxy : a[i].f0 = b[i].f0 ∧ a[i].f1 = b[i].f1
    · have : decide (a.drop i = b.drop i) = decide (a.drop (i + 1) = b.drop (i + 1)) := by
        rw [decide_eq_decide, e, e2]; exact ⟨fun k => k.2, fun k => ⟨hxy, k⟩⟩
      rw [this]
      refine Ev.step (fun k => ?_) ih
      simp only [credenzalaw18_same.l0]
      rw [if_pos (by omega), if_pos (by omega), if_pos (by omega), ra, rb, if_neg (by simp [hxy])]
    · have : decide (a.drop i = b.drop i) = false := decide_eq_false (fun k => hxy (e2.1 (e.1 k).1))
      rw [this]
      refine Ev.step (f := fun _ => some false) (fun k => ?_) (Ev.now false)
      simp only [credenzalaw18_same.l0]
      rw [if_pos (by omega), if_pos (by omega), if_pos (by omega), ra, rb, if_pos]
      by_cases h0 : a[i].f0 = b[i].f0
      · have h1 : ¬ a[i].f1 = b[i].f1 := fun h => hxy ⟨h0, h⟩
        simp [h0, h1]
      · simp [h0]
theorem same_self (a : List S25) (hm : a.length ≤ 100000) : Ev (fun k => credenzalaw18_same.f k a a) true := by
  unfold credenzalaw18_same.f
  have := same_loop a a rfl hm a.length 0 (by omega)
  rw [decide_eq_true rfl] at this
  exact Ev.congr (fun k => by rw [if_pos rfl]; rfl) this

end Go.Proofs.Yticjkhkmbinmgaa.PureB

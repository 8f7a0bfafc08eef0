/- The document's functions on names and paths, and the program's Parent and Within, as printed, come to what the plain laws of names say (Plain). -/
import Derived.Test.YtpalgkfilpkgeaaDoorRef
namespace Go.Proofs.YtpalgkfilpkgeaaDoor.Ref
open Go.RowKit Go.Proofs.YtpalgkfilpkgeaaDoorW.PrintWords Go.Proofs.YtpalgkfilpkgeaaDoorW.PrintLast Go.Proofs.YtpalgkfilpkgeaaDoorW.PrintMore
open Go.Proofs.YtpalgkfilpkgeaaDoor
open Go.Proofs.YtpalgkfilpkgeaaDoor.Given2 (bt_get name_Split.f name_Join.f)

theorem rd_get (l : List ByteArray) (i : Nat) (h : i < l.length) : rdOf ByteArray.empty l (i : Int) = l[i] := by
  unfold rdOf
  rw [Int.toNat_natCast, List.getD_eq_getElem?_getD, List.getElem?_eq_getElem h, Option.getD_some]
theorem toList_eq {a b : ByteArray} : a.toList = b.toList ↔ a = b := by
  rw [Lib.toList_data, Lib.toList_data]
  constructor
  · intro h; exact ByteArray.ext (Array.ext' h)
  · rintro rfl; rfl

/-! ### Join -/
def tail (l : List ByteArray) : List UInt8 := (l.map fun s => 47 :: s.data.toList).flatten
theorem tail_path (l : List ByteArray) : Plain.pathOf (l.map (·.data.toList)) = if l = [] then [47] else tail l := by
  cases l with
  | nil => rfl
  | cons x r =>
    rw [if_neg (by simp)]
    unfold Plain.pathOf tail
    rw [List.map_cons, Lib.join_cons]
    simp [Lib.joinTail, List.map_map, Function.comp_def]

theorem join_loop (l : List ByteArray) (hl : l.length ≤ 6) : ∀ (rest : List ByteArray) (i : Nat) (acc : List UInt8), l.drop i = rest → acc.length ≤ 28 * i →
    Ev (fun k => HRef.credenzaref2_Join.l0 k l (Plain.bs acc) (i : Int)) (if rest.all Plain.ok = true then (if acc ++ tail rest = [] then (Plain.bs [47], true) else (Plain.bs (acc ++ tail rest), true)) else (Plain.bs [], false))
  | [], i, acc, hd, ha => by
    have hi : l.length ≤ i := by
      rcases Nat.lt_or_ge i l.length with h | h
      · rw [List.drop_eq_getElem_cons h] at hd; cases hd
      · exact h
    rw [if_pos (by rfl)]
    have e : tail [] = [] := rfl
    rw [e, List.append_nil]
    by_cases h0 : acc = []
    · subst h0
      rw [if_pos rfl]
      refine Ev.step (f := fun _ => some (Plain.bs [47], true)) (fun k => ?_) (Ev.now _)
      simp only [HRef.credenzaref2_Join.l0]
      rw [if_neg (by omega), if_pos (by rw [Lib.toList_data]; rfl)]
      rfl
    · rw [if_neg h0]
      refine Ev.step (f := fun _ => some (Plain.bs acc, true)) (fun k => ?_) (Ev.now _)
      simp only [HRef.credenzaref2_Join.l0]
      rw [if_neg (by omega), if_neg (by rw [Lib.toList_data]; exact h0)]
  | x :: r, i, acc, hd, ha => by
    have hlt : i < l.length := by
      rcases Nat.lt_or_ge i l.length with h | h
      · exact h
      · rw [List.drop_eq_nil_of_le h] at hd; cases hd
    rw [List.drop_eq_getElem_cons hlt] at hd
    obtain ⟨hx, hr⟩ := List.cons.inj hd
    have hwr : wrap64 ((i : Int) + 1) = ((i + 1 : Nat) : Int) := by unfold wrap64; omega
    have hrd : rdOf ByteArray.empty l (i : Int) = x := by rw [rd_get l i hlt, hx]
    refine Ev.step (f := fun k => (HRef.credenzaref2_NameOk.f k x).bind fun t107 => (if t107 = true then (if (Plain.bs acc).size + 1 ≤ 9223372036854775807 then (if ((Plain.bs acc) ++ (⟨#[47]⟩ : ByteArray)).size + x.size ≤ 9223372036854775807 then (HRef.credenzaref2_Join.l0 k l (((Plain.bs acc) ++ (⟨#[47]⟩ : ByteArray)) ++ x) ((i + 1 : Nat) : Int)) else (none)) else (none)) else (some ((⟨#[]⟩ : ByteArray), false)))) (fun k => ?_) ?_
    · simp only [HRef.credenzaref2_Join.l0]
      rw [if_pos (by omega), if_pos (by omega), hrd, hwr]
    refine Ev.bind (nameOk_ev x) ?_
    cases hk : Plain.ok x with
    | false =>
      rw [if_neg (by simp [hk])]
      exact Ev.congr (fun k => by rw [if_neg (by decide)]; rfl) (Ev.now (Plain.bs [], false))
    | true =>
      have hxl := Plain.okL_len hk
      have ih := join_loop l hl r (i + 1) (acc ++ 47 :: x.data.toList) hr (by rw [List.length_append, List.length_cons]; have := hxl.2; omega)
      have e1 : (Plain.bs acc ++ (⟨#[47]⟩ : ByteArray)) ++ x = Plain.bs (acc ++ 47 :: x.data.toList) := by
        apply ByteArray.ext
        apply Array.ext'
        simp [Plain.bs]
      have s1 : (Plain.bs acc).size = acc.length := Lib.size_eq _
      have s2 : ((Plain.bs acc) ++ (⟨#[47]⟩ : ByteArray)).size = acc.length + 1 := by
        rw [ByteArray.size_append, s1]; rfl
      have s3 : x.size = x.data.toList.length := Lib.size_eq x
      refine Ev.congr (f := fun k => HRef.credenzaref2_Join.l0 k l (Plain.bs (acc ++ 47 :: x.data.toList)) ((i + 1 : Nat) : Int)) (fun k => by rw [if_pos rfl, if_pos (by omega), if_pos (by omega), e1]) ?_
      have e2 : acc ++ tail (x :: r) = (acc ++ 47 :: x.data.toList) ++ tail r := by simp [tail]
      rw [e2, List.all_cons, hk, Bool.true_and]
      exact ih

theorem join_ev (l : List ByteArray) : ∃ r, name_Join.f l = some r ∧ Ev (fun k => HRef.credenzaref2_Join.f k l) r := by
  refine ⟨_, rfl, ?_⟩
  unfold HRef.credenzaref2_Join.f
  by_cases h6 : (l.length : Int) > 6
  · have hg : ¬ Plain.good (l.map (·.data.toList)) = true := fun hg => by have := Plain.good_len hg; rw [List.length_map] at this; omega
    rw [if_neg hg]
    exact Ev.congr (fun k => by rw [if_pos h6]) (Ev.now _)
  have hl := join_loop l (by omega) l 0 [] rfl (by simp)
  rw [List.nil_append] at hl
  refine Ev.congr (f := fun k => HRef.credenzaref2_Join.l0 k l (Plain.bs []) ((0 : Nat) : Int)) (fun k => by rw [if_neg h6]; rfl) ?_
  have e : (l.map (·.data.toList)).all Plain.okL = l.all Plain.ok := by rw [List.all_map]; rfl
  have e2 : Plain.good (l.map (·.data.toList)) = l.all Plain.ok := by
    unfold Plain.good
    rw [e, decide_eq_true (by rw [List.length_map]; omega), Bool.true_and]
  rw [e2]
  cases hk : l.all Plain.ok with
  | false =>
    rw [hk, if_neg (by decide)] at hl
    rw [if_neg (by decide)]
    exact hl
  | true =>
    rw [hk, if_pos rfl] at hl
    rw [if_pos rfl, tail_path]
    by_cases hn : l = []
    · subst hn
      simpa [tail] using hl
    · have ht : ¬ tail l = [] := by
        cases l with
        | nil => exact absurd rfl hn
        | cons x r => simp [tail]
      rw [if_neg ht] at hl
      rw [if_neg hn]
      exact hl

/-! ### SameTexts, Equal -/
theorem drop_cons_eq {a b : List ByteArray} (i : Nat) (ha : i < a.length) (hb : i < b.length) : (a.drop i = b.drop i) ↔ (a[i] = b[i] ∧ a.drop (i + 1) = b.drop (i + 1)) := by
  rw [List.drop_eq_getElem_cons ha, List.drop_eq_getElem_cons hb, List.cons.injEq]

theorem same_loop (a b : List ByteArray) (hab : a.length = b.length) (hm : a.length ≤ 9223372036854775807) : ∀ (d i : Nat), i + d = a.length →
    Ev (fun k => HRef.credenzaref2_SameTexts.l0 k a b (i : Int)) (decide (a.drop i = b.drop i))
  | 0, i, h => by
    rw [decide_eq_true (by rw [List.drop_eq_nil_of_le (by omega), List.drop_eq_nil_of_le (by omega)])]
    refine Ev.step (f := fun _ => some true) (fun k => ?_) (Ev.now true)
    simp only [HRef.credenzaref2_SameTexts.l0]
    rw [if_neg (by omega)]
  | d + 1, i, h => by
    have ha : i < a.length := by omega
    have hb : i < b.length := by omega
    have ih := same_loop a b hab hm d (i + 1) (by omega)
    have hwr : wrap64 ((i : Int) + 1) = ((i + 1 : Nat) : Int) := by unfold wrap64; omega
    refine Ev.step (f := fun k => if a[i] = b[i] then HRef.credenzaref2_SameTexts.l0 k a b ((i + 1 : Nat) : Int) else some false) (fun k => ?_) ?_
    · simp only [HRef.credenzaref2_SameTexts.l0]
      rw [if_pos (by omega), if_pos (by omega), if_pos (by omega), rd_get a i ha, rd_get b i hb, hwr]
      simp only [toList_eq]
    · by_cases he : a[i] = b[i]
      · have e : decide (a.drop i = b.drop i) = decide (a.drop (i + 1) = b.drop (i + 1)) := decide_eq_decide.mpr (by rw [drop_cons_eq i ha hb]; exact ⟨fun h => h.2, fun h => ⟨he, h⟩⟩)
        rw [e]
        exact Ev.congr (fun k => by rw [if_pos he]) ih
      · rw [decide_eq_false (fun h => he ((drop_cons_eq i ha hb).1 h).1)]
        exact Ev.congr (fun k => by rw [if_neg he]) (Ev.now false)
theorem same_ev (a b : List ByteArray) (hm : a.length ≤ 9223372036854775807) : Ev (fun k => HRef.credenzaref2_SameTexts.f k a b) (decide (a = b)) := by
  unfold HRef.credenzaref2_SameTexts.f
  by_cases h : a.length = b.length
  · have hl := same_loop a b h hm a.length 0 (by omega)
    rw [List.drop_zero, List.drop_zero] at hl
    exact Ev.congr (fun k => by rw [if_pos (by omega)]; rfl) hl
  · rw [decide_eq_false (fun e => h (by rw [e]))]
    exact Ev.congr (fun k => by rw [if_neg (by omega)]) (Ev.now false)

theorem equal_loop (a b : List ByteArray) (hab : a.length = b.length) (hm : a.length ≤ 9223372036854775807) : ∀ (d i : Nat), i + d = a.length →
    Ev (fun k => HRef.slices_Equal_string_string.l0 k a b (a.length : Int) (i : Int)) (decide (a.drop i = b.drop i))
  | 0, i, h => by
    rw [decide_eq_true (by rw [List.drop_eq_nil_of_le (by omega), List.drop_eq_nil_of_le (by omega)])]
    refine Ev.step (f := fun _ => some true) (fun k => ?_) (Ev.now true)
    simp only [HRef.slices_Equal_string_string.l0]
    rw [if_neg (by omega)]
  | d + 1, i, h => by
    have ha : i < a.length := by omega
    have hb : i < b.length := by omega
    have ih := equal_loop a b hab hm d (i + 1) (by omega)
    have hwr : wrap64 ((i : Int) + 1) = ((i + 1 : Nat) : Int) := by unfold wrap64; omega
    refine Ev.step (f := fun k => if a[i] = b[i] then HRef.slices_Equal_string_string.l0 k a b (a.length : Int) ((i + 1 : Nat) : Int) else some false) (fun k => ?_) ?_
    · simp only [HRef.slices_Equal_string_string.l0]
      rw [if_pos (by omega), if_pos (by omega), if_pos (by omega), if_pos (by omega), rd_get a i ha, rd_get b i hb, hwr]
      simp only [toList_eq]
    · by_cases he : a[i] = b[i]
      · have e : decide (a.drop i = b.drop i) = decide (a.drop (i + 1) = b.drop (i + 1)) := decide_eq_decide.mpr (by rw [drop_cons_eq i ha hb]; exact ⟨fun h => h.2, fun h => ⟨he, h⟩⟩)
        rw [e]
        exact Ev.congr (fun k => by rw [if_pos he]) ih
      · rw [decide_eq_false (fun h => he ((drop_cons_eq i ha hb).1 h).1)]
        exact Ev.congr (fun k => by rw [if_neg he]) (Ev.now false)
theorem equal_ev (a b : List ByteArray) (hm : a.length ≤ 9223372036854775807) : Ev (fun k => HRef.slices_Equal_string_string.f k a b) (decide (a = b)) := by
  unfold HRef.slices_Equal_string_string.f
  by_cases h : a.length = b.length
  · have hl := equal_loop a b h hm a.length 0 (by omega)
    rw [List.drop_zero, List.drop_zero] at hl
    exact Ev.congr (fun k => by rw [if_pos (by omega)]; rfl) hl
  · rw [decide_eq_false (fun e => h (by rw [e]))]
    exact Ev.congr (fun k => by rw [if_neg (by omega)]) (Ev.now false)

end Go.Proofs.YtpalgkfilpkgeaaDoor.Ref

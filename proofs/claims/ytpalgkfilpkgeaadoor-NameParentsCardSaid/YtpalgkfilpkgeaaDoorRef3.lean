/- Parent and Within, the document's and the program's, as printed, and the fixed facts, come to what the plain laws of names say (Plain). -/
import Derived.Test.YtpalgkfilpkgeaaDoorRef2
namespace Go.Proofs.YtpalgkfilpkgeaaDoor.Ref
open Go.RowKit Go.Proofs.YtpalgkfilpkgeaaDoorW.PrintWords Go.Proofs.YtpalgkfilpkgeaaDoorW.PrintLast Go.Proofs.YtpalgkfilpkgeaaDoorW.PrintMore
open Go.Proofs.YtpalgkfilpkgeaaDoor
open Go.Proofs.YtpalgkfilpkgeaaDoor.Given2 (bt_get name_Split.f name_Join.f)

/-- What Split hands back, as lists. -/
def splitR (s : ByteArray) : List ByteArray × Bool := match Plain.splitP s.data.toList with
  | some ps => (ps.map Plain.bs, true)
  | none => ([], false)
theorem split_R (s : ByteArray) : name_Split.f s = some (splitR s) := rfl
theorem split_evR (s : ByteArray) : Ev (fun k => HRef.credenzaref2_Split.f k s) (splitR s) := by
  obtain ⟨r, h, hr⟩ := split_ev s
  rw [split_R] at h
  obtain rfl := Option.some.inj h
  exact hr
theorem splitR_len (s : ByteArray) : (splitR s).1.length ≤ 6 := by
  unfold splitR
  cases h : Plain.splitP s.data.toList with
  | none => simp
  | some ps => have := Plain.good_len (Plain.path_split _ _ h).2; simpa using this

/-- What Join hands back. -/
def joinR (l : List ByteArray) : ByteArray × Bool := if Plain.good (l.map (·.data.toList)) = true then (Plain.bs (Plain.pathOf (l.map (·.data.toList))), true) else ((⟨#[]⟩ : ByteArray), false)
theorem join_R (l : List ByteArray) : name_Join.f l = some (joinR l) := rfl
theorem join_evR (l : List ByteArray) : Ev (fun k => HRef.credenzaref2_Join.f k l) (joinR l) := by
  obtain ⟨r, h, hr⟩ := join_ev l
  rw [join_R] at h
  obtain rfl := Option.some.inj h
  exact hr

/-! ### Parent -/
def parentR (s : ByteArray) : ByteArray × ByteArray × Bool :=
  if (splitR s).2 = true ∧ (splitR s).1 ≠ [] then ((joinR ((splitR s).1.take ((splitR s).1.length - 1))).1, (splitR s).1.getD ((splitR s).1.length - 1) ByteArray.empty, true) else ((⟨#[]⟩ : ByteArray), (⟨#[]⟩ : ByteArray), false)

theorem parent_eq (s : ByteArray) : HRef.name_Parent.f s = some (parentR s) := by
  unfold HRef.name_Parent.f parentR
  rw [split_R, Option.bind_some]
  have hlen := splitR_len s
  cases hb : (splitR s).2 with
  | false => rw [if_neg (by decide), if_neg (by simp)]
  | true =>
    rw [if_pos rfl]
    by_cases h0 : (splitR s).1 = []
    · rw [if_pos (by rw [h0]; rfl), if_neg (by simp [h0])]
    · have hp : 0 < (splitR s).1.length := by
        rcases Nat.eq_zero_or_pos (splitR s).1.length with h | h
        · exact absurd (List.eq_nil_of_length_eq_zero h) h0
        · exact h
      have hw : wrap64 (((splitR s).1.length : Int) - 1) = (((splitR s).1.length - 1 : Nat) : Int) := by unfold wrap64; omega
      rw [if_neg (by omega), hw, if_pos (by omega), if_pos (by omega), if_pos ⟨rfl, h0⟩, Int.toNat_natCast, join_R, Option.bind_some, if_pos (by omega)]
      unfold rdOf
      rw [Int.toNat_natCast]
theorem parent_ev (s : ByteArray) : Ev (fun k => HRef.credenzaref2_Parent.f k s) (parentR s) := by
  unfold HRef.credenzaref2_Parent.f parentR
  refine Ev.bind (split_evR s) ?_
  have hlen := splitR_len s
  cases hb : (splitR s).2 with
  | false =>
    rw [if_neg (by simp)]
    exact Ev.congr (fun k => by rw [if_neg (by decide)]) (Ev.now _)
  | true =>
    by_cases h0 : (splitR s).1 = []
    · rw [if_neg (by simp [h0])]
      exact Ev.congr (fun k => by rw [if_pos rfl, if_pos (by rw [h0]; rfl)]) (Ev.now _)
    · have hp : 0 < (splitR s).1.length := by
        rcases Nat.eq_zero_or_pos (splitR s).1.length with h | h
        · exact absurd (List.eq_nil_of_length_eq_zero h) h0
        · exact h
      have hw : wrap64 (((splitR s).1.length : Int) - 1) = (((splitR s).1.length - 1 : Nat) : Int) := by unfold wrap64; omega
      rw [if_pos ⟨rfl, h0⟩]
      refine Ev.congr (f := fun k => (HRef.credenzaref2_Join.f k ((splitR s).1.take ((splitR s).1.length - 1))).bind fun b => some (b.1, (splitR s).1.getD ((splitR s).1.length - 1) ByteArray.empty, true)) (fun k => ?_) (Ev.bind (join_evR _) (Ev.now _))
      rw [if_pos rfl, if_neg (by omega), hw, if_pos (by omega), if_pos (by omega), Int.toNat_natCast]
      congr 1
      funext b
      rw [if_pos (by omega)]
      unfold rdOf
      rw [Int.toNat_natCast]

/-! ### Within -/
def withinR (a b : ByteArray) : Bool := (splitR a).2 && ((splitR b).2 && (decide ((splitR b).1.length ≤ (splitR a).1.length) && decide ((splitR a).1.take (splitR b).1.length = (splitR b).1)))

theorem within_ev (a b : ByteArray) : Ev (fun k => HRef.name_Within.f k a b) (withinR a b) := by
  unfold HRef.name_Within.f withinR
  rw [split_R, split_R]
  refine Ev.bind (g := fun _ => some (splitR a)) (Ev.now _) (Ev.bind (g := fun _ => some (splitR b)) (Ev.now _) ?_)
  have hlen := splitR_len a
  cases ha : (splitR a).2 with
  | false => exact Ev.congr (fun k => by rw [if_neg (by decide)]) (Ev.now false)
  | true =>
    cases hb : (splitR b).2 with
    | false => exact Ev.congr (fun k => by rw [if_pos rfl, if_neg (by decide)]) (Ev.now false)
    | true =>
      rw [Bool.true_and, Bool.true_and]
      by_cases hl : (splitR b).1.length ≤ (splitR a).1.length
      · rw [decide_eq_true hl, Bool.true_and]
        refine Ev.congr (f := fun k => (HRef.slices_Equal_string_string.f k ((splitR a).1.take (splitR b).1.length) (splitR b).1).bind fun t => some t) (fun k => ?_) (Ev.bind (equal_ev _ _ (by rw [List.length_take]; omega)) (Ev.now _))
        rw [if_pos rfl, if_pos rfl, if_pos (by omega), if_pos (by omega), if_pos (by omega), Int.toNat_natCast]
      · rw [decide_eq_false hl, Bool.false_and]
        exact Ev.congr (fun k => by rw [if_pos rfl, if_pos rfl, if_neg (by omega)]) (Ev.now false)

theorem within_loop (a b : List ByteArray) (hab : b.length ≤ a.length) (hm : a.length ≤ 6) : ∀ (d i : Nat), i + d = b.length →
    Ev (fun k => HRef.credenzaref2_Within.l0 k a b (i : Int)) (decide ((a.take b.length).drop i = b.drop i))
  | 0, i, h => by
    rw [decide_eq_true (by rw [List.drop_eq_nil_of_le (by rw [List.length_take]; omega), List.drop_eq_nil_of_le (by omega)])]
    refine Ev.step (f := fun _ => some true) (fun k => ?_) (Ev.now true)
    simp only [HRef.credenzaref2_Within.l0]
    rw [if_neg (by omega)]
  | d + 1, i, h => by
    have ha : i < a.length := by omega
    have hb : i < b.length := by omega
    have ha' : i < (a.take b.length).length := by rw [List.length_take]; omega
    have ih := within_loop a b hab hm d (i + 1) (by omega)
    have hwr : wrap64 ((i : Int) + 1) = ((i + 1 : Nat) : Int) := by unfold wrap64; omega
    have hc := drop_cons_eq i ha' hb
    rw [List.getElem_take] at hc
    refine Ev.step (f := fun k => if a[i] = b[i] then HRef.credenzaref2_Within.l0 k a b ((i + 1 : Nat) : Int) else some false) (fun k => ?_) ?_
    · simp only [HRef.credenzaref2_Within.l0]
      rw [if_pos (by omega), if_pos (by omega), if_pos (by omega), rd_get a i ha, rd_get b i hb, hwr]
      simp only [toList_eq]
    · by_cases he : a[i] = b[i]
      · have e : decide ((a.take b.length).drop i = b.drop i) = decide ((a.take b.length).drop (i + 1) = b.drop (i + 1)) := decide_eq_decide.mpr (by rw [hc]; exact ⟨fun h => h.2, fun h => ⟨he, h⟩⟩)
        rw [e]
        exact Ev.congr (fun k => by rw [if_pos he]) ih
      · rw [decide_eq_false (fun h => he (hc.1 h).1)]
        exact Ev.congr (fun k => by rw [if_neg he]) (Ev.now false)
theorem refWithin_ev (a b : ByteArray) : Ev (fun k => HRef.credenzaref2_Within.f k a b) (withinR a b) := by
  unfold HRef.credenzaref2_Within.f withinR
  refine Ev.bind (split_evR a) (Ev.bind (split_evR b) ?_)
  have hlen := splitR_len a
  have no : Ev (fun k => HRef.credenzaref2_Within.j0 k (splitR a).1 (splitR b).1 true) false := Ev.step (f := fun _ => some false) (fun k => by simp only [HRef.credenzaref2_Within.j0]; rw [if_pos trivial]) (Ev.now _)
  cases ha : (splitR a).2 with
  | false => exact Ev.congr (fun k => by rw [if_neg (by decide)]) no
  | true =>
    cases hb : (splitR b).2 with
    | false => exact Ev.congr (fun k => by rw [if_pos rfl, if_neg (by decide)]) no
    | true =>
      rw [Bool.true_and, Bool.true_and]
      by_cases hl : (splitR b).1.length ≤ (splitR a).1.length
      · rw [decide_eq_true hl, Bool.true_and]
        have h0 := within_loop (splitR a).1 (splitR b).1 hl hlen (splitR b).1.length 0 (by omega)
        rw [List.drop_zero, List.drop_zero] at h0
        refine Ev.congr (f := fun k => HRef.credenzaref2_Within.j0 k (splitR a).1 (splitR b).1 false) (fun k => by rw [if_pos rfl, if_pos rfl, decide_eq_false (by omega)]) (Ev.step (f := fun k => HRef.credenzaref2_Within.l0 k (splitR a).1 (splitR b).1 0) (fun k => ?_) h0)
        simp only [HRef.credenzaref2_Within.j0]
        rw [if_neg (by decide)]
      · rw [decide_eq_false hl, Bool.false_and]
        exact Ev.congr (fun k => by rw [if_pos rfl, if_pos rfl, decide_eq_true (by omega)]) no

theorem awake_eq : HRef.credenzalaw9_awake.f = some true := by
  unfold HRef.credenzalaw9_awake.f
  rw [parent_eq, Option.bind_some]
  decide +kernel

end Go.Proofs.YtpalgkfilpkgeaaDoor.Ref

/- name.Join at this translation: the call answers what the plain laws of names say (Plain). No condition on the input but that it is a list of strings in memory. -/
import Derived.Test.YtpalgkfilpkgeaaDoorGiven2
namespace Go.Proofs.YtpalgkfilpkgeaaDoor.Given2
open Go.RowKit Go.Proofs.YtpalgkfilpkgeaaDoorW.PrintWords Go.Proofs.YtpalgkfilpkgeaaDoorW.PrintLast Go.Proofs.YtpalgkfilpkgeaaDoorW.PrintMore
open Go.Proofs.YtpalgkfilpkgeaaDoor

theorem any_bad (l : List ByteArray) : (l.any fun s => !Plain.ok s) = !((l.map (·.data.toList)).all Plain.okL) := by
  induction l with
  | nil => rfl
  | cons s l ih =>
    rw [List.any_cons, ih, List.map_cons, List.all_cons, Bool.not_and]
    rfl

theorem name_Join.long (A0 : Option Addr) (c0 : Nat) (l0 : List ByteArray) (w : World) (h6 : 6 < l0.length) (hm : l0.length ≤ 9223372036854775807) :
    Calls Tryd.prog 11 #[.slice A0 l0.length c0] w fun e w' => e = .returned (.tuple #[.string ⟨#[]⟩, .bool false]) ∧ Below w.heap.size w w' := by
  have h6' : (6 : Int) < (l0.length : Int) := by omega
  go_enter Tryd.func11, Tryd.ntmps11
  go_wp2
  go_ret2
  exact ⟨rfl, Below.refl _ _⟩

theorem name_Join.bad (A0 : Option Addr) (c0 : Nat) (l0 : List ByteArray) (w : World) (hr0 : Kd.C Kd.string w A0 l0.length l0) (h6 : ¬ 6 < l0.length) (hb : (l0.any fun s => !Plain.ok s) = true) :
    Calls Tryd.prog 11 #[.slice A0 l0.length c0] w fun e w' => e = .returned (.tuple #[.string ⟨#[]⟩, .bool false]) ∧ Below w.heap.size w w' := by
  have h6' : ¬ (6 : Int) < (l0.length : Int) := by omega
  have hcon := contains24 c0 hr0 24 (pred24 w) (enters_of Tryd.func24 (by kernel_rfl) rfl)
  rw [hb] at hcon
  clear hb hr0
  go_enter Tryd.func11, Tryd.ntmps11
  go_wp2_with (go_at_call 23; refine hcon.mono ?_; rintro e w' ⟨rfl, q, rfl⟩)
  go_ret2
  exact ⟨rfl, below_drewN' (Below.refl _ _) _⟩

theorem name_Join.fine (A0 : Option Addr) (c0 : Nat) (l0 : List ByteArray) (w : World) (hr0 : Kd.C Kd.string w A0 l0.length l0) (hc0 : l0.length ≤ c0) (h6 : ¬ 6 < l0.length) (hb : (l0.any fun s => !Plain.ok s) = false)
    (hlen : (Lib.join (l0.map (·.data.toList)) [47]).length ≤ 168) :
    Calls Tryd.prog 11 #[.slice A0 l0.length c0] w fun e w' => e = .returned (.tuple #[.string (Plain.bs (Plain.pathOf (l0.map (·.data.toList)))), .bool true]) ∧ Below w.heap.size w w' := by
  have h6' : ¬ (6 : Int) < (l0.length : Int) := by omega
  have hcon := contains24 c0 hr0 24 (pred24 w) (enters_of Tryd.func24 (by kernel_rfl) rfl)
  rw [hb] at hcon
  have hj : ∀ q, Calls Tryd.prog 25 #[.slice A0 l0.length c0, .string ⟨#[47]⟩] (w.drewN q) fun e w' => e = .returned (.string ⟨(Lib.join (l0.map (·.data.toList)) [47]).toArray⟩) ∧ Below w.heap.size w w' := fun q => by
    by_cases hp : 0 < l0.length
    · obtain ⟨b, off, rfl, hbl, hc⟩ := at_strings hr0 hp
      exact (Any.strings_Join Tryd.lays156 Tryd.Builder_Extra_156 b off c0 l0 ⟨#[47]⟩ (w.drewN q) hc hbl (by omega) hc0 (Nat.le_trans hlen (by decide))).mono fun e w' ⟨he, hw⟩ => ⟨he, (below_drewN' (Below.refl w.heap.size w) q).trans (show Below w.heap.size (w.drewN q) w' from hw)⟩
    · have e : l0 = [] := by cases l0 with
        | nil => rfl
        | cons _ _ => simp at hp
      subst e
      exact (Any.strings_Join_none Tryd.lays156 Tryd.Builder_Extra_156 A0 c0 ⟨#[47]⟩ (w.drewN q)).mono fun e w' ⟨he, hw⟩ => ⟨he, by rw [hw]; exact below_drewN' (Below.refl _ _) _⟩
  have hfin : ∀ l : List UInt8, (⟨#[47]⟩ : ByteArray) ++ ⟨l.toArray⟩ = Plain.bs (47 :: l) := fun l => by
    apply ByteArray.ext
    apply Array.ext'
    simp [Plain.bs]
  unfold Plain.pathOf
  rw [← hfin]
  generalize Lib.join (l0.map (·.data.toList)) [47] = jl at hj hlen
  clear hb hr0 hfin
  go_enter Tryd.func11, Tryd.ntmps11
  go_wp2_with (first | (go_at_call 23; refine hcon.mono ?_; rintro e w' ⟨rfl, q, rfl⟩) | (go_at_call 25; refine (hj _).mono ?_; rintro e w' ⟨rfl, hw⟩))
  go_ret2
  exact ⟨rfl, hw⟩

theorem name_Join.calls (A0 : Option Addr) (c0 : Nat) (l0 : List ByteArray) (r1 : ByteArray) (r2 : Bool) (w : World) (hr0 : Kd.C Kd.string w A0 l0.length l0) (hc0 : l0.length ≤ c0) (h : name_Join.f l0 = some (r1, r2)) :
    Calls Tryd.prog 11 #[.slice A0 l0.length c0] w fun e w' => e = .returned (.tuple #[.string r1, .bool r2]) ∧ Below w.heap.size w w' := by
  have h := Option.some.inj h
  by_cases h6 : 6 < l0.length
  · have hg : ¬ Plain.good (l0.map (·.data.toList)) = true := fun hg => by have := Plain.good_len hg; rw [List.length_map] at this; omega
    rw [if_neg hg] at h
    obtain ⟨rfl, rfl⟩ := Prod.mk.inj h
    exact name_Join.long A0 c0 l0 w h6 hr0.2.1
  cases hb : (l0.any fun s => !Plain.ok s) with
  | true =>
    have hg : ¬ Plain.good (l0.map (·.data.toList)) = true := fun hg => by
      rw [any_bad] at hb
      unfold Plain.good at hg
      rw [Bool.and_eq_true] at hg
      rw [hg.2] at hb
      exact absurd hb (by decide)
    rw [if_neg hg] at h
    obtain ⟨rfl, rfl⟩ := Prod.mk.inj h
    exact name_Join.bad A0 c0 l0 w hr0 h6 hb
  | false =>
    have hg : Plain.good (l0.map (·.data.toList)) = true := by
      rw [any_bad] at hb
      unfold Plain.good
      rw [Bool.and_eq_true]
      exact ⟨decide_eq_true (by rw [List.length_map]; omega), by simpa using hb⟩
    rw [if_pos hg] at h
    obtain ⟨rfl, rfl⟩ := Prod.mk.inj h
    have := Plain.path_length _ hg
    unfold Plain.pathOf at this
    exact name_Join.fine A0 c0 l0 w hr0 hc0 h6 hb (by rw [List.length_cons] at this; omega)

end Go.Proofs.YtpalgkfilpkgeaaDoor.Given2

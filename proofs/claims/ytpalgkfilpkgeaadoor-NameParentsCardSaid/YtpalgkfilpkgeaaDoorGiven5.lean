/- name.Split at this translation: the call answers what the plain laws of names say (Plain). No condition on the input. -/
import Derived.Test.YtpalgkfilpkgeaaDoorGiven4
namespace Go.Proofs.YtpalgkfilpkgeaaDoor.Given2
open Go.RowKit Go.Proofs.YtpalgkfilpkgeaaDoorW.PrintWords Go.Proofs.YtpalgkfilpkgeaaDoorW.PrintLast Go.Proofs.YtpalgkfilpkgeaaDoorW.PrintMore
open Go.Proofs.YtpalgkfilpkgeaaDoor

/-- A new row of strings, in a world that is not told. -/
def NewRow (B : Nat) (w w' : World) (g : Nat) (l : List ByteArray) : Prop :=
  B ≤ g ∧ w'.heap[g]? = some (.cells (l.map Value.string).toArray 9 (0, 0)) ∧ Below B w w'

theorem NewRow.drewN {B : Nat} {w w' : World} {g : Nat} {l : List ByteArray} (h : NewRow B w w' g l) (q : Nat) : NewRow B w (w'.drewN q) g l := ⟨h.1, h.2.1, below_drewN' h.2.2 q⟩
theorem NewRow.reads {B : Nat} {w w' : World} {g : Nat} {l : List ByteArray} (h : NewRow B w w' g l) (hl : l.length ≤ 9223372036854775807) : Kd.C Kd.string w' (some ⟨g, 0, none⟩) l.length l := by
  refine ⟨rfl, hl, fun hp => ⟨_, rfl, fun j p hj => ⟨[.string p], rfl, rfl, fun i u hi => ?_⟩⟩⟩
  cases i with
  | zero =>
    obtain rfl : Value.string p = u := by simpa using hi
    have e : (⟨g, 0, none⟩ : Addr).add (j * Kd.string.sz + 0) = ⟨g, j, none⟩ := by simp [Kd.string, Kd.scalar, Addr.add]; omega
    rw [e]
    unfold World.cell?
    rw [h.2.1]
    simp [hj]
  | succ i => simp at hi
theorem reps_strings (l : List ByteArray) (R : ByteArray → List Value → Prop) (hR : ∀ p, R p [.string p]) : Reps R 1 l (l.map Value.string) := by
  refine ⟨by simp, fun j p hj => ?_⟩
  have hlt : j < l.length := by
    rcases Nat.lt_or_ge j l.length with h | h
    · exact h
    · rw [List.getElem?_eq_none h] at hj; cases hj
  have e : ((l.map Value.string).drop (j * 1)).take 1 = [.string p] := by
    rw [Nat.mul_one, List.drop_eq_getElem_cons (by rw [List.length_map]; exact hlt)]
    rw [List.getElem?_eq_getElem hlt] at hj
    simp [Option.some.inj hj]
  rw [e]; exact hR p
theorem NewRow.own {B : Nat} {w w' : World} {g : Nat} {l : List ByteArray} (h : NewRow B w w' g l) (hl : l.length ≤ 9223372036854775807) : Kd.R Kd.string 9 w' B (fun _ => True) (.slice (some ⟨g, 0, none⟩) l.length l.length) l := by
  refine ⟨fun _ _ => trivial, l.map Value.string, ⟨by simp [Kd.string, Kd.scalar], .inr ⟨g, l.length, (l.map Value.string).toArray, rfl, h.1, h.2.1, Nat.le_refl _, hl, by simp [Kd.string, Kd.scalar], ?_⟩⟩, reps_strings l _ (fun p => rfl)⟩
  have e : l.length * Kd.string.sz = (l.map Value.string).length := by simp [Kd.string, Kd.scalar]
  rw [e]
  exact List.take_length

theorem split_row (s : ByteArray) (hs : s.size ≤ 1000) (w0 w : World) (hw : Below w0.heap.size w0 w) (hz : w0.heap.size ≤ w.heap.size) :
    Calls Tryd.prog 27 #[.string s, .string ⟨#[47]⟩] w fun e w' => ∃ g, e = .returned (.slice (some ⟨g, 0, none⟩) (cut s).length (cut s).length) ∧ NewRow w0.heap.size w0 w' g (cut s) :=
  (split_slash s hs w).mono fun e w' ⟨he, hw'⟩ => ⟨w.heap.size, he, by
    subst hw'
    exact ⟨hz, heap_alloc_new w _, hw.alloc hz _⟩⟩

def name_Split.f (a0 : ByteArray) : Option (List ByteArray × Bool) :=
  some (match Plain.splitP a0.data.toList with
    | some ps => (ps.map Plain.bs, true)
    | none => ([], false))

theorem name_Split.root (a0 : ByteArray) (w : World) (h : (a0.toList == [47]) = true) :
    Calls Tryd.prog 12 #[.string a0] w fun e w' => e = .returned (.tuple #[.slice none 0 0, .bool true]) ∧ Below w.heap.size w w' := by
  go_enter Tryd.func12, Tryd.ntmps12
  go_wp2
  go_ret2
  exact ⟨rfl, Below.refl _ _⟩
theorem name_Split.long (a0 : ByteArray) (w : World) (h : (a0.toList == [47]) = false) (hl : (168 : Int) < (a0.size : Int)) :
    Calls Tryd.prog 12 #[.string a0] w fun e w' => e = .returned (.tuple #[.slice none 0 0, .bool false]) ∧ Below w.heap.size w w' := by
  go_enter Tryd.func12, Tryd.ntmps12
  go_wp2
  go_ret2
  exact ⟨rfl, Below.refl _ _⟩
theorem name_Split.none_ (a0 : ByteArray) (w : World) (h : (a0.toList == [47]) = false) (hl : ¬ (168 : Int) < (a0.size : Int)) (hp : GHasPrefix.strings_HasPrefix.f a0 ⟨#[47]⟩ = some false) :
    Calls Tryd.prog 12 #[.string a0] w fun e w' => e = .returned (.tuple #[.slice none 0 0, .bool false]) ∧ Below w.heap.size w w' := by
  have hc := GHasPrefix.strings_HasPrefix.calls a0 ⟨#[47]⟩ false w hp
  clear hp
  go_enter Tryd.func12, Tryd.ntmps12
  go_wp2_with (go_at_call 26; refine hc.mono ?_; rintro e w' ⟨rfl, hd⟩; obtain ⟨n, rfl⟩ := hd.out)
  go_ret2
  exact ⟨rfl, below_drewN' (Below.refl _ _) _⟩

end Go.Proofs.YtpalgkfilpkgeaaDoor.Given2

/- NameJoins: for every list of names and every text the pure form of the law answers true. No condition beyond the row's own. -/
import Derived.Test.YtpalgkfilpkgeaaDoorPNameJoinsx1
namespace Go.Proofs.YtpalgkfilpkgeaaDoor.Pure
open Go.RowKit Go.Proofs.YtpalgkfilpkgeaaDoor Go.Proofs.YtpalgkfilpkgeaaDoor.PNameJoins Go.Proofs.YtpalgkfilpkgeaaDoorW.PrintWords Go.Proofs.YtpalgkfilpkgeaaDoorW.PrintLast

theorem map_data_bs (ps : List (List UInt8)) : (ps.map Plain.bs).map (·.data.toList) = ps := by
  rw [List.map_map]
  have : ((fun x : ByteArray => x.data.toList) ∘ Plain.bs) = id := funext fun x => rfl
  rw [this, List.map_id]
theorem map_bs_data (l : List ByteArray) : (l.map (·.data.toList)).map Plain.bs = l := by
  rw [List.map_map]
  have : (Plain.bs ∘ fun x : ByteArray => x.data.toList) = id := funext fun x => rfl
  rw [this, List.map_id]

/-- What Join makes Split takes apart. -/
theorem split_join (l : List ByteArray) (h : (Ref.joinR l).2 = true) : Ref.splitR (Ref.joinR l).1 = (l, true) := by
  unfold Ref.joinR at h ⊢
  by_cases hg : Plain.good (l.map (·.data.toList)) = true
  · rw [if_pos hg]
    unfold Ref.splitR
    show (match Plain.splitP (Plain.pathOf (l.map (·.data.toList))) with | some ps => (ps.map Plain.bs, true) | none => ([], false)) = _
    rw [Plain.split_path _ hg]
    show ((l.map (·.data.toList)).map Plain.bs, true) = _
    rw [map_bs_data]
  · rw [if_neg hg] at h; cases h
/-- What Split takes apart Join puts together. -/
theorem join_split (s : ByteArray) (h : (Ref.splitR s).2 = true) : Ref.joinR (Ref.splitR s).1 = (s, true) := by
  unfold Ref.splitR at h ⊢
  cases hp : Plain.splitP s.data.toList with
  | none => rw [hp] at h; cases h
  | some ps =>
    obtain ⟨e, hg⟩ := Plain.path_split _ _ hp
    show Ref.joinR (ps.map Plain.bs) = _
    unfold Ref.joinR
    rw [map_data_bs, if_pos hg, e]
    rfl

theorem joins_text (s : ByteArray) (k : Nat) : credenzalaw9_NameJoins.j2 (k + 1) s = some true := by
  simp only [credenzalaw9_NameJoins.j2]
  rw [Ref.split_R, Option.bind_some]
  by_cases h : (Ref.splitR s).2 = true
  · rw [if_pos h, Ref.join_R, join_split s h, Option.bind_some, if_pos rfl, if_pos rfl]
    rfl
  · rw [if_neg h]; rfl

theorem joins_at (l : List ByteArray) (s : ByteArray) (t : Bool) : credenzalaw9_NameJoins.j0 3 l s t = some true := by
  cases t with
  | true => rfl
  | false =>
    simp only [credenzalaw9_NameJoins.j0]
    rw [if_neg (by decide), Ref.join_R]
    show (if (Ref.joinR l).1.toList = (Ref.joinR l).1.toList then _ else _) = _
    rw [if_pos rfl]
    have e : ((Ref.joinR l).2 != (Ref.joinR l).2) = false := by simp
    rw [e]
    simp only [credenzalaw9_NameJoins.j1]
    rw [if_neg (by decide)]
    by_cases h : (Ref.joinR l).2 = true
    · rw [if_pos h, Ref.split_R, split_join l h]
      show (if decide (l = l) = true then _ else _) = _
      rw [if_pos (by simp)]
      exact joins_text s 0
    · rw [if_neg h]; exact joins_text s 0

def NameJoinsPure : Prop := ∀ (l : List ByteArray) (s : ByteArray), l.length ≤ 9223372036854775807 → s.size ≤ 140737488351232 → ∃ k, credenzalaw9_NameJoins.f k l s = some true
theorem NameJoins : NameJoinsPure := by
  intro l s _ _
  refine ⟨3, ?_⟩
  unfold credenzalaw9_NameJoins.f
  by_cases h : (l.length : Int) > 20
  · rw [if_pos h]; exact joins_at l s true
  · rw [if_neg h]; exact joins_at l s _

end Go.Proofs.YtpalgkfilpkgeaaDoor.Pure

/- strings.Split at one stroke, and name.Split, at this translation: the call answers what the plain laws of names say (Plain). No condition on the input. -/
import Derived.Test.YtpalgkfilpkgeaaDoorGiven2
import Derived.Test.YtpalgkfilpkgeaaDoorGHasPrefixx1
namespace Go.Proofs.YtpalgkfilpkgeaaDoor.Given2
open Go.RowKit Go.Proofs.YtpalgkfilpkgeaaDoorW.PrintWords Go.Proofs.YtpalgkfilpkgeaaDoorW.PrintLast Go.Proofs.YtpalgkfilpkgeaaDoorW.PrintMore
open Go.Proofs.YtpalgkfilpkgeaaDoor

/-- The pieces of a text between strokes, as strings. -/
def cut (s : ByteArray) : List ByteArray := (Plain.pieces s.data.toList).map Plain.bs
theorem cut_pos (s : ByteArray) : 0 < (cut s).length := by
  obtain ⟨p, ps, h⟩ := Plain.pieces_ne s.data.toList
  unfold cut; rw [h]; simp

theorem splitB_cut (s : ByteArray) : Lib.splitB ⟨#[47]⟩ 0 (Lib.countB s ⟨#[47]⟩) s = cut s := by
  have h := Lib.splitB_data ⟨#[47]⟩ 0 (Lib.countB s ⟨#[47]⟩) s
  have hc : Lib.countB s ⟨#[47]⟩ = s.data.toList.count 47 := Lib.count_one 47 s.data.toList
  have h2 : (Lib.splitB ⟨#[47]⟩ 0 (Lib.countB s ⟨#[47]⟩) s).map (·.data.toList) = Plain.pieces s.data.toList := by
    rw [h]
    show Lib.splitK [47] 0 _ _ = _
    rw [hc]
    exact Plain.splitK_pieces _
  unfold cut
  rw [← h2, List.map_map]
  have : (Plain.bs ∘ fun x : ByteArray => x.data.toList) = id := funext fun x => Plain.data_bs x
  rw [this, List.map_id]

set_option maxHeartbeats 1000000 in
theorem split_slash (s : ByteArray) (hs : s.size ≤ 1000) (w : World) :
    Calls Tryd.prog 27 #[.string s, .string ⟨#[47]⟩] w fun e w' =>
      e = .returned (.slice (some ⟨w.heap.size, 0, none⟩) (cut s).length (cut s).length) ∧ w' = w.alloc (.cells ((cut s).map Value.string).toArray 9) := by
  have h1 : 1 ≤ (⟨#[47]⟩ : ByteArray).size := by decide
  have hlen := Lib.splitB_all ⟨#[47]⟩ h1 0 _ s rfl
  have hle := Lib.countB_le ⟨#[47]⟩ h1 s.size s (Nat.le_refl _)
  have hsp := splitB_cut s
  have c := Any.strings_genSplit_core Tryd.lays221 (by kernel_rfl) s ⟨#[47]⟩ 0 (-1) (Lib.countB s ⟨#[47]⟩ + 1) w (by omega) h1 (Nat.zero_le _)
    (fun x cs _ => (Any.strings_Index_one Tryd.lays143 x 47 _).mono fun e w' ⟨he, hw⟩ => ⟨by rw [he]; show _ = Ending.returned (Value.int .i64 (Lib.index x.data.toList [47])); rw [Lib.index_one], hw⟩)
    ((Any.strings_Count_one Tryd.lays138 s 47 w).mono fun e w' ⟨he, hw⟩ => ⟨by rw [he]; show _ = Ending.returned (Value.int .i64 ((Lib.count s.data.toList [47] : Nat) : Int)); rw [Lib.count_one]; rfl, hw⟩)
    (by decide) (by decide) (by rw [if_pos (by decide)]; omega)
  rw [Nat.add_sub_cancel, hlen] at c
  have e2 : Lib.cellsOf (Lib.splitB ⟨#[47]⟩ 0 (Lib.countB s ⟨#[47]⟩) s) (Lib.countB s ⟨#[47]⟩ + 1) = ((cut s).map Value.string).toArray := by rw [← hlen, Lib.cellsOf_full, hsp]
  rw [e2, ← hlen, hsp] at c
  change Calls Tryd.prog 38 _ _ (fun e w' => _ ∧ w' = w.alloc (.cells _ 9)) at c
  clear hlen hle hsp e2
  generalize cut s = ps at c ⊢
  go_enter Tryd.func27, Tryd.ntmps27
  go_wp2_with (go_at_call 38; refine c.mono ?_; rintro e w' ⟨rfl, rfl⟩)
  go_ret
  exact ⟨rfl, rfl⟩

end Go.Proofs.YtpalgkfilpkgeaaDoor.Given2

/- A part of the proof of a law of this seat: the program run by the evaluator. No condition. -/
import Derived.Test.YtjpelmgihpmohaaGreatDoorVYSort
import Derived.WalkKit
import Derived.OwnWalkIn
import Derived.TacticsInMore
set_option linter.all false
namespace Go.Proofs
noncomputable section
open Go.RowKit Go.Maps Go.Sort Go.Shelf
set_option maxHeartbeats 1000000 in
theorem Tryz.Clip110 (g n cap : Nat) (n0 : Nat) (w : World) (h : n ≤ cap) : CallsIn Fence.wide n0 Tryz.prog 110 #[.slice (some ⟨g, 0, none⟩) n cap] w fun e w' => e = .returned (.slice (some ⟨g, 0, none⟩) n n) ∧ w' = w := by
  refine callsIn_of_wp Tryz.func110 rfl trivial ?_ rfl
  simp only [Tryz.ntmps110, List.size_toArray, List.length_cons, List.length_nil, Nat.reduceAdd, Nat.reduceSub, Array.replicate_succ, Array.replicate_zero, List.push_toArray, List.append_toArray, List.nil_append, List.cons_append]
  gi_wp2
  go_ret
  exact ⟨rfl, rfl⟩

theorem Tryz.Clip88_nil (n0 : Nat) (w : World) : CallsIn Fence.wide n0 Tryz.prog 110 #[.slice none 0 0] w fun e w' => e = .returned (.slice none 0 0) ∧ w' = w := by
  refine callsIn_of_wp Tryz.func110 rfl trivial ?_ rfl
  simp only [Tryz.ntmps110, List.size_toArray, List.length_cons, List.length_nil, Nat.reduceAdd, Nat.reduceSub, Array.replicate_succ, Array.replicate_zero, List.push_toArray, List.append_toArray, List.nil_append, List.cons_append]
  gi_wp2
  go_ret
  exact ⟨rfl, rfl⟩

set_option maxHeartbeats 1000000 in
theorem Tryz.Changed (W : World) (r o b nn : Nat) (D0 : DataW Unit) (R : Value → Option (DataW Unit × List MemPlace))
    (hcell : W.cell? ⟨r, o + 2, none⟩ = some (.map (some b))) (hown : W.ownsMap Tryz.prog 3 R b nn D0) (hsz : Maps.size D0 ≤ 16777216) :
    Calls Tryz.prog 158 #[.pointer (some ⟨r, o, none⟩)] W fun e w' => ∃ (v : Value) (ss : List Int), e = .returned v ∧ ss.Perm (intKeys D0) ∧ Below W.heap.size W w' ∧
    ((ss = [] ∧ v = .slice none 0 0) ∨ ∃ g cap cur, ss ≠ [] ∧ v = .slice (some ⟨g, 0, none⟩) ss.length ss.length ∧ W.heap.size ≤ g ∧ w'.heap[g]? = some (.cells cur 3 (0, 0)) ∧ ss.length ≤ cap ∧ cur.size = cap ∧ cur.toList.take ss.length = (ss.mergeSort leI).map encZ) := by
  refine (callsIn_wide (n := 6)).1 ?_
  have hbl := hown.lt
  have hseq : SeqGives Fence.wide 2 Tryz.prog 328 #[.pointer (some ⟨W.heap.size, 0, none⟩)] encZ (fun ss => ss.Perm (intKeys D0)) (Maps.size D0) (W.alloc (.cells #[.map (some b)] 250)) :=
    AnyZI.keys_gives (ρ := Tryz.keysA_ren) { Tryz.keysA with } Fence.wide _ trivial rfl (by omega) W.heap.size b nn D0 _ (by simp) (by simp) (by
      obtain ⟨es, clock, hb, Ft, hs, hD⟩ := hown
      exact ⟨es, clock, (Below.heap_alloc _ _ b hbl).trans hb, Ft, hs, hD⟩)
  have cK : ∀ mb W, CallsIn Fence.wide 5 Tryz.prog 243 #[.map mb] W fun e w' => e = .returned (.func (.func 328) #[] #[.pointer (some ⟨W.heap.size, 0, none⟩)]) ∧ w' = W.alloc (.cells #[.map mb] 250) := fun mb W => AnyZI.keys_in Tryz.keysA Fence.wide 5 trivial rfl mb W
  have cS := AnyZI.sorted_in Tryz.sortedA Fence.wide 5 trivial trivial trivial trivial rfl (by omega) (Tryz.sortsA _) (enters_of Tryz.func327 (by kernel_rfl) rfl) 328 #[.pointer (some ⟨W.heap.size, 0, none⟩)] trivial (enters_of Tryz.func328 (by kernel_rfl) rfl) _ _ (Nat.le_trans hsz (by decide)) (by omega) _ hseq
  change CallsIn _ _ Tryz.prog 242 _ _ _ at cS
  have hf1 : Fence.wide.fn 243 := trivial
  have hf2 : Fence.wide.fn 242 := trivial
  have hf3 : Fence.wide.fn 110 := trivial
  refine callsIn_of_wp Tryz.func158 rfl trivial ?_ rfl
  simp only [Tryz.ntmps158, List.size_toArray, List.length_cons, List.length_nil, Nat.reduceAdd, Nat.reduceSub, Array.replicate_succ, Array.replicate_zero, List.push_toArray, List.append_toArray, List.nil_append, List.cons_append]
  gi_wp2_with (first
    | (gi_at_call 243; refine (cK _ _).mono ?_; rintro e w' ⟨rfl, rfl⟩)
    | (gi_at_call 242; refine cS.mono ?_; rintro e w' ⟨v, ss, rfl, hS, hrow, hnil, hb⟩))
  rcases hrow.2 with ⟨rfl, hz⟩ | ⟨gb, cap, cur, rfl, hbase, hgb, r1, r2, r3, r4⟩
  · gi_wp2_with (gi_at_call 110; refine (Tryz.Clip88_nil _ _).mono ?_; rintro e w' ⟨rfl, rfl⟩)
    go_ret
    exact ⟨_, ss, rfl, hS, ((Below.refl _ W).alloc (Nat.le_refl _) _).trans (hb.mono (by simp)), .inl ⟨List.eq_nil_of_length_eq_zero hz, rfl⟩⟩
  · gi_wp2_with (gi_at_call 110; refine (Tryz.Clip110 _ _ _ _ _ r1).mono ?_; rintro e w' ⟨rfl, rfl⟩)
    go_ret
    refine ⟨_, ss, rfl, hS, ((Below.refl _ W).alloc (Nat.le_refl _) _).trans (hb.mono (by simp)), .inr ⟨gb, cap, cur, fun h => by simpa using hnil.2 h, rfl, Nat.le_trans (by simp) hbase, hgb, r1, by omega, ?_⟩⟩
    rw [Nat.mul_one] at r4; exact r4
theorem Tryz.ch : VE.ChLaw Tryz.prog 158 2 3 := fun W r o b nn D0 R h1 h2 h3 => Tryz.Changed W r o b nn D0 R h1 h2 h3
end
end Go.Proofs

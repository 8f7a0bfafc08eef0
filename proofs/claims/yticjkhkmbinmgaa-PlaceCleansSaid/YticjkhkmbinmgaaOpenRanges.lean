/- Arguments of the place laws, opened: a list of ranges, a range. No condition. -/
import Derived.Test.YticjkhkmbinmgaaGivenA
import Derived.Deep.SlicePairs
import Derived.Lib.SmallJoins
import Derived.WalkKit
import Derived.ProofKit
namespace Go.Proofs.Yticjkhkmbinmgaa.OpenRanges
open Go.ChangeShapes Go.WideShapes Go.RowKit Go.Proofs.YticjkhkmbinmgaaW.PrintWords Go.Joins
open Go.Proofs.Yticjkhkmbinmgaa.QClean (S25 k25 k25_mk)
open Go.Proofs.Yticjkhkmbinmgaa.GivenA (encS)

theorem gather {P : Nat → S25 → Prop} : ∀ n : Nat, (∀ i, i < n → ∃ x, P i x) → ∃ l : List S25, l.length = n ∧ ∀ i x, l[i]? = some x → P i x
  | 0, _ => ⟨[], rfl, fun i x h => by simp at h⟩
  | n + 1, h => by
    obtain ⟨l, hl, hp⟩ := gather n (fun i hi => h i (by omega))
    obtain ⟨x, hx⟩ := h n (by omega)
    refine ⟨l ++ [x], by simp [hl], fun i y hy => ?_⟩
    rcases Nat.lt_or_ge i n with hi | hi
    · rw [List.getElem?_append_left (by omega)] at hy; exact hp i y hy
    · rw [List.getElem?_append_right (by omega)] at hy
      have e : i - l.length = 0 := by
        rcases Nat.eq_zero_or_pos (i - l.length) with e | e
        · exact e
        · rw [List.getElem?_eq_none (by simp; omega)] at hy; cases hy
      rw [e] at hy
      have : x = y := by simpa using hy
      have hin : i = n := by omega
      rw [hin, ← this]; exact hx

theorem open_ranges {H : Type} {enc : TypeId × Value → H} {W : World} {base : Nat} {sp : Nat → Bool} {hd : Bool} {A : Option Addr} {len cap : Nat} {d : DataW H} {ps : List MemPlace}
    (h : DataW.Trod enc Try.prog W base sp hd 22 (.slice A len cap) d ps) : ∃ l : List S25, l.length = len ∧ Kd.C k25 W A l.length l ∧ l.length ≤ cap := by
  obtain ⟨fuel, hf⟩ := h
  rcases Go.Deep.open_slice_pairs Try.underlying22 Try.underlying25 (by kernel_rfl) rfl rfl (by kernel_rfl) (by kernel_rfl) hf with ⟨hcs, _⟩ | ⟨x, l, c, m, n, V0, V1, D0, D1, P0, P1, hcs, _, hl, hm, hmm, _, hx⟩
  · simp [Value.cells] at hcs
    obtain ⟨rfl, rfl, rfl⟩ := hcs
    exact ⟨[], rfl, ⟨rfl, by decide, fun h => absurd h (by decide)⟩, Nat.zero_le _⟩
  · simp [Value.cells] at hcs
    obtain ⟨rfl, rfl, rfl⟩ := hcs
    have hlm : len ≤ m := by rw [hmm]; split <;> omega
    obtain ⟨l, e, hp⟩ := gather (P := fun i y => ∀ j u, (encS y)[j]? = some u → W.cell? (x.add (i * 2 + j)) = some u) len (fun i hi => by
      obtain ⟨c0, c1, t0, t1⟩ := hx i (by omega)
      obtain ⟨n0, e0, _, _⟩ := DataW.trod_int Try.underlying3 t0
      obtain ⟨n1, e1, _, _⟩ := DataW.trod_int Try.underlying3 t1
      have f0 : V0 i = .int .i64 n0 := by simpa using e0
      have f1 : V1 i = .int .i64 n1 := by simpa using e1
      refine ⟨⟨n0, n1⟩, fun j u hu => ?_⟩
      match j with
      | 0 =>
        have : Value.int .i64 n0 = u := by simpa [encS] using hu
        rw [Nat.add_zero, c0, f0, this]
      | 1 =>
        have : Value.int .i64 n1 = u := by simpa [encS] using hu
        rw [c1, f1, this]
      | j + 2 => simp [encS] at hu)
    refine ⟨l, e, ⟨rfl, by rw [e]; unfold maxLen at hm; omega, fun _ => ⟨x, rfl, fun j p hj => ⟨encS p, rfl, k25_mk W p, fun i u hi => hp j p hj i u hi⟩⟩⟩, by omega⟩

theorem open_range {H : Type} {enc : TypeId × Value → H} {W : World} {base b0 : Nat} {sp : Nat → Bool} {hd : Bool} {r : Reach} {v : Value} {d : DataW H} {ps : List MemPlace}
    (hv : Value.okWide Try.prog W r b0 25 v) (h : DataW.Trod enc Try.prog W base sp hd 25 v d ps) : ∃ a b : Int, v = .agg #[.int .i64 a, .int .i64 b] := by
  obtain ⟨v0, v1, y0, y1, n, rfl, _, _, g0, g1⟩ := open_agg2 Try.underlying25 (by kernel_rfl) (by kernel_rfl) hv h
  obtain ⟨n0, e0, _, _⟩ := DataW.trod_int Try.underlying3 g0
  obtain ⟨n1, e1, _, _⟩ := DataW.trod_int Try.underlying3 g1
  have f0 : v0 = .int .i64 n0 := by simpa using e0
  have f1 : v1 = .int .i64 n1 := by simpa using e1
  exact ⟨n0, n1, by rw [f0, f1]⟩

end Go.Proofs.Yticjkhkmbinmgaa.OpenRanges

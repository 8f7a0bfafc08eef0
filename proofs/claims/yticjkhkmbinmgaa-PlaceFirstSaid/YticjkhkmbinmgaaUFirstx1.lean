-- Laid by a program of this session out of the translation (the kit's printing program, with some contracts given by hand). Lean checks it.
import Derived.Test.YticjkhkmbinmgaaUFirstx0
namespace Go.Proofs.Yticjkhkmbinmgaa.UFirst
open Go.Proofs.Yticjkhkmbinmgaa.QClean Go.Proofs.Yticjkhkmbinmgaa.GivenA Go.Proofs.Yticjkhkmbinmgaa.RPlace Go.Proofs.Yticjkhkmbinmgaa.STells Go.Proofs.Yticjkhkmbinmgaa.GivenG Go.RowKit Go.Proofs.YticjkhkmbinmgaaW.PrintWords Go.Proofs.YticjkhkmbinmgaaW.PrintLast Go.Proofs.YticjkhkmbinmgaaW.PrintMore
attribute [local go_sem] max2_int min2_int max_two min_two max_three min_three max_four min_four   -- for this text's walks alone
set_option linter.unusedVariables false
set_option linter.unusedSimpArgs false

/-! ### credenzalaw18_PlaceFirst: function 3 -/
mutual
def credenzalaw18_PlaceFirst.l0 : Nat → List (S25) → Int → Int → List (S25) → List Bool → Int → Option (Bool)
  | 0, _, _, _, _, _, _ => none
  | k + 1, x0, x1, x2, x7, x8, x9 => if x9 < (x0.length : Int) then (credenzalaw18_PlaceFirst.j1 k x0 x1 x2 x7 x8 x9 (decide (x9 < 10))) else (credenzalaw18_PlaceFirst.j1 k x0 x1 x2 x7 x8 x9 false)
def credenzalaw18_PlaceFirst.j1 : Nat → List (S25) → Int → Int → List (S25) → List Bool → Int → Bool → Option (Bool)
  | 0, _, _, _, _, _, _, _ => none
  | k + 1, x0, x1, x2, x7, x8, x9, x27 => if x27 = true then (if 0 ≤ x9 then (if x9 < (x0.length : Int) then (if x7.length < 8796093022208 then (credenzalaw18_PlaceFirst.l1 k x0 x1 x2 (x7 ++ [(⟨Go.bits .and .i64 ((rd_T25 x0 x9).f0) 1023, wrap64 ((Go.bits .and .i64 ((rd_T25 x0 x9).f0) 1023) + (Go.bits .and .i64 ((rd_T25 x0 x9).f1) 255))⟩ : S25)]) x8 x9 (Go.bits .and .i64 ((rd_T25 x0 x9).f0) 1023) (Go.bits .and .i64 ((rd_T25 x0 x9).f0) 1023) (wrap64 ((Go.bits .and .i64 ((rd_T25 x0 x9).f0) 1023) + (Go.bits .and .i64 ((rd_T25 x0 x9).f1) 255)))) else (none)) else (none)) else (none)) else ((place_Find.f k x7 (wrap64 ((Int.tmod (Go.bits .and .i64 x1 255) 200) + 1))).bind fun bt111 => (credenzalaw18_PlaceFirst.l2 k (wrap64 ((Int.tmod (Go.bits .and .i64 x1 255) 200) + 1)) x2 x7 x8 bt111.1 bt111.2 (-1) 0))
def credenzalaw18_PlaceFirst.l1 : Nat → List (S25) → Int → Int → List (S25) → List Bool → Int → Int → Int → Int → Option (Bool)
  | 0, _, _, _, _, _, _, _, _, _ => none
  | k + 1, x0, x1, x2, x7, x8, x9, x11, x106000, x106001 => if x11 < x106001 then (if 0 ≤ x11 then (if x11 < (x8.length : Int) then (credenzalaw18_PlaceFirst.l1 k x0 x1 x2 x7 (x8.set (x11 : Int).toNat true) x9 (wrap64 (x11 + 1)) x106000 x106001) else (none)) else (none)) else (credenzalaw18_PlaceFirst.l0 k x0 x1 x2 x7 x8 (wrap64 (x9 + 1)))
def credenzalaw18_PlaceFirst.l2 : Nat → Int → Int → List (S25) → List Bool → Int → Bool → Int → Int → Option (Bool)
  | 0, _, _, _, _, _, _, _, _ => none
  | k + 1, x1, x2, x7, x8, x12, x13, x14, x15 => if x15 < 1280 then (credenzalaw18_PlaceFirst.j4 k x1 x2 x7 x8 x12 x13 x14 x15 (decide (x14 < 0))) else (credenzalaw18_PlaceFirst.j4 k x1 x2 x7 x8 x12 x13 x14 x15 false)
def credenzalaw18_PlaceFirst.j4 : Nat → Int → Int → List (S25) → List Bool → Int → Bool → Int → Int → Bool → Option (Bool)
  | 0, _, _, _, _, _, _, _, _, _ => none
  | k + 1, x1, x2, x7, x8, x12, x13, x14, x15, x76 => if x76 = true then (credenzalaw18_PlaceFirst.l3 k x1 x2 x7 x8 x12 x13 x14 x15 true x15) else (if (x13 != (decide (x14 ≥ 0))) = true then (credenzalaw18_PlaceFirst.j6 k x1 x2 x7 x12 x13 true) else (if x13 = true then (credenzalaw18_PlaceFirst.j6 k x1 x2 x7 x12 x13 (x12 != x14)) else (credenzalaw18_PlaceFirst.j6 k x1 x2 x7 x12 x13 false)))
def credenzalaw18_PlaceFirst.l3 : Nat → Int → Int → List (S25) → List Bool → Int → Bool → Int → Int → Bool → Int → Option (Bool)
  | 0, _, _, _, _, _, _, _, _, _, _ => none
  | k + 1, x1, x2, x7, x8, x12, x13, x14, x15, x16, x17 => if x17 < (wrap64 (x15 + x1)) then (if x16 = true then (if 0 ≤ x17 then (if x17 < (x8.length : Int) then (credenzalaw18_PlaceFirst.l3 k x1 x2 x7 x8 x12 x13 x14 x15 (rdOf false x8 x17) (wrap64 (x17 + 1))) else (none)) else (none)) else (credenzalaw18_PlaceFirst.l3 k x1 x2 x7 x8 x12 x13 x14 x15 false (wrap64 (x17 + 1)))) else (if x16 = true then (credenzalaw18_PlaceFirst.l2 k x1 x2 x7 x8 x12 x13 x15 (wrap64 (x15 + 16))) else (credenzalaw18_PlaceFirst.l2 k x1 x2 x7 x8 x12 x13 x14 (wrap64 (x15 + 16))))
def credenzalaw18_PlaceFirst.j6 : Nat → Int → Int → List (S25) → Int → Bool → Bool → Option (Bool)
  | 0, _, _, _, _, _, _ => none
  | k + 1, x1, x2, x7, x12, x13, x106 => if x106 = true then (some false) else (if x13 = true then (if x1 = 0 then (none) else ((place_Find.f k x7 (wrap64 ((Int.tmod (Go.bits .and .i64 x2 255) x1) + 1))).bind fun bt114 => (if bt114.2 = true then (if bt114.1 ≤ x12 then ((credenzalaw18_awake.f k).bind fun t116 => (some t116)) else (some false)) else (some false)))) else (if x12 = 0 then ((credenzalaw18_awake.f k).bind fun t117 => (some t117)) else (some false)))
end
def credenzalaw18_PlaceFirst.f (k : Nat) (l0 : List (S25)) (a1 : Int) (a2 : Int) : Option (Bool) := credenzalaw18_PlaceFirst.l0 k l0 a1 a2 ([] : List (S25)) (List.replicate 1500 false) 0
theorem credenzalaw18_PlaceFirst.mono_l : ∀ k, (∀ y0 y1 y2 y3 y4 y5, LeO (credenzalaw18_PlaceFirst.l0 k y0 y1 y2 y3 y4 y5) (credenzalaw18_PlaceFirst.l0 (k + 1) y0 y1 y2 y3 y4 y5)) ∧ (∀ y0 y1 y2 y3 y4 y5 y6, LeO (credenzalaw18_PlaceFirst.j1 k y0 y1 y2 y3 y4 y5 y6) (credenzalaw18_PlaceFirst.j1 (k + 1) y0 y1 y2 y3 y4 y5 y6)) ∧ (∀ y0 y1 y2 y3 y4 y5 y6 y7 y8, LeO (credenzalaw18_PlaceFirst.l1 k y0 y1 y2 y3 y4 y5 y6 y7 y8) (credenzalaw18_PlaceFirst.l1 (k + 1) y0 y1 y2 y3 y4 y5 y6 y7 y8)) ∧ (∀ y0 y1 y2 y3 y4 y5 y6 y7, LeO (credenzalaw18_PlaceFirst.l2 k y0 y1 y2 y3 y4 y5 y6 y7) (credenzalaw18_PlaceFirst.l2 (k + 1) y0 y1 y2 y3 y4 y5 y6 y7)) ∧ (∀ y0 y1 y2 y3 y4 y5 y6 y7 y8, LeO (credenzalaw18_PlaceFirst.j4 k y0 y1 y2 y3 y4 y5 y6 y7 y8) (credenzalaw18_PlaceFirst.j4 (k + 1) y0 y1 y2 y3 y4 y5 y6 y7 y8)) ∧ (∀ y0 y1 y2 y3 y4 y5 y6 y7 y8 y9, LeO (credenzalaw18_PlaceFirst.l3 k y0 y1 y2 y3 y4 y5 y6 y7 y8 y9) (credenzalaw18_PlaceFirst.l3 (k + 1) y0 y1 y2 y3 y4 y5 y6 y7 y8 y9)) ∧ (∀ y0 y1 y2 y3 y4 y5, LeO (credenzalaw18_PlaceFirst.j6 k y0 y1 y2 y3 y4 y5) (credenzalaw18_PlaceFirst.j6 (k + 1) y0 y1 y2 y3 y4 y5))
  | 0 => ⟨fun _ _ _ _ _ _ r h => by simp [credenzalaw18_PlaceFirst.l0] at h, fun _ _ _ _ _ _ _ r h => by simp [credenzalaw18_PlaceFirst.j1] at h, fun _ _ _ _ _ _ _ _ _ r h => by simp [credenzalaw18_PlaceFirst.l1] at h, fun _ _ _ _ _ _ _ _ r h => by simp [credenzalaw18_PlaceFirst.l2] at h, fun _ _ _ _ _ _ _ _ _ r h => by simp [credenzalaw18_PlaceFirst.j4] at h, fun _ _ _ _ _ _ _ _ _ _ r h => by simp [credenzalaw18_PlaceFirst.l3] at h, fun _ _ _ _ _ _ r h => by simp [credenzalaw18_PlaceFirst.j6] at h⟩
  | k + 1 => by
    obtain ⟨ih0, ih1, ih2, ih3, ih4, ih5, ih6⟩ := credenzalaw18_PlaceFirst.mono_l k
    refine ⟨?_, ?_, ?_, ?_, ?_, ?_, ?_⟩
    · intro y0 y1 y2 y3 y4 y5
      unfold credenzalaw18_PlaceFirst.l0
      repeat' first
      | (with_reducible exact ih0 _ _ _ _ _ _)
      | (with_reducible exact ih1 _ _ _ _ _ _ _)
      | (with_reducible exact ih2 _ _ _ _ _ _ _ _ _)
      | (with_reducible exact ih3 _ _ _ _ _ _ _ _)
      | (with_reducible exact ih4 _ _ _ _ _ _ _ _ _)
      | (with_reducible exact ih5 _ _ _ _ _ _ _ _ _ _)
      | (with_reducible exact ih6 _ _ _ _ _ _)
      | (with_reducible exact credenzalaw18_awake.mono _)
      | (with_reducible exact place_Find.mono _ _ _)
      | (with_reducible exact LeO.refl _)
      | (with_reducible exact LeO.none _)
      | (with_reducible refine LeO.ite ?_ ?_)
      | (with_reducible refine LeO.bind ?_ (fun _ => ?_))
      | exact ih0 _ _ _ _ _ _
      | exact ih1 _ _ _ _ _ _ _
      | exact ih2 _ _ _ _ _ _ _ _ _
      | exact ih3 _ _ _ _ _ _ _ _
      | exact ih4 _ _ _ _ _ _ _ _ _
      | exact ih5 _ _ _ _ _ _ _ _ _ _
      | exact ih6 _ _ _ _ _ _
      | exact credenzalaw18_awake.mono _
      | exact place_Find.mono _ _ _
      | exact LeO.none _
      | refine LeO.ite ?_ ?_
      | refine LeO.bind ?_ (fun _ => ?_)
    · intro y0 y1 y2 y3 y4 y5 y6
      unfold credenzalaw18_PlaceFirst.j1
      repeat' first
      | (with_reducible exact ih0 _ _ _ _ _ _)
      | (with_reducible exact ih1 _ _ _ _ _ _ _)
      | (with_reducible exact ih2 _ _ _ _ _ _ _ _ _)
      | (with_reducible exact ih3 _ _ _ _ _ _ _ _)
      | (with_reducible exact ih4 _ _ _ _ _ _ _ _ _)
      | (with_reducible exact ih5 _ _ _ _ _ _ _ _ _ _)
      | (with_reducible exact ih6 _ _ _ _ _ _)
      | (with_reducible exact credenzalaw18_awake.mono _)
      | (with_reducible exact place_Find.mono _ _ _)
      | (with_reducible exact LeO.refl _)
      | (with_reducible exact LeO.none _)
      | (with_reducible refine LeO.ite ?_ ?_)
      | (with_reducible refine LeO.bind ?_ (fun _ => ?_))
      | exact ih0 _ _ _ _ _ _
      | exact ih1 _ _ _ _ _ _ _
      | exact ih2 _ _ _ _ _ _ _ _ _
      | exact ih3 _ _ _ _ _ _ _ _
      | exact ih4 _ _ _ _ _ _ _ _ _
      | exact ih5 _ _ _ _ _ _ _ _ _ _
      | exact ih6 _ _ _ _ _ _
      | exact credenzalaw18_awake.mono _
      | exact place_Find.mono _ _ _
      | exact LeO.none _
      | refine LeO.ite ?_ ?_
      | refine LeO.bind ?_ (fun _ => ?_)
    · intro y0 y1 y2 y3 y4 y5 y6 y7 y8
      unfold credenzalaw18_PlaceFirst.l1
      repeat' first
      | (with_reducible exact ih0 _ _ _ _ _ _)
      | (with_reducible exact ih1 _ _ _ _ _ _ _)
      | (with_reducible exact ih2 _ _ _ _ _ _ _ _ _)
      | (with_reducible exact ih3 _ _ _ _ _ _ _ _)
      | (with_reducible exact ih4 _ _ _ _ _ _ _ _ _)
      | (with_reducible exact ih5 _ _ _ _ _ _ _ _ _ _)
      | (with_reducible exact ih6 _ _ _ _ _ _)
      | (with_reducible exact credenzalaw18_awake.mono _)
      | (with_reducible exact place_Find.mono _ _ _)
      | (with_reducible exact LeO.refl _)
      | (with_reducible exact LeO.none _)
      | (with_reducible refine LeO.ite ?_ ?_)
      | (with_reducible refine LeO.bind ?_ (fun _ => ?_))
      | exact ih0 _ _ _ _ _ _
      | exact ih1 _ _ _ _ _ _ _
      | exact ih2 _ _ _ _ _ _ _ _ _
      | exact ih3 _ _ _ _ _ _ _ _
      | exact ih4 _ _ _ _ _ _ _ _ _
      | exact ih5 _ _ _ _ _ _ _ _ _ _
      | exact ih6 _ _ _ _ _ _
      | exact credenzalaw18_awake.mono _
      | exact place_Find.mono _ _ _
      | exact LeO.none _
      | refine LeO.ite ?_ ?_
      | refine LeO.bind ?_ (fun _ => ?_)
    · intro y0 y1 y2 y3 y4 y5 y6 y7
      unfold credenzalaw18_PlaceFirst.l2
      repeat' first
      | (with_reducible exact ih0 _ _ _ _ _ _)
      | (with_reducible exact ih1 _ _ _ _ _ _ _)
      | (with_reducible exact ih2 _ _ _ _ _ _ _ _ _)
      | (with_reducible exact ih3 _ _ _ _ _ _ _ _)
      | (with_reducible exact ih4 _ _ _ _ _ _ _ _ _)
      | (with_reducible exact ih5 _ _ _ _ _ _ _ _ _ _)
      | (with_reducible exact ih6 _ _ _ _ _ _)
      | (with_reducible exact credenzalaw18_awake.mono _)
      | (with_reducible exact place_Find.mono _ _ _)
      | (with_reducible exact LeO.refl _)
      | (with_reducible exact LeO.none _)
      | (with_reducible refine LeO.ite ?_ ?_)
      | (with_reducible refine LeO.bind ?_ (fun _ => ?_))
      | exact ih0 _ _ _ _ _ _
      | exact ih1 _ _ _ _ _ _ _
      | exact ih2 _ _ _ _ _ _ _ _ _
      | exact ih3 _ _ _ _ _ _ _ _
      | exact ih4 _ _ _ _ _ _ _ _ _
      | exact ih5 _ _ _ _ _ _ _ _ _ _
      | exact ih6 _ _ _ _ _ _
      | exact credenzalaw18_awake.mono _
      | exact place_Find.mono _ _ _
      | exact LeO.none _
      | refine LeO.ite ?_ ?_
      | refine LeO.bind ?_ (fun _ => ?_)
    · intro y0 y1 y2 y3 y4 y5 y6 y7 y8
      unfold credenzalaw18_PlaceFirst.j4
      repeat' first
      | (with_reducible exact ih0 _ _ _ _ _ _)
      | (with_reducible exact ih1 _ _ _ _ _ _ _)
      | (with_reducible exact ih2 _ _ _ _ _ _ _ _ _)
      | (with_reducible exact ih3 _ _ _ _ _ _ _ _)
      | (with_reducible exact ih4 _ _ _ _ _ _ _ _ _)
      | (with_reducible exact ih5 _ _ _ _ _ _ _ _ _ _)
      | (with_reducible exact ih6 _ _ _ _ _ _)
      | (with_reducible exact credenzalaw18_awake.mono _)
      | (with_reducible exact place_Find.mono _ _ _)
      | (with_reducible exact LeO.refl _)
      | (with_reducible exact LeO.none _)
      | (with_reducible refine LeO.ite ?_ ?_)
      | (with_reducible refine LeO.bind ?_ (fun _ => ?_))
      | exact ih0 _ _ _ _ _ _
      | exact ih1 _ _ _ _ _ _ _
      | exact ih2 _ _ _ _ _ _ _ _ _
      | exact ih3 _ _ _ _ _ _ _ _
      | exact ih4 _ _ _ _ _ _ _ _ _
      | exact ih5 _ _ _ _ _ _ _ _ _ _
      | exact ih6 _ _ _ _ _ _
      | exact credenzalaw18_awake.mono _
      | exact place_Find.mono _ _ _
      | exact LeO.none _
      | refine LeO.ite ?_ ?_
      | refine LeO.bind ?_ (fun _ => ?_)
    · intro y0 y1 y2 y3 y4 y5 y6 y7 y8 y9
      unfold credenzalaw18_PlaceFirst.l3
      repeat' first
      | (with_reducible exact ih0 _ _ _ _ _ _)
      | (with_reducible exact ih1 _ _ _ _ _ _ _)
      | (with_reducible exact ih2 _ _ _ _ _ _ _ _ _)
      | (with_reducible exact ih3 _ _ _ _ _ _ _ _)
      | (with_reducible exact ih4 _ _ _ _ _ _ _ _ _)
      | (with_reducible exact ih5 _ _ _ _ _ _ _ _ _ _)
      | (with_reducible exact ih6 _ _ _ _ _ _)
      | (with_reducible exact credenzalaw18_awake.mono _)
      | (with_reducible exact place_Find.mono _ _ _)
      | (with_reducible exact LeO.refl _)
      | (with_reducible exact LeO.none _)
      | (with_reducible refine LeO.ite ?_ ?_)
      | (with_reducible refine LeO.bind ?_ (fun _ => ?_))
      | exact ih0 _ _ _ _ _ _
      | exact ih1 _ _ _ _ _ _ _
      | exact ih2 _ _ _ _ _ _ _ _ _
      | exact ih3 _ _ _ _ _ _ _ _
      | exact ih4 _ _ _ _ _ _ _ _ _
      | exact ih5 _ _ _ _ _ _ _ _ _ _
      | exact ih6 _ _ _ _ _ _
      | exact credenzalaw18_awake.mono _
      | exact place_Find.mono _ _ _
      | exact LeO.none _
      | refine LeO.ite ?_ ?_
      | refine LeO.bind ?_ (fun _ => ?_)
    · intro y0 y1 y2 y3 y4 y5
      unfold credenzalaw18_PlaceFirst.j6
      repeat' first
      | (with_reducible exact ih0 _ _ _ _ _ _)
      | (with_reducible exact ih1 _ _ _ _ _ _ _)
      | (with_reducible exact ih2 _ _ _ _ _ _ _ _ _)
      | (with_reducible exact ih3 _ _ _ _ _ _ _ _)
      | (with_reducible exact ih4 _ _ _ _ _ _ _ _ _)
      | (with_reducible exact ih5 _ _ _ _ _ _ _ _ _ _)
      | (with_reducible exact ih6 _ _ _ _ _ _)
      | (with_reducible exact credenzalaw18_awake.mono _)
      | (with_reducible exact place_Find.mono _ _ _)
      | (with_reducible exact LeO.refl _)
      | (with_reducible exact LeO.none _)
      | (with_reducible refine LeO.ite ?_ ?_)
      | (with_reducible refine LeO.bind ?_ (fun _ => ?_))
      | exact ih0 _ _ _ _ _ _
      | exact ih1 _ _ _ _ _ _ _
      | exact ih2 _ _ _ _ _ _ _ _ _
      | exact ih3 _ _ _ _ _ _ _ _
      | exact ih4 _ _ _ _ _ _ _ _ _
      | exact ih5 _ _ _ _ _ _ _ _ _ _
      | exact ih6 _ _ _ _ _ _
      | exact credenzalaw18_awake.mono _
      | exact place_Find.mono _ _ _
      | exact LeO.none _
      | refine LeO.ite ?_ ?_
      | refine LeO.bind ?_ (fun _ => ?_)
theorem credenzalaw18_PlaceFirst.mono : ∀ a0 a1 a2 k, LeO (credenzalaw18_PlaceFirst.f k a0 a1 a2) (credenzalaw18_PlaceFirst.f (k + 1) a0 a1 a2) := by
  intro a0 a1 a2 k
  obtain ⟨ih0, ih1, ih2, ih3, ih4, ih5, ih6⟩ := credenzalaw18_PlaceFirst.mono_l k
  unfold credenzalaw18_PlaceFirst.f
  repeat' first
      | (with_reducible exact ih0 _ _ _ _ _ _)
      | (with_reducible exact ih1 _ _ _ _ _ _ _)
      | (with_reducible exact ih2 _ _ _ _ _ _ _ _ _)
      | (with_reducible exact ih3 _ _ _ _ _ _ _ _)
      | (with_reducible exact ih4 _ _ _ _ _ _ _ _ _)
      | (with_reducible exact ih5 _ _ _ _ _ _ _ _ _ _)
      | (with_reducible exact ih6 _ _ _ _ _ _)
      | (with_reducible exact credenzalaw18_awake.mono _)
      | (with_reducible exact place_Find.mono _ _ _)
      | (with_reducible exact LeO.refl _)
      | (with_reducible exact LeO.none _)
      | (with_reducible refine LeO.ite ?_ ?_)
      | (with_reducible refine LeO.bind ?_ (fun _ => ?_))
      | exact ih0 _ _ _ _ _ _
      | exact ih1 _ _ _ _ _ _ _
      | exact ih2 _ _ _ _ _ _ _ _ _
      | exact ih3 _ _ _ _ _ _ _ _
      | exact ih4 _ _ _ _ _ _ _ _ _
      | exact ih5 _ _ _ _ _ _ _ _ _ _
      | exact ih6 _ _ _ _ _ _
      | exact credenzalaw18_awake.mono _
      | exact place_Find.mono _ _ _
      | exact LeO.none _
      | refine LeO.ite ?_ ?_
      | refine LeO.bind ?_ (fun _ => ?_)
def credenzalaw18_PlaceFirst.T7 : Bool × List (List Nat × List Nat) := (true, [([], []), ([0], [0]), ([], []), ([], []), ([2, 3], [2, 3]), ([4], [4]), ([5], [5]), ([6], [6]), ([1, 7], [1, 7]), ([0, 1, 2, 3, 4, 5, 6, 7, 8], []), ([9, 8, 0, 1, 2, 3, 4, 5, 6, 7, 8], [8, 9])])
def credenzalaw18_PlaceFirst.B7 : List Nat := [0, 1, 0, 0, 12, 28, 60, 124, 255, 511, 1023]
theorem credenzalaw18_PlaceFirst.tab7 : rtab .any (opsOf Try.f3 7) = credenzalaw18_PlaceFirst.T7 := by kernel_rfl
theorem credenzalaw18_PlaceFirst.bits7 : waitsOk credenzalaw18_PlaceFirst.T7.2 credenzalaw18_PlaceFirst.B7 = true := by kernel_rfl
set_option maxHeartbeats 8000000 in
set_option maxRecDepth 100000 in
theorem credenzalaw18_PlaceFirst.calls (k : Nat) (A0 : Option Addr) (c0 : Nat) (l0 : List (S25)) (a1 : Int) (a2 : Int) (r : Bool) (w : World) (hr0 : Kd.C k25 w A0 l0.length l0) (hc0 : l0.length ≤ c0) (h : credenzalaw18_PlaceFirst.f k l0 a1 a2 = some r) :
    Calls Try.prog 3 #[.slice A0 l0.length c0, .int .i64 a1, .int .i64 a2] w fun e w' => e = .returned (.bool r) ∧ Below w.heap.size w w' := by
  have hu25 := Try.underlying25
  have HR0 := Aside0.mk hr0
  have HC0 := Aside0.mk hc0
  clear hr0 hc0
  have HB := Aside0.mk (Below.refl w.heap.size w)
  have H : (credenzalaw18_PlaceFirst.l0 k l0 a1 a2 ([] : List (S25)) (List.replicate 1500 false) 0) = some r := h
  clear h
  obtain ⟨y101, hy101⟩ : ∃ y_ : List Bool, y_ = (List.replicate 1500 false) := ⟨_, rfl⟩
  replace H : (credenzalaw18_PlaceFirst.l0 k l0 a1 a2 ([] : List (S25)) y101 0) = some r := by first | (rw [hy101]; with_reducible exact H) | (have H2_ := (Option.bind_some _ _).symm.trans H; rw [hy101]; with_reducible exact H2_) | (have H2_ := (Option.bind_some _ _).symm.trans H; with_reducible exact H2_) | with_reducible exact H | (rw [hy101]; exact H) | exact H
  have Ny101 := Aside0.mk hy101
  clear hy101
  have H' := Aside0.mk H
  clear H
  go_enter Try.func3, Try.ntmps3
  go_wp2_with (first | ((with_reducible refine gate_dst (N := 8) rfl ?_); refine R_arr _ rfl (N := 8) rfl 23 1500 rfl arr23 (Below.refl _ _) (Nat.le_refl _) (by decide) ?_; intro gv102 w4 ho5 hb hg_ hnew_; clear hg_ hnew_; (first | rw [← Ny101.out] at ho5 | (simp only [Int.reduceToNat] at ho5; rw [← Ny101.out] at ho5)); have n0_ := Aside0.mk (Kd.R_lower ho5 (below_size (by repeat (first | (with_reducible first | exact HB.out | apply below_alloc | apply pw_below_drewN | apply below_drew1) | exact HB.out)))); have n1_ := Aside0.mk (below_step (by repeat (first | (with_reducible first | exact HB.out | apply below_alloc | apply pw_below_drewN | apply below_drew1) | exact HB.out)) hb); clear HB; have HO103 := n0_; have HB := n1_; clear n0_ n1_; clear hb ho5))
  go_loopg [7, 9] k (fun kq v7 v9 w' => ∃ (x7_1 : List (S25)) (x8_1 : List Bool) (x9_1 : Int), v9 = .int .i64 x9_1 ∧ Aside0 (credenzalaw18_PlaceFirst.l0 kq l0 a1 a2 x7_1 x8_1 x9_1 = some r) ∧ Aside0 (kq ≤ k) ∧ Aside0 (Kd.R k25 25 w' w.heap.size (fun _ => True) v7 x7_1) ∧ Aside0 (Kd.R Kd.bool 23 w' w.heap.size (fun _ => True) (.slice (some ⟨gv102, 0, none⟩) 1500 1500) x8_1) ∧ Aside0 (Below w.heap.size w w'))
  case atStart => exact ⟨(([] : List (S25))), (y101), (0), (by first | rfl | (simp; done) | (simp [*]; done)), H', ⟨Nat.le_refl _⟩, ⟨by first | exact Kd.R_nil _ _ _ _ _ | exact Kd.N_nil _ _ _ _ _ | exact Kd.V_nil _ _ _ _ _ | exact Kd.Q_nil _ _ _ _ _ | exact Kd.S_nil _ _ _ _ _⟩, ⟨by (with_reducible repeat (first | apply Kd.R_alloc | apply Kd.R_drewN | apply Kd.R_drew)); exact HO103.out⟩, ⟨by repeat (first | (with_reducible first | exact HB.out | apply below_alloc | apply pw_below_drewN | apply below_drew1) | exact HB.out)⟩⟩
  case round =>
    clear H'
    try clear p2
    try clear c3
    obtain ⟨x7_1, x8_1, x9_1, rfl, HA, HK1, HO_7, HO_8, HB⟩ := hrel
    cases gk with
    | zero => exact absurd HA.out (by simp [credenzalaw18_PlaceFirst.l0])
    | succ k1 =>
      have H := HA.out
      clear HA
      simp only [credenzalaw18_PlaceFirst.l0] at H
      have HC6 := Aside0.mk H
      clear H
      go_upto_region 4 with (fail)
      go_cut [27] (fun v27 wc => ∃ (kq : Nat) (x27_5 : Bool), v27 = .bool x27_5 ∧ Aside0 (credenzalaw18_PlaceFirst.j1 kq l0 a1 a2 x7_1 x8_1 x9_1 x27_5 = some r) ∧ Aside0 (kq ≤ k1) ∧ Aside0 (Kd.R k25 25 wc w.heap.size (fun _ => True) u7 x7_1) ∧ Aside0 (Kd.R Kd.bool 23 wc w.heap.size (fun _ => True) (.slice (some ⟨gv102, 0, none⟩) 1500 1500) x8_1) ∧ Aside0 (Below w.heap.size w wc))
      case first =>
        have H := HC6.out
        clear HC6
        by_cases c7 : x9_1 < (l0.length : Int)
        · rw [if_pos c7] at H
          have c7b0 : decide (x9_1 < (l0.length : Int)) = true := decide_eq_true c7
          clear c7
          (first | rw [c7b0] | (simp only [i64_w, i32_w]; rw [c7b0]) | skip)
          have H' := Aside0.mk H
          clear H
          go_wp2
          go_meet
          case rel => exact ⟨_, (decide (x9_1 < 10)), (by first | rfl | (simp; done) | (simp [*]; done)), H', ⟨by have := HK1.out; first | omega | exact Nat.le_refl _⟩, ⟨by (with_reducible repeat (first | apply Kd.R_alloc | apply Kd.R_drewN | apply Kd.R_drew)); exact HO_7.out⟩, ⟨by (with_reducible repeat (first | apply Kd.R_alloc | apply Kd.R_drewN | apply Kd.R_drew)); exact HO_8.out⟩, ⟨by repeat (first | (with_reducible first | exact HB.out | apply below_alloc | apply pw_below_drewN | apply below_drew1) | exact HB.out)⟩⟩
        · rw [if_neg c7] at H
          have c7b0 : decide (x9_1 < (l0.length : Int)) = false := decide_eq_false c7
          clear c7
          (first | rw [c7b0] | (simp only [i64_w, i32_w]; rw [c7b0]) | skip)
          have H' := Aside0.mk H
          clear H
          go_wp2
          go_meet
          case rel => exact ⟨_, (false), (by first | rfl | (simp; done) | (simp [*]; done)), H', ⟨by have := HK1.out; first | omega | exact Nat.le_refl _⟩, ⟨by (with_reducible repeat (first | apply Kd.R_alloc | apply Kd.R_drewN | apply Kd.R_drew)); exact HO_7.out⟩, ⟨by (with_reducible repeat (first | apply Kd.R_alloc | apply Kd.R_drewN | apply Kd.R_drew)); exact HO_8.out⟩, ⟨by repeat (first | (with_reducible first | exact HB.out | apply below_alloc | apply pw_below_drewN | apply below_drew1) | exact HB.out)⟩⟩
      case rest =>
        clear HC6
        try clear p2
        try clear c3
        try clear c7
        try clear c7b0
        try clear p2
        obtain ⟨kq, x27_5, rfl, HA, HJ5, HO_7, HO_8, HB⟩ := hcut
        cases kq with
        | zero => exact absurd HA.out (by simp [credenzalaw18_PlaceFirst.j1])
        | succ kj5 =>
          have H := HA.out
          clear HA
          simp only [credenzalaw18_PlaceFirst.j1] at H
          by_cases c8 : x27_5 = true
          · subst c8
            have H1 : (if 0 ≤ x9_1 then (if x9_1 < (l0.length : Int) then (if x7_1.length < 8796093022208 then (credenzalaw18_PlaceFirst.l1 kj5 l0 a1 a2 (x7_1 ++ [(⟨Go.bits .and .i64 ((rd_T25 l0 x9_1).f0) 1023, wrap64 ((Go.bits .and .i64 ((rd_T25 l0 x9_1).f0) 1023) + (Go.bits .and .i64 ((rd_T25 l0 x9_1).f1) 255))⟩ : S25)]) x8_1 x9_1 (Go.bits .and .i64 ((rd_T25 l0 x9_1).f0) 1023) (Go.bits .and .i64 ((rd_T25 l0 x9_1).f0) 1023) (wrap64 ((Go.bits .and .i64 ((rd_T25 l0 x9_1).f0) 1023) + (Go.bits .and .i64 ((rd_T25 l0 x9_1).f1) 255)))) else (none)) else (none)) else (none)) = some r := by rw [if_pos rfl] at H; exact H
            clear H
            have H := H1
            clear H1
            by_cases c9 : 0 ≤ x9_1
            · rw [if_pos c9] at H
              have c9b0 : decide (0 ≤ x9_1) = true := decide_eq_true c9
              clear c9
              by_cases c10 : x9_1 < (l0.length : Int)
              · rw [if_pos c10] at H
                have c10b0 : decide (x9_1 < (l0.length : Int)) = true := decide_eq_true c10
                clear c10
                by_cases c11 : x7_1.length < 8796093022208
                · rw [if_pos c11] at H
                  have LMc11 := Aside0.mk c11
                  clear c11
                  obtain ⟨y107, hy107⟩ : ∃ y_ : List (S25), y_ = (x7_1 ++ [(⟨Go.bits .and .i64 ((rd_T25 l0 x9_1).f0) 1023, wrap64 ((Go.bits .and .i64 ((rd_T25 l0 x9_1).f0) 1023) + (Go.bits .and .i64 ((rd_T25 l0 x9_1).f1) 255))⟩ : S25)]) := ⟨_, rfl⟩
                  replace H : (credenzalaw18_PlaceFirst.l1 kj5 l0 a1 a2 y107 x8_1 x9_1 (Go.bits .and .i64 ((rd_T25 l0 x9_1).f0) 1023) (Go.bits .and .i64 ((rd_T25 l0 x9_1).f0) 1023) (wrap64 ((Go.bits .and .i64 ((rd_T25 l0 x9_1).f0) 1023) + (Go.bits .and .i64 ((rd_T25 l0 x9_1).f1) 255)))) = some r := by first | (rw [hy107]; with_reducible exact H) | (have H2_ := (Option.bind_some _ _).symm.trans H; rw [hy107]; with_reducible exact H2_) | (have H2_ := (Option.bind_some _ _).symm.trans H; with_reducible exact H2_) | with_reducible exact H | (rw [hy107]; exact H) | exact H
                  have Ny107 := Aside0.mk hy107
                  clear hy107
                  have H' := Aside0.mk H
                  clear H
                  have p104 : 0 ≤ (x9_1 : Int) := of_decide_eq_true (by first | (with_reducible assumption) | assumption)
                  have q104 : x9_1 < (l0.length : Int) := of_decide_eq_true (by first | (with_reducible assumption) | assumption)
                  obtain ⟨ad104, e104, hx104_0, hx104_1⟩ := at_T25 HR0.out x9_1 p104 q104
                  cases e104
                  replace hx104_0 := (HB.out.cell (World.block_lt_of_cell? w _ hx104_0)).trans hx104_0
                  replace hx104_1 := (HB.out.cell (World.block_lt_of_cell? w _ hx104_1)).trans hx104_1
                  replace p104 := eq_true p104
                  replace q104 := eq_true q104
                  try go_wp2_with (first | ((with_reducible refine gate_dst (N := 10) rfl ?_); refine box_event ?hg (N := 10) ?hd (cs := #[.int .i64 0, .int .i64 0]) (t := 25) ?hr ?_; (case hd => rfl); (case hg => rfl); (case hr => first | (go_simp; done) | (go_simp; rfl)); intro gb105 hg w12 hbox hb; have n0_ := Aside0.mk (Kd.R_below (Kd.R_elderB (by (with_reducible repeat (first | apply Kd.R_alloc | apply Kd.R_drewN | apply Kd.R_drew)); exact HO_7.out) gb105 (Nat.le_of_eq hg.symm)) hb); have n1_ := Aside0.mk (Kd.R_below (by (with_reducible repeat (first | apply Kd.R_alloc | apply Kd.R_drewN | apply Kd.R_drew)); exact HO_8.out) hb); have n2_ := Aside0.mk (below_step (by repeat (first | (with_reducible first | exact HB.out | apply below_alloc | apply pw_below_drewN | apply below_drew1) | exact HB.out)) hb); have n3_ := Aside0.mk (hbox); have n4_ := Aside0.mk ((by rw [hg]; exact (below_size (by repeat (first | (with_reducible first | exact HB.out | apply below_alloc | apply pw_below_drewN | apply below_drew1) | exact HB.out))) : w.heap.size ≤ gb105)); have n5_ := Aside0.mk ((by rw [hg]; exact (below_size (by repeat (first | (with_reducible first | exact HB.out | apply below_alloc | apply pw_below_drewN | apply below_drew1) | exact HB.out))) : w.heap.size ≤ gb105)); clear HO_7; clear HO_8; clear HB; have HO_7 := n0_; have HO_8 := n1_; have HB := n2_; have BK105 := n3_; have GW105 := n4_; have GE105 := n5_; clear n0_ n1_ n2_ n3_ n4_ n5_; clear hb hbox hg; have hcz13_0 : w12.cell? ⟨gb105, 0, none⟩ = some (.int .i64 0) := (blk_cell BK105.out 0).trans rfl; have hcz13_1 : w12.cell? ⟨gb105, 1, none⟩ = some (.int .i64 0) := (blk_cell BK105.out 1).trans rfl; have hfz13_0 := blk_frozen BK105.out 0; have hfz13_1 := blk_frozen BK105.out 1))
                  have n0_ : Aside0 (Kd.R k25 25 ((w12.setCell ⟨gb105, 0, none⟩ (.int .i64 (Go.bits .and .i64 ((rd_T25 l0 x9_1).f0) 1023))).setCell ⟨gb105, 1, none⟩ (.int .i64 0)) w.heap.size (fun k_ => k_ ≠ gb105) u7 x7_1) := ⟨by (with_reducible repeat (first | apply Kd.R_alloc | apply Kd.R_drewN | apply Kd.R_drew)); exact Kd.R_mono (Kd.R_far (p := ⟨gb105, 1, none⟩) (Kd.R_far (p := ⟨gb105, 0, none⟩) (Kd.R_mono HO_7.out (fun k_ hk => (⟨hk, hk.2⟩ : _ ∧ k_ ≠ gb105))) (fun _ hk => hk.2) (.int .i64 (Go.bits .and .i64 ((rd_T25 l0 x9_1).f0) 1023))) (fun _ hk => hk.2) (.int .i64 0)) (fun _ hk => hk.1.2)⟩
                  have n1_ : Aside0 (Kd.R Kd.bool 23 ((w12.setCell ⟨gb105, 0, none⟩ (.int .i64 (Go.bits .and .i64 ((rd_T25 l0 x9_1).f0) 1023))).setCell ⟨gb105, 1, none⟩ (.int .i64 0)) w.heap.size (fun _ => True) (.slice (some ⟨gv102, 0, none⟩) 1500 1500) x8_1) := ⟨by (with_reducible repeat (first | apply Kd.R_alloc | apply Kd.R_drewN | apply Kd.R_drew)); exact Kd.R_mono (Kd.R_far (p := ⟨gb105, 1, none⟩) (Kd.R_far (p := ⟨gb105, 0, none⟩) (Kd.R_types HO_8.out BK105.out (by decide)) (fun _ hk => hk.2) (.int .i64 (Go.bits .and .i64 ((rd_T25 l0 x9_1).f0) 1023))) (fun _ hk => hk.2) (.int .i64 0)) (fun _ hk => trivial)⟩
                  have n2_ : Aside0 (((w12.setCell ⟨gb105, 0, none⟩ (.int .i64 (Go.bits .and .i64 ((rd_T25 l0 x9_1).f0) 1023))).setCell ⟨gb105, 1, none⟩ (.int .i64 0)).heap[gb105]? = some (.cells #[.int .i64 (Go.bits .and .i64 ((rd_T25 l0 x9_1).f0) 1023), .int .i64 0] 25 (0, 0))) := ⟨by (with_reducible repeat (first | refine blk_drewN ?_ _ | refine blk_drew ?_ | refine blk_alloc ?_ _)); refine blk_put (cs := #[.int .i64 (Go.bits .and .i64 ((rd_T25 l0 x9_1).f0) 1023), .int .i64 0]) ?_ 1 _ rfl; (with_reducible repeat (first | refine blk_drewN ?_ _ | refine blk_drew ?_ | refine blk_alloc ?_ _)); refine blk_put (cs := #[.int .i64 0, .int .i64 0]) ?_ 0 _ rfl; (with_reducible repeat (first | refine blk_drewN ?_ _ | refine blk_drew ?_ | refine blk_alloc ?_ _)); exact BK105.out⟩
                  have n3_ : Aside0 (Below w.heap.size w ((w12.setCell ⟨gb105, 0, none⟩ (.int .i64 (Go.bits .and .i64 ((rd_T25 l0 x9_1).f0) 1023))).setCell ⟨gb105, 1, none⟩ (.int .i64 0))) := ⟨by repeat (first | (with_reducible first | exact HB.out | apply below_alloc | apply pw_below_drewN | apply below_drew1 | refine below_set ?_ GE105.out) | exact HB.out)⟩
                  (try clear HO_7)
                  (try clear HO_8)
                  (try clear BK105)
                  (try clear HB)
                  generalize ((w12.setCell ⟨gb105, 0, none⟩ (.int .i64 (Go.bits .and .i64 ((rd_T25 l0 x9_1).f0) 1023))).setCell ⟨gb105, 1, none⟩ (.int .i64 0)) = w14 at n0_ n1_ n2_ n3_ ⊢
                  have HO_7 := n0_
                  have HO_8 := n1_
                  have BK105 := n2_
                  have HB := n3_
                  clear n0_ n1_ n2_ n3_
                  have n0_ := Aside0.mk (Kd.R_drew HO_7.out)
                  have n1_ := Aside0.mk (Kd.R_drew HO_8.out)
                  have n2_ := Aside0.mk (blk_drew BK105.out)
                  have n3_ := Aside0.mk (below_drew1 HB.out)
                  clear HO_7
                  clear HO_8
                  clear BK105
                  clear HB
                  have HO_7 := n0_
                  have HO_8 := n1_
                  have BK105 := n2_
                  have HB := n3_
                  clear n0_ n1_ n2_ n3_
                  have p106 : 0 ≤ (x9_1 : Int) := of_decide_eq_true (by first | (with_reducible assumption) | assumption)
                  have q106 : x9_1 < (l0.length : Int) := of_decide_eq_true (by first | (with_reducible assumption) | assumption)
                  obtain ⟨ad106, e106, hx106_0, hx106_1⟩ := at_T25 HR0.out x9_1 p106 q106
                  have hw106_1 := hx106_1
                  have hw106_0 := hx106_0
                  obtain rfl : ad104 = ad106 := (by injection e106)
                  replace hx106_0 := (HB.out.cell (World.block_lt_of_cell? w _ hx106_0)).trans hx106_0
                  replace hx106_1 := (HB.out.cell (World.block_lt_of_cell? w _ hx106_1)).trans hx106_1
                  replace p106 := eq_true p106
                  replace q106 := eq_true q106
                  refine start_ (n := 11) (S := fun w' => w'.cell? ⟨gb105, 0, none⟩ = some (.int .i64 (Go.bits .and .i64 ((rd_T25 l0 x9_1).f0) 1023)) ∧ w'.cell? ⟨gb105, 1, none⟩ = some (.int .i64 0) ∧ w'.cell? (ad104.add ((x9_1).toNat * 2)) = some (.int .i64 ((rd_T25 l0 x9_1).f0)) ∧ w'.cell? ⟨(ad104.add ((x9_1).toNat * 2)).block, (ad104.add ((x9_1).toNat * 2)).off + 1, none⟩ = some (.int .i64 ((rd_T25 l0 x9_1).f1))) (ds := [10]) #[false, false, false, false, false, false, false, false, false, false, false] (by kernel_rfl) rfl rfl ⟨(blk_cell BK105.out 0).trans rfl, (blk_cell BK105.out 1).trans rfl, ((HB.out.cell (World.block_lt_of_cell? w _ hw106_0)).trans hw106_0), ((HB.out.cell (World.block_lt_of_cell? w _ hw106_1)).trans hw106_1)⟩ (fun hHeld => ?_); refine with_tabW credenzalaw18_PlaceFirst.tab7 credenzalaw18_PlaceFirst.bits7 (fun HT_ HW_ => ?_)
                  generalize w14.drew = w15 at HO_7 HO_8 BK105 HB hx106_0 hx106_1 hHeld ⊢
                  refine pure_ (i := 0) (N := some 37) (v := ?_) (a' := ?_) #[true, false, false, false, false, false, false, false, false, false, false] rfl rfl (any_of HT_.out (by kernel_rfl)) (fun _ _ _ h => h) (Or.inl ⟨by rfl, ?_⟩) ?_ ?_
                  rotate_left
                  · intro w'
                    go_simp
                    with_reducible rfl
                  rotate_left
                  · simp only [Act.put, List.setIfInBounds_toArray, List.set_cons_zero, List.set_cons_succ, i64_w, i32_w]
                    rfl
                  refine pure_ (i := 2) (N := some 39) (v := ?_) (a' := ?_) #[true, false, true, false, false, false, false, false, false, false, false] rfl rfl (any_of HT_.out (by kernel_rfl)) (fun _ _ _ h => h) (Or.inl ⟨by rfl, ?_⟩) ?_ ?_
                  rotate_left
                  · intro w'
                    go_simp
                    with_reducible rfl
                  rotate_left
                  · simp only [Act.put, List.setIfInBounds_toArray, List.set_cons_zero, List.set_cons_succ, i64_w, i32_w]
                    rfl
                  refine pure_ (i := 3) (N := some 40) (v := ?_) (a' := ?_) #[true, false, true, true, false, false, false, false, false, false, false] rfl rfl (any_of HT_.out (by kernel_rfl)) (fun _ _ _ h => h) (Or.inl ⟨by rfl, ?_⟩) ?_ ?_
                  rotate_left
                  · intro w'
                    go_simp
                    with_reducible rfl
                  rotate_left
                  · simp only [Act.put, List.setIfInBounds_toArray, List.set_cons_zero, List.set_cons_succ, i64_w, i32_w]
                    rfl
                  refine pure_ (i := 4) (N := some 41) (v := ?_) (a' := ?_) #[true, false, true, true, true, false, false, false, false, false, false] rfl rfl (any_of HT_.out (by kernel_rfl)) (fun _ _ _ h => h) (Or.inl ⟨by rfl, ?_⟩) ?_ ?_
                  rotate_left
                  · intro w'
                    go_simp
                    with_reducible rfl
                  rotate_left
                  · simp only [Act.put, List.setIfInBounds_toArray, List.set_cons_zero, List.set_cons_succ, i64_w, i32_w]
                    rfl
                  refine pure_ (i := 5) (N := some 42) (v := ?_) (a' := ?_) #[true, false, true, true, true, true, false, false, false, false, false] rfl rfl (any_of HT_.out (by kernel_rfl)) (fun _ _ _ h => h) (Or.inl ⟨by rfl, ?_⟩) ?_ ?_
                  rotate_left
                  · intro w'
                    go_simp
                    with_reducible rfl
                  rotate_left
                  · simp only [Act.put, List.setIfInBounds_toArray, List.set_cons_zero, List.set_cons_succ, i64_w, i32_w]
                    rfl
                  refine take_ (i := 1) (N := some 38) (v := ?_) (a' := ?_) #[true, true, true, true, true, true, false, false, false, false, false] rfl rfl (take_ofW HT_.out HW_.out (by kernel_rfl)) (fun _ _ _ h => h) (Or.inl ⟨by rfl, ?_⟩) hHeld ?_ ?_
                  rotate_left
                  · rintro w' ⟨s0, s1, s2, s3⟩
                    go_simp
                    with_reducible rfl
                  rotate_left
                  · simp only [Act.put, List.setIfInBounds_toArray, List.set_cons_zero, List.set_cons_succ, i64_w, i32_w]
                    rfl
                  refine take_ (i := 6) (N := some 43) (v := ?_) (a' := ?_) #[true, true, true, true, true, true, true, false, false, false, false] rfl rfl (take_ofW HT_.out HW_.out (by kernel_rfl)) (fun _ _ _ h => h) (Or.inl ⟨by rfl, ?_⟩) hHeld ?_ ?_
                  rotate_left
                  · rintro w' ⟨s0, s1, s2, s3⟩
                    go_simp
                    with_reducible rfl
                  rotate_left
                  · simp only [Act.put, List.setIfInBounds_toArray, List.set_cons_zero, List.set_cons_succ, i64_w, i32_w]
                    rfl
                  refine pure_ (i := 7) (N := some 44) (v := ?_) (a' := ?_) #[true, true, true, true, true, true, true, true, false, false, false] rfl rfl (any_of HT_.out (by kernel_rfl)) (fun _ _ _ h => h) (Or.inl ⟨by rfl, ?_⟩) ?_ ?_
                  rotate_left
                  · intro w'
                    go_simp
                    with_reducible rfl
                  rotate_left
                  · simp only [Act.put, List.setIfInBounds_toArray, List.set_cons_zero, List.set_cons_succ, i64_w, i32_w]
                    rfl
                  refine pure_ (i := 8) (N := some 45) (v := ?_) (a' := ?_) #[true, true, true, true, true, true, true, true, true, false, false] rfl rfl (any_of HT_.out (by kernel_rfl)) (fun _ _ _ h => h) (Or.inl ⟨by rfl, ?_⟩) ?_ ?_
                  rotate_left
                  · intro w'
                    go_simp
                    with_reducible rfl
                  rotate_left
                  · simp only [Act.put, List.setIfInBounds_toArray, List.set_cons_zero, List.set_cons_succ, i64_w, i32_w]
                    rfl
                  refine pure_ (i := 9) (N := some 46) (v := ?_) (a' := ?_) #[true, true, true, true, true, true, true, true, true, true, false] rfl rfl (any_of HT_.out (by kernel_rfl)) (fun _ _ _ h => h) (Or.inl ⟨by rfl, ?_⟩) ?_ ?_
                  rotate_left
                  · intro w'
                    go_simp
                    with_reducible rfl
                  rotate_left
                  · simp only [Act.put, List.setIfInBounds_toArray, List.set_cons_zero, List.set_cons_succ, i64_w, i32_w]
                    rfl
                  refine last_ (i := 10) (N := none) #[true, true, true, true, true, true, true, true, true, true, true] rfl rfl (one_of HT_.out (by kernel_rfl)) (by decide) (fun K hK => ?_)
                  have hs16 : w15.cell? ⟨gb105, 1, none⟩ = some (.int .i64 0) := (blk_cell BK105.out 1).trans rfl
                  have hfs16 := blk_frozen BK105.out 1
                  refine skip_ (w1 := ?_) (by rfl) rfl ?_ ?_
                  rotate_left
                  · go_simp
                    rfl
                  refine hK.out _ _ ?_
                  clear hK K
                  refine done_ (done_of HT_.out (by kernel_rfl)) ?_
                  have hcz17_0 : w15.cell? ⟨gb105, 0, none⟩ = some (.int .i64 (Go.bits .and .i64 ((rd_T25 l0 x9_1).f0) 1023)) := (blk_cell BK105.out 0).trans rfl
                  have hcz17_1 : w15.cell? ⟨gb105, 1, none⟩ = some (.int .i64 0) := (blk_cell BK105.out 1).trans rfl
                  have hfz17_0 := blk_frozen BK105.out 0
                  have hfz17_1 := blk_frozen BK105.out 1
                  try go_wp2_with (first | ((with_reducible refine gate_builtin (b := .append) (xs := #[.tmp 47, .tmp 49]) rfl ?_); at_builtin; refine Kd.R_append k25 (w0 := w) w.heap.size rfl (.tmp 47) (.tmp 49) 22 25 (.agg #[(.int .i64 0), (.int .i64 0)]) 16 rfl Try.underlying22 info25 rfl (by decide) (by omega) u7 x7_1 (⟨Go.bits .and .i64 ((rd_T25 l0 x9_1).f0) 1023, wrap64 ((Go.bits .and .i64 ((rd_T25 l0 x9_1).f0) 1023) + (Go.bits .and .i64 ((rd_T25 l0 x9_1).f1) 255))⟩ : S25) [.int .i64 (Go.bits .and .i64 ((rd_T25 l0 x9_1).f0) 1023), .int .i64 (wrap64 ((Go.bits .and .i64 ((rd_T25 l0 x9_1).f0) 1023) + (Go.bits .and .i64 ((rd_T25 l0 x9_1).f1) 255)))] (fun k_ => k_ ≠ gb105) (fun _ => False) rfl (by first | (go_simp; done) | (go_simp; rfl)) ?aP (fun _ hk => hk.elim) ?aF ?aO ?aB ?aS ?aL ?_; (case aP => exact k25_mkM _ _ _ (⟨Go.bits .and .i64 ((rd_T25 l0 x9_1).f0) 1023, wrap64 ((Go.bits .and .i64 ((rd_T25 l0 x9_1).f0) 1023) + (Go.bits .and .i64 ((rd_T25 l0 x9_1).f1) 255))⟩ : S25)); (case aB => exact (by repeat (first | (with_reducible first | exact HB.out | apply below_alloc | apply pw_below_drewN | apply below_drew1 | refine below_set ?_ GE105.out) | exact HB.out))); (case aF => exact (fun k_ hk => Kd.freshB (g := gb105) (o := .cells #[.int .i64 (Go.bits .and .i64 ((rd_T25 l0 x9_1).f0) 1023), .int .i64 (wrap64 ((Go.bits .and .i64 ((rd_T25 l0 x9_1).f0) 1023) + (Go.bits .and .i64 ((rd_T25 l0 x9_1).f1) 255)))] 25 (0, 0)) (by (with_reducible repeat (first | refine blk_drewN ?_ _ | refine blk_drew ?_ | refine blk_alloc ?_ _)); refine blk_put (cs := #[.int .i64 (Go.bits .and .i64 ((rd_T25 l0 x9_1).f0) 1023), .int .i64 0]) ?_ 1 _ rfl; (with_reducible repeat (first | refine blk_drewN ?_ _ | refine blk_drew ?_ | refine blk_alloc ?_ _)); exact BK105.out) k_ hk)); (case aO => exact (by (with_reducible repeat (first | apply Kd.R_alloc | apply Kd.R_drewN | apply Kd.R_drew)); exact Kd.R_mono (Kd.R_far (p := ⟨gb105, 1, none⟩) (Kd.R_mono HO_7.out (fun k_ hk => (⟨hk, hk⟩ : _ ∧ k_ ≠ gb105))) (fun _ hk => hk.2) (.int .i64 (wrap64 ((Go.bits .and .i64 ((rd_T25 l0 x9_1).f0) 1023) + (Go.bits .and .i64 ((rd_T25 l0 x9_1).f1) 255))))) (fun _ hk => hk.1))); (case aS => exact (below_size (by repeat (first | (with_reducible first | exact HB.out | apply below_alloc | apply pw_below_drewN | apply below_drew1 | refine below_set ?_ GE105.out) | exact HB.out)))); (case aL => have := LMc11.out; omega); intro v108 w18 ho hb hg hat; rw [← Ny107.out] at ho; have n0_ := Aside0.mk (Kd.R_over' (by (with_reducible repeat (first | apply Kd.R_alloc | apply Kd.R_drewN | apply Kd.R_drew)); exact (Kd.R_mono (Kd.R_far (p := ⟨gb105, 1, none⟩) (Kd.R_types HO_8.out BK105.out (by decide)) (fun _ hk => hk.2) (.int .i64 (wrap64 ((Go.bits .and .i64 ((rd_T25 l0 x9_1).f0) 1023) + (Go.bits .and .i64 ((rd_T25 l0 x9_1).f1) 255))))) (fun _ h_ => h_.1))) (Kd.R_typed (by (with_reducible repeat (first | apply Kd.R_alloc | apply Kd.R_drewN | apply Kd.R_drew)); exact (Kd.R_mono (Kd.R_far (p := ⟨gb105, 1, none⟩) (Kd.R_mono HO_7.out (fun k_ hk => (⟨hk, hk⟩ : _ ∧ k_ ≠ gb105))) (fun _ hk => hk.2) (.int .i64 (wrap64 ((Go.bits .and .i64 ((rd_T25 l0 x9_1).f0) 1023) + (Go.bits .and .i64 ((rd_T25 l0 x9_1).f1) 255))))) (fun _ h_ => h_.1)))) (by decide) hg); have n1_ := Aside0.mk (blk_grown (g := gb105) (o := .cells #[.int .i64 (Go.bits .and .i64 ((rd_T25 l0 x9_1).f0) 1023), .int .i64 (wrap64 ((Go.bits .and .i64 ((rd_T25 l0 x9_1).f0) 1023) + (Go.bits .and .i64 ((rd_T25 l0 x9_1).f1) 255)))] 25 (0, 0)) (by (with_reducible repeat (first | refine blk_drewN ?_ _ | refine blk_drew ?_ | refine blk_alloc ?_ _)); refine blk_put (cs := #[.int .i64 (Go.bits .and .i64 ((rd_T25 l0 x9_1).f0) 1023), .int .i64 0]) ?_ 1 _ rfl; (with_reducible repeat (first | refine blk_drewN ?_ _ | refine blk_drew ?_ | refine blk_alloc ?_ _)); exact BK105.out) hg (Kd.R_away HO_7.out (fun _ hk => hk))); have n2_ := Aside0.mk (hb); have n3_ := Aside0.mk (ho); clear HO_8; clear BK105; clear HB; clear HO_7; have HO_8 := n0_; have BK105 := n1_; have HB := n2_; have HO109 := n3_; clear n0_ n1_ n2_ n3_; clear ho hb hg hat; have hcz19_0 : w18.cell? ⟨gb105, 0, none⟩ = some (.int .i64 (Go.bits .and .i64 ((rd_T25 l0 x9_1).f0) 1023)) := (blk_cell BK105.out 0).trans rfl; have hcz19_1 : w18.cell? ⟨gb105, 1, none⟩ = some (.int .i64 (wrap64 ((Go.bits .and .i64 ((rd_T25 l0 x9_1).f0) 1023) + (Go.bits .and .i64 ((rd_T25 l0 x9_1).f1) 255)))) := (blk_cell BK105.out 1).trans rfl; have hfz19_0 := blk_frozen BK105.out 0; have hfz19_1 := blk_frozen BK105.out 1))
                  go_loopg [11] kj5 (fun kq v11 w' => ∃ (x8_3 : List Bool) (x11_3 : Int), v11 = .int .i64 x11_3 ∧ Aside0 (credenzalaw18_PlaceFirst.l1 kq l0 a1 a2 y107 x8_3 x9_1 x11_3 (Go.bits .and .i64 ((rd_T25 l0 x9_1).f0) 1023) (wrap64 ((Go.bits .and .i64 ((rd_T25 l0 x9_1).f0) 1023) + (Go.bits .and .i64 ((rd_T25 l0 x9_1).f1) 255))) = some r) ∧ Aside0 (kq ≤ kj5) ∧ Aside0 (Kd.R k25 25 w' w.heap.size (fun k_ => k_ ≠ gb105) v108 y107) ∧ Aside0 (Kd.R Kd.bool 23 w' w.heap.size (fun _ => True) (.slice (some ⟨gv102, 0, none⟩) 1500 1500) x8_3) ∧ Aside0 (w'.heap[gb105]? = some (.cells #[.int .i64 (Go.bits .and .i64 ((rd_T25 l0 x9_1).f0) 1023), .int .i64 (wrap64 ((Go.bits .and .i64 ((rd_T25 l0 x9_1).f0) 1023) + (Go.bits .and .i64 ((rd_T25 l0 x9_1).f1) 255)))] 25 (0, 0))) ∧ Aside0 (Below w.heap.size w w'))
                  case atStart => exact ⟨(x8_1), (Go.bits .and .i64 ((rd_T25 l0 x9_1).f0) 1023), (by first | rfl | (simp; done) | (simp [*]; done)), H', ⟨Nat.le_refl _⟩, ⟨by (with_reducible repeat (first | apply Kd.R_alloc | apply Kd.R_drewN | apply Kd.R_drew)); exact HO109.out⟩, ⟨by (with_reducible repeat (first | apply Kd.R_alloc | apply Kd.R_drewN | apply Kd.R_drew)); exact HO_8.out⟩, ⟨by (with_reducible repeat (first | refine blk_drewN ?_ _ | refine blk_drew ?_ | refine blk_alloc ?_ _)); exact BK105.out⟩, ⟨by repeat (first | (with_reducible first | exact HB.out | apply below_alloc | apply pw_below_drewN | apply below_drew1 | refine below_set ?_ GE105.out) | exact HB.out)⟩⟩
                  case round =>
                    clear H'
                    try clear c1
                    try clear p1
                    try clear q1
                    try clear hx1
                    try clear p2
                    try clear c3
                    try clear p6
                    try clear c7
                    try clear c7b0
                    try clear c8
                    try clear c9
                    try clear c9b0
                    try clear c10
                    try clear c10b0
                    try clear p10
                    try clear q10
                    try clear hx10
                    try clear c11
                    try clear hcz13_0
                    try clear hcz13_1
                    try clear hcz17_0
                    try clear hcz17_1
                    try clear hcz19_0
                    try clear hcz19_1
                    try clear hfz13_0
                    try clear hfz13_1
                    try clear hfz17_0
                    try clear hfz17_1
                    try clear hfz19_0
                    try clear hfz19_1
                    try clear hx104_0
                    try clear hx104_1
                    try clear hx106_0
                    try clear hx106_1
                    try clear p104
                    try clear p106
                    try clear p2
                    try clear q104
                    try clear q106
                    obtain ⟨x8_3, x11_3, rfl, HA, HK3, HO_7, HO_8, BK105, HB⟩ := hrel
                    cases gk with
                    | zero => exact absurd HA.out (by simp [credenzalaw18_PlaceFirst.l1])
                    | succ k3 =>
                      have H := HA.out
                      clear HA
                      simp only [credenzalaw18_PlaceFirst.l1] at H
                      by_cases c20 : x11_3 < (wrap64 ((Go.bits .and .i64 ((rd_T25 l0 x9_1).f0) 1023) + (Go.bits .and .i64 ((rd_T25 l0 x9_1).f1) 255)))
                      · rw [if_pos c20] at H
                        have c20b0 : decide (x11_3 < (wrap64 ((Go.bits .and .i64 ((rd_T25 l0 x9_1).f0) 1023) + (Go.bits .and .i64 ((rd_T25 l0 x9_1).f1) 255)))) = true := decide_eq_true c20
                        clear c20
                        by_cases c21 : 0 ≤ x11_3
                        · rw [if_pos c21] at H
                          have c21b0 : decide (0 ≤ x11_3) = true := decide_eq_true c21
                          clear c21
                          by_cases c22 : x11_3 < (x8_3.length : Int)
                          · rw [if_pos c22] at H
                            have c22b0 : decide (x11_3 < (x8_3.length : Int)) = true := decide_eq_true c22
                            clear c22
                            obtain ⟨y110, hy110⟩ : ∃ y_ : List Bool, y_ = (x8_3.set (x11_3 : Int).toNat true) := ⟨_, rfl⟩
                            replace H : (credenzalaw18_PlaceFirst.l1 k3 l0 a1 a2 y107 y110 x9_1 (wrap64 (x11_3 + 1)) (Go.bits .and .i64 ((rd_T25 l0 x9_1).f0) 1023) (wrap64 ((Go.bits .and .i64 ((rd_T25 l0 x9_1).f0) 1023) + (Go.bits .and .i64 ((rd_T25 l0 x9_1).f1) 255)))) = some r := by first | (rw [hy110]; with_reducible exact H) | (have H2_ := (Option.bind_some _ _).symm.trans H; rw [hy110]; with_reducible exact H2_) | (have H2_ := (Option.bind_some _ _).symm.trans H; with_reducible exact H2_) | with_reducible exact H | (rw [hy110]; exact H) | exact H
                            have Ny110 := Aside0.mk hy110
                            clear hy110
                            have H' := Aside0.mk H
                            clear H
                            have hcz24_0 : wr.cell? ⟨gb105, 0, none⟩ = some (.int .i64 (Go.bits .and .i64 ((rd_T25 l0 x9_1).f0) 1023)) := (blk_cell BK105.out 0).trans rfl
                            have hcz24_1 : wr.cell? ⟨gb105, 1, none⟩ = some (.int .i64 (wrap64 ((Go.bits .and .i64 ((rd_T25 l0 x9_1).f0) 1023) + (Go.bits .and .i64 ((rd_T25 l0 x9_1).f1) 255)))) := (blk_cell BK105.out 1).trans rfl
                            have hfz24_0 := blk_frozen BK105.out 0
                            have hfz24_1 := blk_frozen BK105.out 1
                            have p23 : 0 ≤ (x11_3 : Int) := of_decide_eq_true (by first | (with_reducible assumption) | assumption)
                            have q23 : (x11_3 : Int) < ((x8_3.length : Int) : Int) := of_decide_eq_true (by first | (with_reducible assumption) | assumption)
                            obtain ⟨go23, co23, eo23, gb23, gl23, cl23, HG23⟩ := Kd.R_form HO_8.out (by omega)
                            injection eo23 with ea_ en_ ec_; injection ea_ with ea_; injection ea_ with ea_; subst ea_; subst ec_; clear en_
                            have GB23 := Aside0.mk gb23
                            have GG23 := Aside0.mk HG23
                            clear gb23 gl23 HG23
                            obtain ⟨hx23_0, hf23_0⟩ := Kd.R_celln false HO_8.out (x11_3 : Int) p23 (by have e_ := (Kd.R_reads' HO_8.out).1; omega)
                            replace p23 := eq_true p23
                            replace q23 := eq_true q23
                            have q23' : (x11_3 < 1500) = True := eq_true (by have e_ := (Kd.R_reads' HO_8.out).1; have h_ := of_eq_true q23; omega)
                            have HP25 := Kd.R_putg HO_8.out (x11_3 : Int) true
                            go_wp2_with (first | ((with_reducible refine gate_store (t := 4) (p := 60) rfl ?_); refine store_event (t := 4) (p := 60) (v := ?vo_w26) (w1 := (wr.setCell ⟨gv102, (x11_3 : Int).toNat, none⟩ (.bool true))) ?hg ?ho ?hn ?hr ?_; (case ho => rfl); (case hg => rfl); (case hn => rfl); (case hr => first | (go_simp; done) | (go_simp; rfl)); intro w26 hw; have hg : wr.grownBy w26 (some gv102) := (by rw [hw]; exact HP25.2); have hp_ : Kd.R Kd.bool 23 w26 w.heap.size (fun _ => True) (.slice (some ⟨gv102, 0, none⟩) 1500 1500) y110 := (by rw [hw, Ny110.out]; exact HP25.1); clear HP25; have n0_ := Aside0.mk (Kd.R_over' (v := (.slice (some ⟨gv102, 0, none⟩) 1500 1500)) (by (with_reducible repeat (first | apply Kd.R_alloc | apply Kd.R_drewN | apply Kd.R_drew)); exact HO_7.out) (Kd.R_typed HO_8.out) (by decide) hg); have n1_ := Aside0.mk (hp_); have n2_ := Aside0.mk (blk_grown (g := gb105) (o := .cells #[.int .i64 (Go.bits .and .i64 ((rd_T25 l0 x9_1).f0) 1023), .int .i64 (wrap64 ((Go.bits .and .i64 ((rd_T25 l0 x9_1).f0) 1023) + (Go.bits .and .i64 ((rd_T25 l0 x9_1).f1) 255)))] 25 (0, 0)) (by (with_reducible repeat (first | refine blk_drewN ?_ _ | refine blk_drew ?_ | refine blk_alloc ?_ _)); exact BK105.out) hg (Kd.R_ne HO_8.out BK105.out (by decide))); have n3_ := Aside0.mk ((by rw [hw]; exact below_set (HB.out) GB23.out : Below w.heap.size w w26)); clear HO_7; clear HO_8; clear BK105; clear HB; have HO_7 := n0_; have HO_8 := n1_; have BK105 := n2_; have HB := n3_; clear n0_ n1_ n2_ n3_; clear hg hw hp_))
                            go_roundg k3
                            case measure => have := HK1.out; have := HJ5.out; have := HK3.out; omega
                            case rel => exact ⟨(y110), (wrap64 (x11_3 + 1)), (by first | rfl | (simp; done) | (simp [*]; done)), H', ⟨by have := HK1.out; have := HJ5.out; have := HK3.out; omega⟩, ⟨by (with_reducible repeat (first | apply Kd.R_alloc | apply Kd.R_drewN | apply Kd.R_drew)); exact HO_7.out⟩, ⟨by (with_reducible repeat (first | apply Kd.R_alloc | apply Kd.R_drewN | apply Kd.R_drew)); exact HO_8.out⟩, ⟨by (with_reducible repeat (first | refine blk_drewN ?_ _ | refine blk_drew ?_ | refine blk_alloc ?_ _)); exact BK105.out⟩, ⟨by repeat (first | (with_reducible first | exact HB.out | apply below_alloc | apply pw_below_drewN | apply below_drew1 | refine below_set ?_ GE105.out) | exact HB.out)⟩⟩
                          · rw [if_neg c22] at H
                            exact absurd H (by simp)
                        · rw [if_neg c21] at H
                          exact absurd H (by simp)
                      · rw [if_neg c20] at H
                        have c20b0 : decide (x11_3 < (wrap64 ((Go.bits .and .i64 ((rd_T25 l0 x9_1).f0) 1023) + (Go.bits .and .i64 ((rd_T25 l0 x9_1).f1) 255)))) = false := decide_eq_false c20
                        clear c20
                        have H' := Aside0.mk H
                        clear H
                        have hcz27_0 : wr.cell? ⟨gb105, 0, none⟩ = some (.int .i64 (Go.bits .and .i64 ((rd_T25 l0 x9_1).f0) 1023)) := (blk_cell BK105.out 0).trans rfl
                        have hcz27_1 : wr.cell? ⟨gb105, 1, none⟩ = some (.int .i64 (wrap64 ((Go.bits .and .i64 ((rd_T25 l0 x9_1).f0) 1023) + (Go.bits .and .i64 ((rd_T25 l0 x9_1).f1) 255)))) := (blk_cell BK105.out 1).trans rfl
                        have hfz27_0 := blk_frozen BK105.out 0
                        have hfz27_1 := blk_frozen BK105.out 1
                        go_wp2
                        go_roundg k3
                        case measure => have := HK1.out; have := HJ5.out; have := HK3.out; omega
                        case rel => exact ⟨(y107), (x8_3), (wrap64 (x9_1 + 1)), (by first | rfl | (simp; done) | (simp [*]; done)), H', ⟨by have := HK1.out; have := HJ5.out; have := HK3.out; omega⟩, ⟨by (with_reducible repeat (first | apply Kd.R_alloc | apply Kd.R_drewN | apply Kd.R_drew)); exact Kd.R_mono HO_7.out (fun _ hk => trivial)⟩, ⟨by (with_reducible repeat (first | apply Kd.R_alloc | apply Kd.R_drewN | apply Kd.R_drew)); exact HO_8.out⟩, ⟨by repeat (first | (with_reducible first | exact HB.out | apply below_alloc | apply pw_below_drewN | apply below_drew1 | refine below_set ?_ GE105.out) | exact HB.out)⟩⟩
                · rw [if_neg c11] at H
                  exact absurd H (by simp)
              · rw [if_neg c10] at H
                exact absurd H (by simp)
            · rw [if_neg c9] at H
              exact absurd H (by simp)
          · replace c8 := Bool.eq_false_iff.mpr c8
            subst c8
            have H1 : ((place_Find.f kj5 x7_1 (wrap64 ((Int.tmod (Go.bits .and .i64 a1 255) 200) + 1))).bind fun bt111 => (credenzalaw18_PlaceFirst.l2 kj5 (wrap64 ((Int.tmod (Go.bits .and .i64 a1 255) 200) + 1)) a2 x7_1 x8_1 bt111.1 bt111.2 (-1) 0)) = some r := by rw [if_neg (show ¬ (false = true) by decide)] at H; exact H
            clear H
            have H := H1
            clear H1
            replace H := Option.bind_eq_some_iff.mp H
            obtain ⟨⟨t111, t112⟩, A280, H⟩ := H
            replace H : (credenzalaw18_PlaceFirst.l2 kj5 (wrap64 ((Int.tmod (Go.bits .and .i64 a1 255) 200) + 1)) a2 x7_1 x8_1 t111 t112 (-1) 0) = some r := H
            have A28 := Aside0.mk A280
            clear A280
            have H' := Aside0.mk H
            clear H
            obtain ⟨Ao29, co29, eo29⟩ := Kd.R_slice HO_7.out
            subst eo29
            go_wp2_with (first | ((with_reducible refine gate_callee (f := 7) rfl ?_); refine goesL_ (some 68) rfl rfl Try.func7 (by kernel_rfl) rfl #[.slice Ao29 x7_1.length co29, .int .i64 (wrap64 ((Int.tmod (Go.bits .and .i64 a1 255) 200) + 1))] rfl (by (try simp only [List.map_toArray, List.map_cons, List.map_nil]); first | done | rfl | (simp only [List.length_drop, List.length_take]; rfl)) ?_; (with_reducible refine (place_Find.calls kj5 _ _ x7_1 (wrap64 ((Int.tmod (Go.bits .and .i64 a1 255) 200) + 1)) t111 t112 _ ?side1 ?side2 A28.out).mono ?_); (case side1 => repeat (first | exact (Kd.R_reads' HO_7.out).2.2 | (with_reducible refine Kd.C_alloc ?_ _) | (with_reducible refine Kd.C_drewN ?_ _) | (with_reducible refine Kd.C_drew ?_))); (case side2 => exact (Kd.R_reads' HO_7.out).2.1); rintro e w30 ⟨rfl, hb⟩; refine ⟨_, rfl, ?_⟩; have n0_ := Aside0.mk (Kd.R_below (by (with_reducible repeat (first | apply Kd.R_alloc | apply Kd.R_drewN | apply Kd.R_drew)); exact HO_7.out) hb); have n1_ := Aside0.mk (Kd.R_below (by (with_reducible repeat (first | apply Kd.R_alloc | apply Kd.R_drewN | apply Kd.R_drew)); exact HO_8.out) hb); have n2_ := Aside0.mk (below_step (by repeat (first | (with_reducible first | exact HB.out | apply below_alloc | apply pw_below_drewN | apply below_drew1) | exact HB.out)) hb); clear HO_7; clear HO_8; clear HB; have HO_7 := n0_; have HO_8 := n1_; have HB := n2_; clear n0_ n1_ n2_; (try clear hb); (try clear hb2); (try clear hk); (try clear hi)))
            go_loopg [14, 15] kj5 (fun kq v14 v15 w' => ∃ (x14_3 : Int) (x15_3 : Int), v14 = .int .i64 x14_3 ∧ v15 = .int .i64 x15_3 ∧ Aside0 (credenzalaw18_PlaceFirst.l2 kq (wrap64 ((Int.tmod (Go.bits .and .i64 a1 255) 200) + 1)) a2 x7_1 x8_1 t111 t112 x14_3 x15_3 = some r) ∧ Aside0 (kq ≤ kj5) ∧ Aside0 (Kd.R k25 25 w' w.heap.size (fun _ => True) (.slice Ao29 x7_1.length co29) x7_1) ∧ Aside0 (Kd.R Kd.bool 23 w' w.heap.size (fun _ => True) (.slice (some ⟨gv102, 0, none⟩) 1500 1500) x8_1) ∧ Aside0 (Below w.heap.size w w'))
            case atStart => exact ⟨((-1)), (0), (by first | rfl | (simp; done) | (simp [*]; done)), (by first | rfl | (simp; done) | (simp [*]; done)), H', ⟨Nat.le_refl _⟩, ⟨by (with_reducible repeat (first | apply Kd.R_alloc | apply Kd.R_drewN | apply Kd.R_drew)); exact HO_7.out⟩, ⟨by (with_reducible repeat (first | apply Kd.R_alloc | apply Kd.R_drewN | apply Kd.R_drew)); exact HO_8.out⟩, ⟨by repeat (first | (with_reducible first | exact HB.out | apply below_alloc | apply pw_below_drewN | apply below_drew1) | exact HB.out)⟩⟩
            case round =>
              clear H'
              try clear c1
              try clear p1
              try clear q1
              try clear hx1
              try clear c2
              try clear p2
              try clear q2
              try clear hx2
              try clear c3
              try clear p6
              try clear c7
              try clear c7b0
              try clear c8
              try clear c9
              try clear c9b0
              try clear c10
              try clear c10b0
              try clear p10
              try clear q10
              try clear hx10
              try clear c11
              try clear c20
              try clear c20b0
              try clear c21
              try clear c21b0
              try clear c22
              try clear c22b0
              try clear p23
              try clear q23
              try clear hx23
              try clear hf23
              try clear hcz13_0
              try clear hcz13_1
              try clear hcz17_0
              try clear hcz17_1
              try clear hcz19_0
              try clear hcz19_1
              try clear hcz24_0
              try clear hcz24_1
              try clear hcz27_0
              try clear hcz27_1
              try clear hfz13_0
              try clear hfz13_1
              try clear hfz17_0
              try clear hfz17_1
              try clear hfz19_0
              try clear hfz19_1
              try clear hfz24_0
              try clear hfz24_1
              try clear hfz27_0
              try clear hfz27_1
              try clear hx104_0
              try clear hx104_1
              try clear hx106_0
              try clear hx106_1
              try clear hx23_0
              try clear p1
              try clear p10
              try clear p104
              try clear p106
              try clear p2
              try clear p23
              try clear p6
              try clear q1
              try clear q10
              try clear q104
              try clear q106
              try clear q23
              obtain ⟨x14_3, x15_3, rfl, rfl, HA, HK3, HO_7, HO_8, HB⟩ := hrel
              cases gk with
              | zero => exact absurd HA.out (by simp [credenzalaw18_PlaceFirst.l2])
              | succ k3 =>
                have H := HA.out
                clear HA
                simp only [credenzalaw18_PlaceFirst.l2] at H
                have HC31 := Aside0.mk H
                clear H
                go_upto_region 17 with (fail)
                go_cut [76] (fun v76 wc => ∃ (kq : Nat) (x76_30 : Bool), v76 = .bool x76_30 ∧ Aside0 (credenzalaw18_PlaceFirst.j4 kq (wrap64 ((Int.tmod (Go.bits .and .i64 a1 255) 200) + 1)) a2 x7_1 x8_1 t111 t112 x14_3 x15_3 x76_30 = some r) ∧ Aside0 (kq ≤ k3) ∧ Aside0 (Kd.R k25 25 wc w.heap.size (fun _ => True) (.slice Ao29 x7_1.length co29) x7_1) ∧ Aside0 (Kd.R Kd.bool 23 wc w.heap.size (fun _ => True) (.slice (some ⟨gv102, 0, none⟩) 1500 1500) x8_1) ∧ Aside0 (Below w.heap.size w wc))
                case first =>
                  have H := HC31.out
                  clear HC31
                  by_cases c32 : x15_3 < 1280
                  · rw [if_pos c32] at H
                    have c32b0 : decide (x15_3 < 1280) = true := decide_eq_true c32
                    clear c32
                    (first | rw [c32b0] | (simp only [i64_w, i32_w]; rw [c32b0]) | skip)
                    have H' := Aside0.mk H
                    clear H
                    go_wp2
                    go_meet
                    case rel => exact ⟨_, (decide (x14_3 < 0)), (by first | rfl | (simp; done) | (simp [*]; done)), H', ⟨by have := HK1.out; have := HJ5.out; have := HK3.out; first | omega | exact Nat.le_refl _⟩, ⟨by (with_reducible repeat (first | apply Kd.R_alloc | apply Kd.R_drewN | apply Kd.R_drew)); exact HO_7.out⟩, ⟨by (with_reducible repeat (first | apply Kd.R_alloc | apply Kd.R_drewN | apply Kd.R_drew)); exact HO_8.out⟩, ⟨by repeat (first | (with_reducible first | exact HB.out | apply below_alloc | apply pw_below_drewN | apply below_drew1) | exact HB.out)⟩⟩
                  · rw [if_neg c32] at H
                    have c32b0 : decide (x15_3 < 1280) = false := decide_eq_false c32
                    clear c32
                    (first | rw [c32b0] | (simp only [i64_w, i32_w]; rw [c32b0]) | skip)
                    have H' := Aside0.mk H
                    clear H
                    go_wp2
                    go_meet
                    case rel => exact ⟨_, (false), (by first | rfl | (simp; done) | (simp [*]; done)), H', ⟨by have := HK1.out; have := HJ5.out; have := HK3.out; first | omega | exact Nat.le_refl _⟩, ⟨by (with_reducible repeat (first | apply Kd.R_alloc | apply Kd.R_drewN | apply Kd.R_drew)); exact HO_7.out⟩, ⟨by (with_reducible repeat (first | apply Kd.R_alloc | apply Kd.R_drewN | apply Kd.R_drew)); exact HO_8.out⟩, ⟨by repeat (first | (with_reducible first | exact HB.out | apply below_alloc | apply pw_below_drewN | apply below_drew1) | exact HB.out)⟩⟩
                case rest =>
                  clear HC31
                  try clear c1
                  try clear p1
                  try clear q1
                  try clear hx1
                  try clear c2
                  try clear p2
                  try clear q2
                  try clear hx2
                  try clear c3
                  try clear p6
                  try clear c7
                  try clear c7b0
                  try clear c8
                  try clear c9
                  try clear c9b0
                  try clear c10
                  try clear c10b0
                  try clear p10
                  try clear q10
                  try clear hx10
                  try clear c11
                  try clear c20
                  try clear c20b0
                  try clear c21
                  try clear c21b0
                  try clear c22
                  try clear c22b0
                  try clear p23
                  try clear q23
                  try clear hx23
                  try clear hf23
                  try clear c32
                  try clear c32b0
                  try clear hcz13_0
                  try clear hcz13_1
                  try clear hcz17_0
                  try clear hcz17_1
                  try clear hcz19_0
                  try clear hcz19_1
                  try clear hcz24_0
                  try clear hcz24_1
                  try clear hcz27_0
                  try clear hcz27_1
                  try clear hfz13_0
                  try clear hfz13_1
                  try clear hfz17_0
                  try clear hfz17_1
                  try clear hfz19_0
                  try clear hfz19_1
                  try clear hfz24_0
                  try clear hfz24_1
                  try clear hfz27_0
                  try clear hfz27_1
                  try clear hx104_0
                  try clear hx104_1
                  try clear hx106_0
                  try clear hx106_1
                  try clear hx23_0
                  try clear p1
                  try clear p10
                  try clear p104
                  try clear p106
                  try clear p2
                  try clear p23
                  try clear p6
                  try clear q1
                  try clear q10
                  try clear q104
                  try clear q106
                  try clear q2
                  try clear q23
                  obtain ⟨kq, x76_30, rfl, HA, HJ30, HO_7, HO_8, HB⟩ := hcut
                  cases kq with
                  | zero => exact absurd HA.out (by simp [credenzalaw18_PlaceFirst.j4])
                  | succ kj30 =>
                    have H := HA.out
                    clear HA
                    simp only [credenzalaw18_PlaceFirst.j4] at H
                    by_cases c33 : x76_30 = true
                    · subst c33
                      have H1 : (credenzalaw18_PlaceFirst.l3 kj30 (wrap64 ((Int.tmod (Go.bits .and .i64 a1 255) 200) + 1)) a2 x7_1 x8_1 t111 t112 x14_3 x15_3 true x15_3) = some r := by rw [if_pos rfl] at H; exact H
                      clear H
                      have H := H1
                      clear H1
                      have H' := Aside0.mk H
                      clear H
                      go_wp2
                      go_loopg [16, 17] kj30 (fun kq v16 v17 w' => ∃ (x16_5 : Bool) (x17_5 : Int), v16 = .bool x16_5 ∧ v17 = .int .i64 x17_5 ∧ Aside0 (credenzalaw18_PlaceFirst.l3 kq (wrap64 ((Int.tmod (Go.bits .and .i64 a1 255) 200) + 1)) a2 x7_1 x8_1 t111 t112 x14_3 x15_3 x16_5 x17_5 = some r) ∧ Aside0 (kq ≤ kj30) ∧ Aside0 (Kd.R k25 25 w' w.heap.size (fun _ => True) (.slice Ao29 x7_1.length co29) x7_1) ∧ Aside0 (Kd.R Kd.bool 23 w' w.heap.size (fun _ => True) (.slice (some ⟨gv102, 0, none⟩) 1500 1500) x8_1) ∧ Aside0 (Below w.heap.size w w'))
                      case atStart => exact ⟨(true), (x15_3), (by first | rfl | (simp; done) | (simp [*]; done)), (by first | rfl | (simp; done) | (simp [*]; done)), H', ⟨Nat.le_refl _⟩, ⟨by (with_reducible repeat (first | apply Kd.R_alloc | apply Kd.R_drewN | apply Kd.R_drew)); exact HO_7.out⟩, ⟨by (with_reducible repeat (first | apply Kd.R_alloc | apply Kd.R_drewN | apply Kd.R_drew)); exact HO_8.out⟩, ⟨by repeat (first | (with_reducible first | exact HB.out | apply below_alloc | apply pw_below_drewN | apply below_drew1) | exact HB.out)⟩⟩
                      case round =>
                        clear H'
                        try clear c1
                        try clear p1
                        try clear q1
                        try clear hx1
                        try clear c2
                        try clear p2
                        try clear q2
                        try clear hx2
                        try clear c3
                        try clear p6
                        try clear c7
                        try clear c7b0
                        try clear c8
                        try clear c9
                        try clear c9b0
                        try clear c10
                        try clear c10b0
                        try clear p10
                        try clear q10
                        try clear hx10
                        try clear c11
                        try clear c20
                        try clear c20b0
                        try clear c21
                        try clear c21b0
                        try clear c22
                        try clear c22b0
                        try clear p23
                        try clear q23
                        try clear hx23
                        try clear hf23
                        try clear c32
                        try clear c32b0
                        try clear c33
                        try clear hcz13_0
                        try clear hcz13_1
                        try clear hcz17_0
                        try clear hcz17_1
                        try clear hcz19_0
                        try clear hcz19_1
                        try clear hcz24_0
                        try clear hcz24_1
                        try clear hcz27_0
                        try clear hcz27_1
                        try clear hfz13_0
                        try clear hfz13_1
                        try clear hfz17_0
                        try clear hfz17_1
                        try clear hfz19_0
                        try clear hfz19_1
                        try clear hfz24_0
                        try clear hfz24_1
                        try clear hfz27_0
                        try clear hfz27_1
                        try clear hx104_0
                        try clear hx104_1
                        try clear hx106_0
                        try clear hx106_1
                        try clear hx23_0
                        try clear p1
                        try clear p10
                        try clear p104
                        try clear p106
                        try clear p2
                        try clear p23
                        try clear p6
                        try clear q1
                        try clear q10
                        try clear q104
                        try clear q106
                        try clear q2
                        try clear q23
                        obtain ⟨x16_5, x17_5, rfl, rfl, HA, HK5, HO_7, HO_8, HB⟩ := hrel
                        cases gk with
                        | zero => exact absurd HA.out (by simp [credenzalaw18_PlaceFirst.l3])
                        | succ k5 =>
                          have H := HA.out
                          clear HA
                          simp only [credenzalaw18_PlaceFirst.l3] at H
                          by_cases c34 : x17_5 < (wrap64 (x15_3 + (wrap64 ((Int.tmod (Go.bits .and .i64 a1 255) 200) + 1))))
                          · rw [if_pos c34] at H
                            have c34b0 : decide (x17_5 < (wrap64 (x15_3 + (wrap64 ((Int.tmod (Go.bits .and .i64 a1 255) 200) + 1))))) = true := decide_eq_true c34
                            clear c34
                            by_cases c35 : x16_5 = true
                            · subst c35
                              have H1 : (if 0 ≤ x17_5 then (if x17_5 < (x8_1.length : Int) then (credenzalaw18_PlaceFirst.l3 k5 (wrap64 ((Int.tmod (Go.bits .and .i64 a1 255) 200) + 1)) a2 x7_1 x8_1 t111 t112 x14_3 x15_3 (rdOf false x8_1 x17_5) (wrap64 (x17_5 + 1))) else (none)) else (none)) = some r := by rw [if_pos rfl] at H; exact H
                              clear H
                              have H := H1
                              clear H1
                              by_cases c36 : 0 ≤ x17_5
                              · rw [if_pos c36] at H
                                have c36b0 : decide (0 ≤ x17_5) = true := decide_eq_true c36
                                clear c36
                                by_cases c37 : x17_5 < (x8_1.length : Int)
                                · rw [if_pos c37] at H
                                  have c37b0 : decide (x17_5 < (x8_1.length : Int)) = true := decide_eq_true c37
                                  clear c37
                                  have H' := Aside0.mk H
                                  clear H
                                  have p113 : 0 ≤ (x17_5 : Int) := of_decide_eq_true (by first | (with_reducible assumption) | assumption)
                                  have q113 : x17_5 < (x8_1.length : Int) := of_decide_eq_true (by first | (with_reducible assumption) | assumption)
                                  obtain ⟨ad113, e113, hx113_0⟩ := Kd.at_bool (Kd.R_reads' HO_8.out).2.2 x17_5 p113 q113
                                  obtain rfl : (⟨gv102, 0, none⟩ : Addr) = ad113 := (by injection e113)
                                  (first | simp only [add_plain] at hx113_0 | simp only [add_at] at hx113_0 | simp only [Addr.add, Nat.zero_add] at hx113_0 | skip)
                                  replace p113 := eq_true p113
                                  replace q113 := eq_true q113
                                  have q113' : (x17_5 < 1500) = True := eq_true (by have e_ := (Kd.R_reads' HO_8.out).1; have h_ := of_eq_true q113; omega)
                                  go_wp2
                                  go_roundg k5
                                  case measure => have := HK1.out; have := HJ5.out; have := HK3.out; have := HJ30.out; have := HK5.out; omega
                                  case rel => exact ⟨(rdOf false x8_1 x17_5), (wrap64 (x17_5 + 1)), (by first | rfl | (simp; done) | (simp [*]; done)), (by first | rfl | (simp; done) | (simp [*]; done)), H', ⟨by have := HK1.out; have := HJ5.out; have := HK3.out; have := HJ30.out; have := HK5.out; omega⟩, ⟨by (with_reducible repeat (first | apply Kd.R_alloc | apply Kd.R_drewN | apply Kd.R_drew)); exact HO_7.out⟩, ⟨by (with_reducible repeat (first | apply Kd.R_alloc | apply Kd.R_drewN | apply Kd.R_drew)); exact HO_8.out⟩, ⟨by repeat (first | (with_reducible first | exact HB.out | apply below_alloc | apply pw_below_drewN | apply below_drew1) | exact HB.out)⟩⟩
                                · rw [if_neg c37] at H
                                  exact absurd H (by simp)
                              · rw [if_neg c36] at H
                                exact absurd H (by simp)
                            · replace c35 := Bool.eq_false_iff.mpr c35
                              subst c35
                              have H1 : (credenzalaw18_PlaceFirst.l3 k5 (wrap64 ((Int.tmod (Go.bits .and .i64 a1 255) 200) + 1)) a2 x7_1 x8_1 t111 t112 x14_3 x15_3 false (wrap64 (x17_5 + 1))) = some r := by rw [if_neg (show ¬ (false = true) by decide)] at H; exact H
                              clear H
                              have H := H1
                              clear H1
                              have H' := Aside0.mk H
                              clear H
                              go_wp2
                              go_roundg k5
                              case measure => have := HK1.out; have := HJ5.out; have := HK3.out; have := HJ30.out; have := HK5.out; omega
                              case rel => exact ⟨(false), (wrap64 (x17_5 + 1)), (by first | rfl | (simp; done) | (simp [*]; done)), (by first | rfl | (simp; done) | (simp [*]; done)), H', ⟨by have := HK1.out; have := HJ5.out; have := HK3.out; have := HJ30.out; have := HK5.out; omega⟩, ⟨by (with_reducible repeat (first | apply Kd.R_alloc | apply Kd.R_drewN | apply Kd.R_drew)); exact HO_7.out⟩, ⟨by (with_reducible repeat (first | apply Kd.R_alloc | apply Kd.R_drewN | apply Kd.R_drew)); exact HO_8.out⟩, ⟨by repeat (first | (with_reducible first | exact HB.out | apply below_alloc | apply pw_below_drewN | apply below_drew1) | exact HB.out)⟩⟩
                          · rw [if_neg c34] at H
                            have c34b0 : decide (x17_5 < (wrap64 (x15_3 + (wrap64 ((Int.tmod (Go.bits .and .i64 a1 255) 200) + 1))))) = false := decide_eq_false c34
                            clear c34
                            by_cases c38 : x16_5 = true
                            · subst c38
                              have H1 : (credenzalaw18_PlaceFirst.l2 k5 (wrap64 ((Int.tmod (Go.bits .and .i64 a1 255) 200) + 1)) a2 x7_1 x8_1 t111 t112 x15_3 (wrap64 (x15_3 + 16))) = some r := by rw [if_pos rfl] at H; exact H
                              clear H
                              have H := H1
                              clear H1
                              have H' := Aside0.mk H
                              clear H
                              go_wp2
                              go_roundg k5
                              case measure => have := HK1.out; have := HJ5.out; have := HK3.out; have := HJ30.out; have := HK5.out; omega
                              case rel => exact ⟨(x15_3), (wrap64 (x15_3 + 16)), (by first | rfl | (simp; done) | (simp [*]; done)), (by first | rfl | (simp; done) | (simp [*]; done)), H', ⟨by have := HK1.out; have := HJ5.out; have := HK3.out; have := HJ30.out; have := HK5.out; omega⟩, ⟨by (with_reducible repeat (first | apply Kd.R_alloc | apply Kd.R_drewN | apply Kd.R_drew)); exact HO_7.out⟩, ⟨by (with_reducible repeat (first | apply Kd.R_alloc | apply Kd.R_drewN | apply Kd.R_drew)); exact HO_8.out⟩, ⟨by repeat (first | (with_reducible first | exact HB.out | apply below_alloc | apply pw_below_drewN | apply below_drew1) | exact HB.out)⟩⟩
                            · replace c38 := Bool.eq_false_iff.mpr c38
                              subst c38
                              have H1 : (credenzalaw18_PlaceFirst.l2 k5 (wrap64 ((Int.tmod (Go.bits .and .i64 a1 255) 200) + 1)) a2 x7_1 x8_1 t111 t112 x14_3 (wrap64 (x15_3 + 16))) = some r := by rw [if_neg (show ¬ (false = true) by decide)] at H; exact H
                              clear H
                              have H := H1
                              clear H1
                              have H' := Aside0.mk H
                              clear H
                              go_wp2
                              go_roundg k5
                              case measure => have := HK1.out; have := HJ5.out; have := HK3.out; have := HJ30.out; have := HK5.out; omega
                              case rel => exact ⟨(x14_3), (wrap64 (x15_3 + 16)), (by first | rfl | (simp; done) | (simp [*]; done)), (by first | rfl | (simp; done) | (simp [*]; done)), H', ⟨by have := HK1.out; have := HJ5.out; have := HK3.out; have := HJ30.out; have := HK5.out; omega⟩, ⟨by (with_reducible repeat (first | apply Kd.R_alloc | apply Kd.R_drewN | apply Kd.R_drew)); exact HO_7.out⟩, ⟨by (with_reducible repeat (first | apply Kd.R_alloc | apply Kd.R_drewN | apply Kd.R_drew)); exact HO_8.out⟩, ⟨by repeat (first | (with_reducible first | exact HB.out | apply below_alloc | apply pw_below_drewN | apply below_drew1) | exact HB.out)⟩⟩
                    · replace c33 := Bool.eq_false_iff.mpr c33
                      subst c33
                      have H1 : (if (t112 != (decide (x14_3 ≥ 0))) = true then (credenzalaw18_PlaceFirst.j6 kj30 (wrap64 ((Int.tmod (Go.bits .and .i64 a1 255) 200) + 1)) a2 x7_1 t111 t112 true) else (if t112 = true then (credenzalaw18_PlaceFirst.j6 kj30 (wrap64 ((Int.tmod (Go.bits .and .i64 a1 255) 200) + 1)) a2 x7_1 t111 t112 (t111 != x14_3)) else (credenzalaw18_PlaceFirst.j6 kj30 (wrap64 ((Int.tmod (Go.bits .and .i64 a1 255) 200) + 1)) a2 x7_1 t111 t112 false))) = some r := by rw [if_neg (show ¬ (false = true) by decide)] at H; exact H
                      clear H
                      have H := H1
                      clear H1
                      have HC39 := Aside0.mk H
                      clear H
                      go_upto_region 26 with (fail)
                      go_cut [106] (fun v106 wc => ∃ (kq : Nat) (x106_38 : Bool), v106 = .bool x106_38 ∧ Aside0 (credenzalaw18_PlaceFirst.j6 kq (wrap64 ((Int.tmod (Go.bits .and .i64 a1 255) 200) + 1)) a2 x7_1 t111 t112 x106_38 = some r) ∧ Aside0 (kq ≤ kj30) ∧ Aside0 (Kd.R k25 25 wc w.heap.size (fun _ => True) (.slice Ao29 x7_1.length co29) x7_1) ∧ Aside0 (Below w.heap.size w wc))
                      case first =>
                        have H := HC39.out
                        clear HC39
                        by_cases c40 : (t112 != (decide (x14_3 ≥ 0))) = true
                        · rw [if_pos c40] at H
                          have c40b0 : (t112 != (decide (x14_3 ≥ 0))) = true := c40
                          (try (have c40b1 : decide (t112 = (decide (x14_3 ≥ 0))) = false := by simpa using c40))
                          (try (have c40b2 : (t112 == (decide (x14_3 ≥ 0))) = false := by simpa using c40))
                          (try (have c40b3 : ¬ (t112 = (decide (x14_3 ≥ 0))) := by simpa using c40))
                          clear c40
                          (first | rw [c40b0] | (simp only [i64_w, i32_w]; rw [c40b0]) | skip)
                          have H' := Aside0.mk H
                          clear H
                          go_wp2
                          go_meet
                          case rel => exact ⟨_, (true), (by first | rfl | (simp; done) | (simp [*]; done)), H', ⟨by have := HK1.out; have := HJ5.out; have := HK3.out; have := HJ30.out; first | omega | exact Nat.le_refl _⟩, ⟨by (with_reducible repeat (first | apply Kd.R_alloc | apply Kd.R_drewN | apply Kd.R_drew)); exact HO_7.out⟩, ⟨by repeat (first | (with_reducible first | exact HB.out | apply below_alloc | apply pw_below_drewN | apply below_drew1) | exact HB.out)⟩⟩
                        · rw [if_neg c40] at H
                          have c40b0 : (t112 != (decide (x14_3 ≥ 0))) = false := by simpa using c40
                          (try (have c40b1 : decide (t112 = (decide (x14_3 ≥ 0))) = true := by simpa using c40))
                          (try (have c40b2 : (t112 == (decide (x14_3 ≥ 0))) = true := by simpa using c40))
                          clear c40
                          (first | rw [c40b0] | (simp only [i64_w, i32_w]; rw [c40b0]) | skip)
                          by_cases c41 : t112 = true
                          · subst c41
                            have H1 : (credenzalaw18_PlaceFirst.j6 kj30 (wrap64 ((Int.tmod (Go.bits .and .i64 a1 255) 200) + 1)) a2 x7_1 t111 true (t111 != x14_3)) = some r := by rw [if_pos rfl] at H; exact H
                            clear H
                            have H := H1
                            clear H1
                            have H' := Aside0.mk H
                            clear H
                            go_wp2
                            go_meet
                            case rel => exact ⟨_, ((t111 != x14_3)), (by first | rfl | (simp; done) | (simp [*]; done)), H', ⟨by have := HK1.out; have := HJ5.out; have := HK3.out; have := HJ30.out; first | omega | exact Nat.le_refl _⟩, ⟨by (with_reducible repeat (first | apply Kd.R_alloc | apply Kd.R_drewN | apply Kd.R_drew)); exact HO_7.out⟩, ⟨by repeat (first | (with_reducible first | exact HB.out | apply below_alloc | apply pw_below_drewN | apply below_drew1) | exact HB.out)⟩⟩
                          · replace c41 := Bool.eq_false_iff.mpr c41
                            subst c41
                            have H1 : (credenzalaw18_PlaceFirst.j6 kj30 (wrap64 ((Int.tmod (Go.bits .and .i64 a1 255) 200) + 1)) a2 x7_1 t111 false false) = some r := by rw [if_neg (show ¬ (false = true) by decide)] at H; exact H
                            clear H
                            have H := H1
                            clear H1
                            have H' := Aside0.mk H
                            clear H
                            go_wp2
                            go_meet
                            case rel => exact ⟨_, (false), (by first | rfl | (simp; done) | (simp [*]; done)), H', ⟨by have := HK1.out; have := HJ5.out; have := HK3.out; have := HJ30.out; first | omega | exact Nat.le_refl _⟩, ⟨by (with_reducible repeat (first | apply Kd.R_alloc | apply Kd.R_drewN | apply Kd.R_drew)); exact HO_7.out⟩, ⟨by repeat (first | (with_reducible first | exact HB.out | apply below_alloc | apply pw_below_drewN | apply below_drew1) | exact HB.out)⟩⟩
                      case rest =>
                        clear HC39
                        try clear c1
                        try clear p1
                        try clear q1
                        try clear hx1
                        try clear c2
                        try clear p2
                        try clear q2
                        try clear hx2
                        try clear c3
                        try clear c4
                        try clear p6
                        try clear c7
                        try clear c7b0
                        try clear c8
                        try clear c9
                        try clear c9b0
                        try clear c10
                        try clear c10b0
                        try clear p10
                        try clear q10
                        try clear hx10
                        try clear c11
                        try clear p11
                        try clear q11
                        try clear hx11
                        try clear c20
                        try clear c20b0
                        try clear c21
                        try clear c21b0
                        try clear c22
                        try clear c22b0
                        try clear p23
                        try clear q23
                        try clear hx23
                        try clear hf23
                        try clear c32
                        try clear c32b0
                        try clear c33
                        try clear c34
                        try clear c34b0
                        try clear c35
                        try clear c36
                        try clear c36b0
                        try clear c37
                        try clear c37b0
                        try clear c38
                        try clear c40
                        try clear c40b0
                        try clear c40b1
                        try clear c40b2
                        try clear c41
                        try clear hcz13_0
                        try clear hcz13_1
                        try clear hcz17_0
                        try clear hcz17_1
                        try clear hcz19_0
                        try clear hcz19_1
                        try clear hcz24_0
                        try clear hcz24_1
                        try clear hcz27_0
                        try clear hcz27_1
                        try clear hfz13_0
                        try clear hfz13_1
                        try clear hfz17_0
                        try clear hfz17_1
                        try clear hfz19_0
                        try clear hfz19_1
                        try clear hfz24_0
                        try clear hfz24_1
                        try clear hfz27_0
                        try clear hfz27_1
                        try clear hx104_0
                        try clear hx104_1
                        try clear hx106_0
                        try clear hx106_1
                        try clear hx113_0
                        try clear hx23_0
                        try clear p1
                        try clear p10
                        try clear p104
                        try clear p106
                        try clear p113
                        try clear p2
                        try clear p23
                        try clear p6
                        try clear q1
                        try clear q10
                        try clear q104
                        try clear q106
                        try clear q113
                        try clear q2
                        try clear q23
                        obtain ⟨kq, x106_38, rfl, HA, HJ38, HO_7, HB⟩ := hcut
                        cases kq with
                        | zero => exact absurd HA.out (by simp [credenzalaw18_PlaceFirst.j6])
                        | succ kj38 =>
                          have H := HA.out
                          clear HA
                          simp only [credenzalaw18_PlaceFirst.j6] at H
                          by_cases c42 : x106_38 = true
                          · subst c42
                            have H1 : (some false) = some r := by rw [if_pos rfl] at H; exact H
                            clear H
                            have H := H1
                            clear H1
                            obtain rfl := Option.some.inj H
                            go_wp2
                            go_ret
                            exact ⟨by first | rfl | (simp [errW_none, errW_some] <;> rfl) | (simp [*, errW_none, errW_some] <;> rfl), by repeat (first | (with_reducible first | exact HB.out | apply below_alloc | apply pw_below_drewN | apply below_drew1) | exact HB.out)⟩
                          · replace c42 := Bool.eq_false_iff.mpr c42
                            subst c42
                            have H1 : (if t112 = true then (if (wrap64 ((Int.tmod (Go.bits .and .i64 a1 255) 200) + 1)) = 0 then (none) else ((place_Find.f kj38 x7_1 (wrap64 ((Int.tmod (Go.bits .and .i64 a2 255) (wrap64 ((Int.tmod (Go.bits .and .i64 a1 255) 200) + 1))) + 1))).bind fun bt114 => (if bt114.2 = true then (if bt114.1 ≤ t111 then ((credenzalaw18_awake.f kj38).bind fun t116 => (some t116)) else (some false)) else (some false)))) else (if t111 = 0 then ((credenzalaw18_awake.f kj38).bind fun t117 => (some t117)) else (some false))) = some r := by rw [if_neg (show ¬ (false = true) by decide)] at H; exact H
                            clear H
                            have H := H1
                            clear H1
                            by_cases c43 : t112 = true
                            · subst c43
                              have H1 : (if (wrap64 ((Int.tmod (Go.bits .and .i64 a1 255) 200) + 1)) = 0 then (none) else ((place_Find.f kj38 x7_1 (wrap64 ((Int.tmod (Go.bits .and .i64 a2 255) (wrap64 ((Int.tmod (Go.bits .and .i64 a1 255) 200) + 1))) + 1))).bind fun bt114 => (if bt114.2 = true then (if bt114.1 ≤ t111 then ((credenzalaw18_awake.f kj38).bind fun t116 => (some t116)) else (some false)) else (some false)))) = some r := by rw [if_pos rfl] at H; exact H
                              clear H
                              have H := H1
                              clear H1
                              by_cases c44 : (wrap64 ((Int.tmod (Go.bits .and .i64 a1 255) 200) + 1)) = 0
                              · rw [if_pos c44] at H
                                exact absurd H (by simp)
                              · rw [if_neg c44] at H
                                have c44b0 : ((wrap64 ((Int.tmod (Go.bits .and .i64 a1 255) 200) + 1)) == 0) = false := beq_eq_false_iff_ne.mpr c44
                                have c44b1 : ((wrap64 ((Int.tmod (Go.bits .and .i64 a1 255) 200) + 1)) != 0) = true := bne_iff_ne.mpr c44
                                replace H := Option.bind_eq_some_iff.mp H
                                obtain ⟨⟨t114, t115⟩, A450, H⟩ := H
                                replace H : (if t115 = true then (if t114 ≤ t111 then ((credenzalaw18_awake.f kj38).bind fun t116 => (some t116)) else (some false)) else (some false)) = some r := H
                                have A45 := Aside0.mk A450
                                clear A450
                                by_cases c46 : t115 = true
                                · subst c46
                                  have H1 : (if t114 ≤ t111 then ((credenzalaw18_awake.f kj38).bind fun t116 => (some t116)) else (some false)) = some r := by rw [if_pos rfl] at H; exact H
                                  clear H
                                  have H := H1
                                  clear H1
                                  by_cases c47 : t114 ≤ t111
                                  · rw [if_pos c47] at H
                                    have c47b0 : decide (t114 ≤ t111) = true := decide_eq_true c47
                                    clear c47
                                    replace H := Option.bind_eq_some_iff.mp H
                                    obtain ⟨t116, A480, H⟩ := H
                                    replace H : (some t116) = some r := H
                                    have A48 := Aside0.mk A480
                                    clear A480
                                    obtain rfl := Option.some.inj H
                                    go_wp2_with (first | ((with_reducible refine gate_callee (f := 7) rfl ?_); refine goesL_ (some 115) rfl rfl Try.func7 (by kernel_rfl) rfl #[.slice Ao29 x7_1.length co29, .int .i64 (wrap64 ((Int.tmod (Go.bits .and .i64 a2 255) (wrap64 ((Int.tmod (Go.bits .and .i64 a1 255) 200) + 1))) + 1))] rfl (by (try simp only [List.map_toArray, List.map_cons, List.map_nil]); first | done | rfl | (simp only [List.length_drop, List.length_take]; rfl)) ?_; (with_reducible refine (place_Find.calls kj38 _ _ x7_1 (wrap64 ((Int.tmod (Go.bits .and .i64 a2 255) (wrap64 ((Int.tmod (Go.bits .and .i64 a1 255) 200) + 1))) + 1)) t114 true _ ?side1 ?side2 A45.out).mono ?_); (case side1 => repeat (first | exact (Kd.R_reads' HO_7.out).2.2 | (with_reducible refine Kd.C_alloc ?_ _) | (with_reducible refine Kd.C_drewN ?_ _) | (with_reducible refine Kd.C_drew ?_))); (case side2 => exact (Kd.R_reads' HO_7.out).2.1); rintro e w49 ⟨rfl, hb⟩; refine ⟨_, rfl, ?_⟩; have n0_ := Aside0.mk (Kd.R_below (by (with_reducible repeat (first | apply Kd.R_alloc | apply Kd.R_drewN | apply Kd.R_drew)); exact HO_7.out) hb); have n1_ := Aside0.mk (below_step (by repeat (first | (with_reducible first | exact HB.out | apply below_alloc | apply pw_below_drewN | apply below_drew1) | exact HB.out)) hb); clear HO_7; clear HB; have HO_7 := n0_; have HB := n1_; clear n0_ n1_; (try clear hb); (try clear hb2); (try clear hk); (try clear hi)) | (go_at_call 8; (with_reducible refine (credenzalaw18_awake.calls kj38  t116 _ A48.out).mono ?_); rintro e w50 ⟨rfl, hb⟩; have n0_ := Aside0.mk (Kd.R_below (by (with_reducible repeat (first | apply Kd.R_alloc | apply Kd.R_drewN | apply Kd.R_drew)); exact HO_7.out) hb); have n1_ := Aside0.mk (below_step (by repeat (first | (with_reducible first | exact HB.out | apply below_alloc | apply pw_below_drewN | apply below_drew1) | exact HB.out)) hb); clear HO_7; clear HB; have HO_7 := n0_; have HB := n1_; clear n0_ n1_; (try clear hb); (try clear hb2); (try clear hk); (try clear hi)))
                                    go_ret
                                    exact ⟨by first | rfl | (simp [errW_none, errW_some] <;> rfl) | (simp [*, errW_none, errW_some] <;> rfl), by repeat (first | (with_reducible first | exact HB.out | apply below_alloc | apply pw_below_drewN | apply below_drew1) | exact HB.out)⟩
                                  · rw [if_neg c47] at H
                                    have c47b0 : decide (t114 ≤ t111) = false := decide_eq_false c47
                                    clear c47
                                    obtain rfl := Option.some.inj H
                                    go_wp2_with (first | ((with_reducible refine gate_callee (f := 7) rfl ?_); refine goesL_ (some 115) rfl rfl Try.func7 (by kernel_rfl) rfl #[.slice Ao29 x7_1.length co29, .int .i64 (wrap64 ((Int.tmod (Go.bits .and .i64 a2 255) (wrap64 ((Int.tmod (Go.bits .and .i64 a1 255) 200) + 1))) + 1))] rfl (by (try simp only [List.map_toArray, List.map_cons, List.map_nil]); first | done | rfl | (simp only [List.length_drop, List.length_take]; rfl)) ?_; (with_reducible refine (place_Find.calls kj38 _ _ x7_1 (wrap64 ((Int.tmod (Go.bits .and .i64 a2 255) (wrap64 ((Int.tmod (Go.bits .and .i64 a1 255) 200) + 1))) + 1)) t114 true _ ?side1 ?side2 A45.out).mono ?_); (case side1 => repeat (first | exact (Kd.R_reads' HO_7.out).2.2 | (with_reducible refine Kd.C_alloc ?_ _) | (with_reducible refine Kd.C_drewN ?_ _) | (with_reducible refine Kd.C_drew ?_))); (case side2 => exact (Kd.R_reads' HO_7.out).2.1); rintro e w51 ⟨rfl, hb⟩; refine ⟨_, rfl, ?_⟩; have n0_ := Aside0.mk (Kd.R_below (by (with_reducible repeat (first | apply Kd.R_alloc | apply Kd.R_drewN | apply Kd.R_drew)); exact HO_7.out) hb); have n1_ := Aside0.mk (below_step (by repeat (first | (with_reducible first | exact HB.out | apply below_alloc | apply pw_below_drewN | apply below_drew1) | exact HB.out)) hb); clear HO_7; clear HB; have HO_7 := n0_; have HB := n1_; clear n0_ n1_; (try clear hb); (try clear hb2); (try clear hk); (try clear hi)))
                                    go_ret
                                    exact ⟨by first | rfl | (simp [errW_none, errW_some] <;> rfl) | (simp [*, errW_none, errW_some] <;> rfl), by repeat (first | (with_reducible first | exact HB.out | apply below_alloc | apply pw_below_drewN | apply below_drew1) | exact HB.out)⟩
                                · replace c46 := Bool.eq_false_iff.mpr c46
                                  subst c46
                                  have H1 : (some false) = some r := by rw [if_neg (show ¬ (false = true) by decide)] at H; exact H
                                  clear H
                                  have H := H1
                                  clear H1
                                  obtain rfl := Option.some.inj H
                                  go_wp2_with (first | ((with_reducible refine gate_callee (f := 7) rfl ?_); refine goesL_ (some 115) rfl rfl Try.func7 (by kernel_rfl) rfl #[.slice Ao29 x7_1.length co29, .int .i64 (wrap64 ((Int.tmod (Go.bits .and .i64 a2 255) (wrap64 ((Int.tmod (Go.bits .and .i64 a1 255) 200) + 1))) + 1))] rfl (by (try simp only [List.map_toArray, List.map_cons, List.map_nil]); first | done | rfl | (simp only [List.length_drop, List.length_take]; rfl)) ?_; (with_reducible refine (place_Find.calls kj38 _ _ x7_1 (wrap64 ((Int.tmod (Go.bits .and .i64 a2 255) (wrap64 ((Int.tmod (Go.bits .and .i64 a1 255) 200) + 1))) + 1)) t114 false _ ?side1 ?side2 A45.out).mono ?_); (case side1 => repeat (first | exact (Kd.R_reads' HO_7.out).2.2 | (with_reducible refine Kd.C_alloc ?_ _) | (with_reducible refine Kd.C_drewN ?_ _) | (with_reducible refine Kd.C_drew ?_))); (case side2 => exact (Kd.R_reads' HO_7.out).2.1); rintro e w52 ⟨rfl, hb⟩; refine ⟨_, rfl, ?_⟩; have n0_ := Aside0.mk (Kd.R_below (by (with_reducible repeat (first | apply Kd.R_alloc | apply Kd.R_drewN | apply Kd.R_drew)); exact HO_7.out) hb); have n1_ := Aside0.mk (below_step (by repeat (first | (with_reducible first | exact HB.out | apply below_alloc | apply pw_below_drewN | apply below_drew1) | exact HB.out)) hb); clear HO_7; clear HB; have HO_7 := n0_; have HB := n1_; clear n0_ n1_; (try clear hb); (try clear hb2); (try clear hk); (try clear hi)))
                                  go_ret
                                  exact ⟨by first | rfl | (simp [errW_none, errW_some] <;> rfl) | (simp [*, errW_none, errW_some] <;> rfl), by repeat (first | (with_reducible first | exact HB.out | apply below_alloc | apply pw_below_drewN | apply below_drew1) | exact HB.out)⟩
                            · replace c43 := Bool.eq_false_iff.mpr c43
                              subst c43
                              have H1 : (if t111 = 0 then ((credenzalaw18_awake.f kj38).bind fun t117 => (some t117)) else (some false)) = some r := by rw [if_neg (show ¬ (false = true) by decide)] at H; exact H
                              clear H
                              have H := H1
                              clear H1
                              by_cases c53 : t111 = 0
                              · rw [if_pos c53] at H
                                have c53b0 : (t111 == 0) = true := beq_iff_eq.mpr c53
                                have c53b1 : (t111 != 0) = false := bne_eq_false_iff_eq.mpr c53
                                clear c53
                                replace H := Option.bind_eq_some_iff.mp H
                                obtain ⟨t117, A540, H⟩ := H
                                replace H : (some t117) = some r := H
                                have A54 := Aside0.mk A540
                                clear A540
                                obtain rfl := Option.some.inj H
                                go_wp2_with (first | (go_at_call 8; (with_reducible refine (credenzalaw18_awake.calls kj38  t117 _ A54.out).mono ?_); rintro e w55 ⟨rfl, hb⟩; have n0_ := Aside0.mk (Kd.R_below (by (with_reducible repeat (first | apply Kd.R_alloc | apply Kd.R_drewN | apply Kd.R_drew)); exact HO_7.out) hb); have n1_ := Aside0.mk (below_step (by repeat (first | (with_reducible first | exact HB.out | apply below_alloc | apply pw_below_drewN | apply below_drew1) | exact HB.out)) hb); clear HO_7; clear HB; have HO_7 := n0_; have HB := n1_; clear n0_ n1_; (try clear hb); (try clear hb2); (try clear hk); (try clear hi)))
                                go_ret
                                exact ⟨by first | rfl | (simp [errW_none, errW_some] <;> rfl) | (simp [*, errW_none, errW_some] <;> rfl), by repeat (first | (with_reducible first | exact HB.out | apply below_alloc | apply pw_below_drewN | apply below_drew1) | exact HB.out)⟩
                              · rw [if_neg c53] at H
                                have c53b0 : (t111 == 0) = false := beq_eq_false_iff_ne.mpr c53
                                have c53b1 : (t111 != 0) = true := bne_iff_ne.mpr c53
                                obtain rfl := Option.some.inj H
                                go_wp2
                                go_ret
                                exact ⟨by first | rfl | (simp [errW_none, errW_some] <;> rfl) | (simp [*, errW_none, errW_some] <;> rfl), by repeat (first | (with_reducible first | exact HB.out | apply below_alloc | apply pw_below_drewN | apply below_drew1) | exact HB.out)⟩

end Go.Proofs.Yticjkhkmbinmgaa.UFirst

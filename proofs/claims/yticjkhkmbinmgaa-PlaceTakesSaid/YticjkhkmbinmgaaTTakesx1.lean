-- Laid by a program of this session out of the translation (the kit's printing program, with some contracts given by hand). Lean checks it.
import Derived.Test.YticjkhkmbinmgaaTTakesx0
namespace Go.Proofs.Yticjkhkmbinmgaa.TTakes
open Go.Proofs.Yticjkhkmbinmgaa.QClean Go.Proofs.Yticjkhkmbinmgaa.GivenA Go.Proofs.Yticjkhkmbinmgaa.RPlace Go.Proofs.Yticjkhkmbinmgaa.STells Go.Proofs.Yticjkhkmbinmgaa.GivenF Go.RowKit Go.Proofs.YticjkhkmbinmgaaW.PrintWords Go.Proofs.YticjkhkmbinmgaaW.PrintLast Go.Proofs.YticjkhkmbinmgaaW.PrintMore
attribute [local go_sem] max2_int min2_int max_two min_two max_three min_three max_four min_four   -- for this text's walks alone
set_option linter.unusedVariables false
set_option linter.unusedSimpArgs false

/-! ### credenzalaw18_PlaceTakes_1: function 17 -/
def credenzalaw18_PlaceTakes_1.l0 : Nat → List (S25) → Int → Int → Option (Bool)
  | 0, _, _, _ => none
  | k + 1, x0, x1, x5 => if x5 < (x0.length : Int) then (if 0 ≤ x5 then (if x1 ≥ ((rd_T25 x0 x5).f0) then (if x1 < ((rd_T25 x0 x5).f1) then (some true) else (credenzalaw18_PlaceTakes_1.l0 k x0 x1 (wrap64 (x5 + 1)))) else (credenzalaw18_PlaceTakes_1.l0 k x0 x1 (wrap64 (x5 + 1)))) else (none)) else (some false)
def credenzalaw18_PlaceTakes_1.f (k : Nat) (l0 : List (S25)) (a1 : Int) : Option (Bool) := credenzalaw18_PlaceTakes_1.l0 k l0 a1 0
theorem credenzalaw18_PlaceTakes_1.mono_l : ∀ k, (∀ y0 y1 y2, LeO (credenzalaw18_PlaceTakes_1.l0 k y0 y1 y2) (credenzalaw18_PlaceTakes_1.l0 (k + 1) y0 y1 y2))
  | 0 => fun _ _ _ r h => by simp [credenzalaw18_PlaceTakes_1.l0] at h
  | k + 1 => by
    have ih0 := credenzalaw18_PlaceTakes_1.mono_l k
    · intro y0 y1 y2
      unfold credenzalaw18_PlaceTakes_1.l0
      repeat' first
      | (with_reducible exact ih0 _ _ _)
      | (with_reducible exact LeO.refl _)
      | (with_reducible exact LeO.none _)
      | (with_reducible refine LeO.ite ?_ ?_)
      | (with_reducible refine LeO.bind ?_ (fun _ => ?_))
      | exact ih0 _ _ _
      | exact LeO.none _
      | refine LeO.ite ?_ ?_
      | refine LeO.bind ?_ (fun _ => ?_)
theorem credenzalaw18_PlaceTakes_1.mono : ∀ a0 a1 k, LeO (credenzalaw18_PlaceTakes_1.f k a0 a1) (credenzalaw18_PlaceTakes_1.f (k + 1) a0 a1) := by
  intro a0 a1 k
  have ih0 := credenzalaw18_PlaceTakes_1.mono_l k
  unfold credenzalaw18_PlaceTakes_1.f
  repeat' first
      | (with_reducible exact ih0 _ _ _)
      | (with_reducible exact LeO.refl _)
      | (with_reducible exact LeO.none _)
      | (with_reducible refine LeO.ite ?_ ?_)
      | (with_reducible refine LeO.bind ?_ (fun _ => ?_))
      | exact ih0 _ _ _
      | exact LeO.none _
      | refine LeO.ite ?_ ?_
      | refine LeO.bind ?_ (fun _ => ?_)
set_option maxHeartbeats 8000000 in
set_option maxRecDepth 100000 in
theorem credenzalaw18_PlaceTakes_1.calls (k : Nat) (A0 : Option Addr) (c0 : Nat) (l0 : List (S25)) (a1 : Int) (r : Bool) (w : World) (hr0 : Kd.C k25 w A0 l0.length l0) (hc0 : l0.length ≤ c0) (h : credenzalaw18_PlaceTakes_1.f k l0 a1 = some r) :
    Calls Try.prog 17 #[.slice A0 l0.length c0, .int .i64 a1] w fun e w' => e = .returned (.bool r) ∧ Drawn0 w w' := by
  have HR0 := Aside0.mk hr0
  have HC0 := Aside0.mk hc0
  clear hr0 hc0
  have H : (credenzalaw18_PlaceTakes_1.l0 k l0 a1 0) = some r := h
  clear h
  have H' := Aside0.mk H
  clear H
  go_enter Try.func17, Try.ntmps17
  go_wp2
  go_loopg [5] k (fun kq v5 w' => ∃ (x5_1 : Int), v5 = .int .i64 x5_1 ∧ Aside0 (credenzalaw18_PlaceTakes_1.l0 kq l0 a1 x5_1 = some r) ∧ Aside0 (kq ≤ k) ∧ Drawn0 w w')
  case atStart => exact ⟨(0), (by first | rfl | (simp; done) | (simp [*]; done)), H', ⟨Nat.le_refl _⟩, by repeat (first | exact Drawn0.refl _ | apply Drawn0.step)⟩
  case round =>
    clear H'
    try clear c1
    try clear p2
    obtain ⟨x5_1, rfl, HA, HK1, ⟨m1, rfl⟩⟩ := hrel
    cases gk with
    | zero => exact absurd HA.out (by simp [credenzalaw18_PlaceTakes_1.l0])
    | succ k1 =>
      have H := HA.out
      clear HA
      simp only [credenzalaw18_PlaceTakes_1.l0] at H
      by_cases c3 : x5_1 < (l0.length : Int)
      · rw [if_pos c3] at H
        have c3b0 : decide (x5_1 < (l0.length : Int)) = true := decide_eq_true c3
        clear c3
        by_cases c4 : 0 ≤ x5_1
        · rw [if_pos c4] at H
          have c4b0 : decide (0 ≤ x5_1) = true := decide_eq_true c4
          clear c4
          by_cases c5 : a1 ≥ ((rd_T25 l0 x5_1).f0)
          · rw [if_pos c5] at H
            have c5b0 : decide (((rd_T25 l0 x5_1).f0) ≤ a1) = true := decide_eq_true c5
            clear c5
            by_cases c6 : a1 < ((rd_T25 l0 x5_1).f1)
            · rw [if_pos c6] at H
              have c6b0 : decide (a1 < ((rd_T25 l0 x5_1).f1)) = true := decide_eq_true c6
              clear c6
              obtain rfl := Option.some.inj H
              have p101 : 0 ≤ (x5_1 : Int) := of_decide_eq_true (by first | (with_reducible assumption) | assumption)
              have q101 : x5_1 < (l0.length : Int) := of_decide_eq_true (by first | (with_reducible assumption) | assumption)
              obtain ⟨ad101, e101, hx101_0, hx101_1⟩ := at_T25 HR0.out x5_1 p101 q101
              cases e101
              replace p101 := eq_true p101
              replace q101 := eq_true q101
              have p102 : 0 ≤ (x5_1 : Int) := of_decide_eq_true (by first | (with_reducible assumption) | assumption)
              have q102 : x5_1 < (l0.length : Int) := of_decide_eq_true (by first | (with_reducible assumption) | assumption)
              obtain ⟨ad102, e102, hx102_0, hx102_1⟩ := at_T25 HR0.out x5_1 p102 q102
              obtain rfl : ad101 = ad102 := (by injection e102)
              replace p102 := eq_true p102
              replace q102 := eq_true q102
              go_wp2
              go_ret
              exact ⟨by first | rfl | (simp; done) | (simp [*]; done), by repeat (first | exact Drawn0.refl _ | apply Drawn0.step)⟩
            · rw [if_neg c6] at H
              have c6b0 : decide (a1 < ((rd_T25 l0 x5_1).f1)) = false := decide_eq_false c6
              clear c6
              have H' := Aside0.mk H
              clear H
              have p101 : 0 ≤ (x5_1 : Int) := of_decide_eq_true (by first | (with_reducible assumption) | assumption)
              have q101 : x5_1 < (l0.length : Int) := of_decide_eq_true (by first | (with_reducible assumption) | assumption)
              obtain ⟨ad101, e101, hx101_0, hx101_1⟩ := at_T25 HR0.out x5_1 p101 q101
              cases e101
              replace p101 := eq_true p101
              replace q101 := eq_true q101
              have p102 : 0 ≤ (x5_1 : Int) := of_decide_eq_true (by first | (with_reducible assumption) | assumption)
              have q102 : x5_1 < (l0.length : Int) := of_decide_eq_true (by first | (with_reducible assumption) | assumption)
              obtain ⟨ad102, e102, hx102_0, hx102_1⟩ := at_T25 HR0.out x5_1 p102 q102
              obtain rfl : ad101 = ad102 := (by injection e102)
              replace p102 := eq_true p102
              replace q102 := eq_true q102
              go_wp2
              go_roundg k1
              case measure => have := HK1.out; omega
              case rel => exact ⟨(wrap64 (x5_1 + 1)), (by first | rfl | (simp; done) | (simp [*]; done)), H', ⟨by have := HK1.out; omega⟩, by repeat (first | exact Drawn0.refl _ | apply Drawn0.step)⟩
          · rw [if_neg c5] at H
            have c5b0 : decide (((rd_T25 l0 x5_1).f0) ≤ a1) = false := decide_eq_false c5
            clear c5
            have H' := Aside0.mk H
            clear H
            have p101 : 0 ≤ (x5_1 : Int) := of_decide_eq_true (by first | (with_reducible assumption) | assumption)
            have q101 : x5_1 < (l0.length : Int) := of_decide_eq_true (by first | (with_reducible assumption) | assumption)
            obtain ⟨ad101, e101, hx101_0, hx101_1⟩ := at_T25 HR0.out x5_1 p101 q101
            cases e101
            replace p101 := eq_true p101
            replace q101 := eq_true q101
            go_wp2
            go_roundg k1
            case measure => have := HK1.out; omega
            case rel => exact ⟨(wrap64 (x5_1 + 1)), (by first | rfl | (simp; done) | (simp [*]; done)), H', ⟨by have := HK1.out; omega⟩, by repeat (first | exact Drawn0.refl _ | apply Drawn0.step)⟩
        · rw [if_neg c4] at H
          exact absurd H (by simp)
      · rw [if_neg c3] at H
        have c3b0 : decide (x5_1 < (l0.length : Int)) = false := decide_eq_false c3
        clear c3
        obtain rfl := Option.some.inj H
        go_wp2
        go_ret
        exact ⟨by first | rfl | (simp; done) | (simp [*]; done), by repeat (first | exact Drawn0.refl _ | apply Drawn0.step)⟩

/-! ### credenzalaw18_PlaceTakes: function 6 -/
mutual
def credenzalaw18_PlaceTakes.j1 : Nat → List (S25) → Int → Int → Option (Bool)
  | 0, _, _, _ => none
  | k + 1, x5, x104000, x104001 => (place_Take.f k x5 (Go.bits .and .i64 x104000 1023) (Go.bits .and .i64 x104001 1023)).bind fun t110 => (credenzalaw18_PlaceTakes.l1 k x5 t110 0 (Go.bits .and .i64 x104000 1023) (Go.bits .and .i64 x104001 1023))
def credenzalaw18_PlaceTakes.l1 : Nat → List (S25) → List (S25) → Int → Int → Int → Option (Bool)
  | 0, _, _, _, _, _ => none
  | k + 1, x5, x8, x10, x104000, x104001 => if x10 < 1100 then ((credenzalaw18_PlaceTakes_1.f k x8 x10).bind fun t118 => ((credenzalaw18_PlaceTakes_1.f k x5 x10).bind fun t119 => (if t119 = true then (if x10 ≥ x104000 then (if (t118 != (!(decide (x10 < x104001)))) = true then (some false) else (credenzalaw18_PlaceTakes.l1 k x5 x8 (wrap64 (x10 + 1)) x104000 x104001)) else (if (t118 != (!false)) = true then (some false) else (credenzalaw18_PlaceTakes.l1 k x5 x8 (wrap64 (x10 + 1)) x104000 x104001))) else (if (t118 != false) = true then (some false) else (credenzalaw18_PlaceTakes.l1 k x5 x8 (wrap64 (x10 + 1)) x104000 x104001))))) else ((place_Take.f k x8 x104000 x104001).bind fun t113 => ((credenzalaw18_same.f k t113 x8).bind fun t116 => (if t116 = true then ((credenzalaw18_awake.f k).bind fun t117 => (some t117)) else (some false))))
def credenzalaw18_PlaceTakes.l0 : Nat → List (S25) → List (S25) → Int → Int → Int → Option (Bool)
  | 0, _, _, _, _, _ => none
  | k + 1, x0, x5, x6, x104000, x104001 => if x6 < (x0.length : Int) then (if x6 < 12 then (if 0 ≤ x6 then (if x5.length < 8796093022208 then (credenzalaw18_PlaceTakes.l0 k x0 (x5 ++ [(⟨Go.bits .and .i64 ((rd_T25 x0 x6).f0) 1023, wrap64 ((Go.bits .and .i64 ((rd_T25 x0 x6).f0) 1023) + (Go.bits .and .i64 ((rd_T25 x0 x6).f1) 63))⟩ : S25)]) (wrap64 (x6 + 1)) x104000 x104001) else (none)) else (none)) else (credenzalaw18_PlaceTakes.j1 k x5 x104000 x104001)) else (credenzalaw18_PlaceTakes.j1 k x5 x104000 x104001)
end
def credenzalaw18_PlaceTakes.f (k : Nat) (l0 : List (S25)) (a1_0 : Int) (a1_1 : Int) : Option (Bool) := credenzalaw18_PlaceTakes.l0 k l0 ([] : List (S25)) 0 a1_0 a1_1
theorem credenzalaw18_PlaceTakes.mono_l : ∀ k, (∀ y0 y1 y2, LeO (credenzalaw18_PlaceTakes.j1 k y0 y1 y2) (credenzalaw18_PlaceTakes.j1 (k + 1) y0 y1 y2)) ∧ (∀ y0 y1 y2 y3 y4, LeO (credenzalaw18_PlaceTakes.l1 k y0 y1 y2 y3 y4) (credenzalaw18_PlaceTakes.l1 (k + 1) y0 y1 y2 y3 y4)) ∧ (∀ y0 y1 y2 y3 y4, LeO (credenzalaw18_PlaceTakes.l0 k y0 y1 y2 y3 y4) (credenzalaw18_PlaceTakes.l0 (k + 1) y0 y1 y2 y3 y4))
  | 0 => ⟨fun _ _ _ r h => by simp [credenzalaw18_PlaceTakes.j1] at h, fun _ _ _ _ _ r h => by simp [credenzalaw18_PlaceTakes.l1] at h, fun _ _ _ _ _ r h => by simp [credenzalaw18_PlaceTakes.l0] at h⟩
  | k + 1 => by
    obtain ⟨ih0, ih1, ih2⟩ := credenzalaw18_PlaceTakes.mono_l k
    refine ⟨?_, ?_, ?_⟩
    · intro y0 y1 y2
      unfold credenzalaw18_PlaceTakes.j1
      repeat' first
      | (with_reducible exact ih0 _ _ _)
      | (with_reducible exact ih1 _ _ _ _ _)
      | (with_reducible exact ih2 _ _ _ _ _)
      | (with_reducible exact credenzalaw18_PlaceTakes_1.mono _ _ _)
      | (with_reducible exact credenzalaw18_awake.mono _)
      | (with_reducible exact credenzalaw18_same.mono _ _ _)
      | (with_reducible exact place_Take.mono _ _ _ _)
      | (with_reducible exact LeO.refl _)
      | (with_reducible exact LeO.none _)
      | (with_reducible refine LeO.ite ?_ ?_)
      | (with_reducible refine LeO.bind ?_ (fun _ => ?_))
      | exact ih0 _ _ _
      | exact ih1 _ _ _ _ _
      | exact ih2 _ _ _ _ _
      | exact credenzalaw18_PlaceTakes_1.mono _ _ _
      | exact credenzalaw18_awake.mono _
      | exact credenzalaw18_same.mono _ _ _
      | exact place_Take.mono _ _ _ _
      | exact LeO.none _
      | refine LeO.ite ?_ ?_
      | refine LeO.bind ?_ (fun _ => ?_)
    · intro y0 y1 y2 y3 y4
      unfold credenzalaw18_PlaceTakes.l1
      repeat' first
      | (with_reducible exact ih0 _ _ _)
      | (with_reducible exact ih1 _ _ _ _ _)
      | (with_reducible exact ih2 _ _ _ _ _)
      | (with_reducible exact credenzalaw18_PlaceTakes_1.mono _ _ _)
      | (with_reducible exact credenzalaw18_awake.mono _)
      | (with_reducible exact credenzalaw18_same.mono _ _ _)
      | (with_reducible exact place_Take.mono _ _ _ _)
      | (with_reducible exact LeO.refl _)
      | (with_reducible exact LeO.none _)
      | (with_reducible refine LeO.ite ?_ ?_)
      | (with_reducible refine LeO.bind ?_ (fun _ => ?_))
      | exact ih0 _ _ _
      | exact ih1 _ _ _ _ _
      | exact ih2 _ _ _ _ _
      | exact credenzalaw18_PlaceTakes_1.mono _ _ _
      | exact credenzalaw18_awake.mono _
      | exact credenzalaw18_same.mono _ _ _
      | exact place_Take.mono _ _ _ _
      | exact LeO.none _
      | refine LeO.ite ?_ ?_
      | refine LeO.bind ?_ (fun _ => ?_)
    · intro y0 y1 y2 y3 y4
      unfold credenzalaw18_PlaceTakes.l0
      repeat' first
      | (with_reducible exact ih0 _ _ _)
      | (with_reducible exact ih1 _ _ _ _ _)
      | (with_reducible exact ih2 _ _ _ _ _)
      | (with_reducible exact credenzalaw18_PlaceTakes_1.mono _ _ _)
      | (with_reducible exact credenzalaw18_awake.mono _)
      | (with_reducible exact credenzalaw18_same.mono _ _ _)
      | (with_reducible exact place_Take.mono _ _ _ _)
      | (with_reducible exact LeO.refl _)
      | (with_reducible exact LeO.none _)
      | (with_reducible refine LeO.ite ?_ ?_)
      | (with_reducible refine LeO.bind ?_ (fun _ => ?_))
      | exact ih0 _ _ _
      | exact ih1 _ _ _ _ _
      | exact ih2 _ _ _ _ _
      | exact credenzalaw18_PlaceTakes_1.mono _ _ _
      | exact credenzalaw18_awake.mono _
      | exact credenzalaw18_same.mono _ _ _
      | exact place_Take.mono _ _ _ _
      | exact LeO.none _
      | refine LeO.ite ?_ ?_
      | refine LeO.bind ?_ (fun _ => ?_)
theorem credenzalaw18_PlaceTakes.mono : ∀ a0 a1 a2 k, LeO (credenzalaw18_PlaceTakes.f k a0 a1 a2) (credenzalaw18_PlaceTakes.f (k + 1) a0 a1 a2) := by
  intro a0 a1 a2 k
  obtain ⟨ih0, ih1, ih2⟩ := credenzalaw18_PlaceTakes.mono_l k
  unfold credenzalaw18_PlaceTakes.f
  repeat' first
      | (with_reducible exact ih0 _ _ _)
      | (with_reducible exact ih1 _ _ _ _ _)
      | (with_reducible exact ih2 _ _ _ _ _)
      | (with_reducible exact credenzalaw18_PlaceTakes_1.mono _ _ _)
      | (with_reducible exact credenzalaw18_awake.mono _)
      | (with_reducible exact credenzalaw18_same.mono _ _ _)
      | (with_reducible exact place_Take.mono _ _ _ _)
      | (with_reducible exact LeO.refl _)
      | (with_reducible exact LeO.none _)
      | (with_reducible refine LeO.ite ?_ ?_)
      | (with_reducible refine LeO.bind ?_ (fun _ => ?_))
      | exact ih0 _ _ _
      | exact ih1 _ _ _ _ _
      | exact ih2 _ _ _ _ _
      | exact credenzalaw18_PlaceTakes_1.mono _ _ _
      | exact credenzalaw18_awake.mono _
      | exact credenzalaw18_same.mono _ _ _
      | exact place_Take.mono _ _ _ _
      | exact LeO.none _
      | refine LeO.ite ?_ ?_
      | refine LeO.bind ?_ (fun _ => ?_)
def credenzalaw18_PlaceTakes.T6 : Bool × List (List Nat × List Nat) := (true, [([], []), ([0], [0]), ([], []), ([], []), ([2, 3], [2, 3]), ([4], [4]), ([5], [5]), ([6], [6]), ([1, 7], [1, 7]), ([0, 1, 2, 3, 4, 5, 6, 7, 8], []), ([9, 8, 0, 1, 2, 3, 4, 5, 6, 7, 8], [8, 9])])
def credenzalaw18_PlaceTakes.B6 : List Nat := [0, 1, 0, 0, 12, 28, 60, 124, 255, 511, 1023]
theorem credenzalaw18_PlaceTakes.tab6 : rtab .any (opsOf Try.f6 6) = credenzalaw18_PlaceTakes.T6 := by kernel_rfl
theorem credenzalaw18_PlaceTakes.bits6 : waitsOk credenzalaw18_PlaceTakes.T6.2 credenzalaw18_PlaceTakes.B6 = true := by kernel_rfl
set_option maxHeartbeats 8000000 in
set_option maxRecDepth 100000 in
theorem credenzalaw18_PlaceTakes.calls (k : Nat) (A0 : Option Addr) (c0 : Nat) (l0 : List (S25)) (a1_0 : Int) (a1_1 : Int) (r : Bool) (w : World) (hr0 : Kd.C k25 w A0 l0.length l0) (hc0 : l0.length ≤ c0) (h : credenzalaw18_PlaceTakes.f k l0 a1_0 a1_1 = some r) :
    Calls Try.prog 6 #[.slice A0 l0.length c0, .agg #[.int .i64 a1_0, .int .i64 a1_1]] w fun e w' => e = .returned (.bool r) ∧ Below w.heap.size w w' := by
  have hu25 := Try.underlying25
  have HR0 := Aside0.mk hr0
  have HC0 := Aside0.mk hc0
  clear hr0 hc0
  have HB := Aside0.mk (Below.refl w.heap.size w)
  have H : (credenzalaw18_PlaceTakes.l0 k l0 ([] : List (S25)) 0 a1_0 a1_1) = some r := h
  clear h
  have HC3 := Aside0.mk H
  clear H
  go_enter Try.func6, Try.ntmps6
  go_upto_block 0 with (first | ((with_reducible refine gate_dst (N := 3) rfl ?_); refine box_event ?hg (N := 3) ?hd (cs := #[.int .i64 a1_0, .int .i64 a1_1]) (t := 25) ?hr ?_; (case hd => rfl); (case hg => rfl); (case hr => first | (go_simp; done) | (go_simp; rfl)); intro gb103 hg w4 hbox hb; have n0_ := Aside0.mk (below_step (by repeat (first | (with_reducible first | exact HB.out | apply below_alloc | apply pw_below_drewN | apply below_drew1) | exact HB.out)) hb); have n1_ := Aside0.mk (hbox); have n2_ := Aside0.mk ((by rw [hg]; exact (below_size (by repeat (first | (with_reducible first | exact HB.out | apply below_alloc | apply pw_below_drewN | apply below_drew1) | exact HB.out))) : w.heap.size ≤ gb103)); have n3_ := Aside0.mk ((by rw [hg]; exact (below_size (by repeat (first | (with_reducible first | exact HB.out | apply below_alloc | apply pw_below_drewN | apply below_drew1) | exact HB.out))) : w.heap.size ≤ gb103)); clear HB; have HB := n0_; have BK103 := n1_; have GW103 := n2_; have GE103 := n3_; clear n0_ n1_ n2_ n3_; clear hb hbox hg))
  (try simp only [Act.put, List.setIfInBounds_toArray, List.set_cons_zero, List.set_cons_succ])
  go_cut [5] (fun v5 wc => ∃ (kq : Nat) (x5_2 : List (S25)), Aside0 (credenzalaw18_PlaceTakes.j1 kq x5_2 a1_0 a1_1 = some r) ∧ Aside0 (kq ≤ k) ∧ Aside0 (Kd.R k25 25 wc w.heap.size (fun k_ => k_ ≠ gb103) v5 x5_2) ∧ Aside0 (wc.heap[gb103]? = some (.cells #[.int .i64 a1_0, .int .i64 a1_1] 25 (0, 0))) ∧ Aside0 (Below w.heap.size w wc))
  case first =>
    have H := HC3.out
    clear HC3
    have H' := Aside0.mk H
    clear H
    go_wp2
    go_loopg [5, 6] k (fun kq v5 v6 w' => ∃ (x5_1 : List (S25)) (x6_1 : Int), v6 = .int .i64 x6_1 ∧ Aside0 (credenzalaw18_PlaceTakes.l0 kq l0 x5_1 x6_1 a1_0 a1_1 = some r) ∧ Aside0 (kq ≤ k) ∧ Aside0 (Kd.R k25 25 w' w.heap.size (fun k_ => k_ ≠ gb103) v5 x5_1) ∧ Aside0 (w'.heap[gb103]? = some (.cells #[.int .i64 a1_0, .int .i64 a1_1] 25 (0, 0))) ∧ Aside0 (Below w.heap.size w w'))
    case atStart => exact ⟨(([] : List (S25))), (0), (by first | rfl | (simp; done) | (simp [*]; done)), H', ⟨Nat.le_refl _⟩, ⟨by first | exact Kd.R_nil _ _ _ _ _ | exact Kd.N_nil _ _ _ _ _ | exact Kd.V_nil _ _ _ _ _ | exact Kd.Q_nil _ _ _ _ _ | exact Kd.S_nil _ _ _ _ _⟩, ⟨by (with_reducible repeat (first | refine blk_drewN ?_ _ | refine blk_drew ?_ | refine blk_alloc ?_ _)); exact BK103.out⟩, ⟨by repeat (first | (with_reducible first | exact HB.out | apply below_alloc | apply pw_below_drewN | apply below_drew1 | refine below_set ?_ GE103.out) | exact HB.out)⟩⟩
    case round =>
      clear H'
      try clear p2
      obtain ⟨x5_1, x6_1, rfl, HA, HK1, HO_5, BK103, HB⟩ := hrel
      cases gk with
      | zero => exact absurd HA.out (by simp [credenzalaw18_PlaceTakes.l0])
      | succ k1 =>
        have H := HA.out
        clear HA
        simp only [credenzalaw18_PlaceTakes.l0] at H
        by_cases c5 : x6_1 < (l0.length : Int)
        · rw [if_pos c5] at H
          have c5b0 : decide (x6_1 < (l0.length : Int)) = true := decide_eq_true c5
          clear c5
          (first | rw [c5b0] | (simp only [i64_w, i32_w]; rw [c5b0]) | skip)
          by_cases c6 : x6_1 < 12
          · rw [if_pos c6] at H
            have c6b0 : decide (x6_1 < 12) = true := decide_eq_true c6
            clear c6
            by_cases c7 : 0 ≤ x6_1
            · rw [if_pos c7] at H
              have c7b0 : decide (0 ≤ x6_1) = true := decide_eq_true c7
              clear c7
              by_cases c8 : x5_1.length < 8796093022208
              · rw [if_pos c8] at H
                have LMc8 := Aside0.mk c8
                clear c8
                obtain ⟨y107, hy107⟩ : ∃ y_ : List (S25), y_ = (x5_1 ++ [(⟨Go.bits .and .i64 ((rd_T25 l0 x6_1).f0) 1023, wrap64 ((Go.bits .and .i64 ((rd_T25 l0 x6_1).f0) 1023) + (Go.bits .and .i64 ((rd_T25 l0 x6_1).f1) 63))⟩ : S25)]) := ⟨_, rfl⟩
                replace H : (credenzalaw18_PlaceTakes.l0 k1 l0 y107 (wrap64 (x6_1 + 1)) a1_0 a1_1) = some r := by first | (rw [hy107]; with_reducible exact H) | (have H2_ := (Option.bind_some _ _).symm.trans H; rw [hy107]; with_reducible exact H2_) | (have H2_ := (Option.bind_some _ _).symm.trans H; with_reducible exact H2_) | with_reducible exact H | (rw [hy107]; exact H) | exact H
                have Ny107 := Aside0.mk hy107
                clear hy107
                have H' := Aside0.mk H
                clear H
                have p104 : 0 ≤ (x6_1 : Int) := of_decide_eq_true (by first | (with_reducible assumption) | assumption)
                have q104 : x6_1 < (l0.length : Int) := of_decide_eq_true (by first | (with_reducible assumption) | assumption)
                obtain ⟨ad104, e104, hx104_0, hx104_1⟩ := at_T25 HR0.out x6_1 p104 q104
                cases e104
                replace hx104_0 := (HB.out.cell (World.block_lt_of_cell? w _ hx104_0)).trans hx104_0
                replace hx104_1 := (HB.out.cell (World.block_lt_of_cell? w _ hx104_1)).trans hx104_1
                replace p104 := eq_true p104
                replace q104 := eq_true q104
                try go_wp2_with (first | ((with_reducible refine gate_dst (N := 7) rfl ?_); refine box_event ?hg (N := 7) ?hd (cs := #[.int .i64 0, .int .i64 0]) (t := 25) ?hr ?_; (case hd => rfl); (case hg => rfl); (case hr => first | (go_simp; done) | (go_simp; rfl)); intro gb105 hg w9 hbox hb; have n0_ := Aside0.mk (Kd.R_below (Kd.R_elderB (by (with_reducible repeat (first | apply Kd.R_alloc | apply Kd.R_drewN | apply Kd.R_drew)); exact HO_5.out) gb105 (Nat.le_of_eq hg.symm)) hb); have n1_ := Aside0.mk (blk_below (g := gb103) (o := .cells #[.int .i64 a1_0, .int .i64 a1_1] 25 (0, 0)) (by (with_reducible repeat (first | refine blk_drewN ?_ _ | refine blk_drew ?_ | refine blk_alloc ?_ _)); exact BK103.out) hb); have n2_ := Aside0.mk (below_step (by repeat (first | (with_reducible first | exact HB.out | apply below_alloc | apply pw_below_drewN | apply below_drew1 | refine below_set ?_ GE103.out) | exact HB.out)) hb); have n3_ := Aside0.mk (hbox); have n4_ := Aside0.mk ((by rw [hg]; exact (below_size (by repeat (first | (with_reducible first | exact HB.out | apply below_alloc | apply pw_below_drewN | apply below_drew1 | refine below_set ?_ GE103.out) | exact HB.out))) : w.heap.size ≤ gb105)); have n5_ := Aside0.mk ((by rw [hg]; exact (below_size (by repeat (first | (with_reducible first | exact HB.out | apply below_alloc | apply pw_below_drewN | apply below_drew1 | refine below_set ?_ GE103.out) | exact HB.out))) : w.heap.size ≤ gb105)); have n6_ := Aside0.mk ((by rw [hg]; exact Nat.ne_of_lt (blk_lt (g := gb103) (o := .cells #[.int .i64 a1_0, .int .i64 a1_1] 25 (0, 0)) (by (with_reducible repeat (first | refine blk_drewN ?_ _ | refine blk_drew ?_ | refine blk_alloc ?_ _)); exact BK103.out)) : gb103 ≠ gb105)); have n7_ := Aside0.mk ((by rw [hg]; exact Nat.ne_of_gt (blk_lt (g := gb103) (o := .cells #[.int .i64 a1_0, .int .i64 a1_1] 25 (0, 0)) (by (with_reducible repeat (first | refine blk_drewN ?_ _ | refine blk_drew ?_ | refine blk_alloc ?_ _)); exact BK103.out)) : gb105 ≠ gb103)); clear HO_5; clear BK103; clear HB; have HO_5 := n0_; have BK103 := n1_; have HB := n2_; have BK105 := n3_; have GW105 := n4_; have GE105 := n5_; have NB103_105 := n6_; have NB105_103 := n7_; clear n0_ n1_ n2_ n3_ n4_ n5_ n6_ n7_; clear hb hbox hg; have hnb10 := NB105_103.out; have hnc10 := NB103_105.out; have hcz11_0 : w9.cell? ⟨gb105, 0, none⟩ = some (.int .i64 0) := (blk_cell BK105.out 0).trans rfl; have hcz11_1 : w9.cell? ⟨gb105, 1, none⟩ = some (.int .i64 0) := (blk_cell BK105.out 1).trans rfl; have hfz11_0 := blk_frozen BK105.out 0; have hfz11_1 := blk_frozen BK105.out 1))
                have n0_ : Aside0 (Kd.R k25 25 ((w9.setCell ⟨gb105, 0, none⟩ (.int .i64 (Go.bits .and .i64 ((rd_T25 l0 x6_1).f0) 1023))).setCell ⟨gb105, 1, none⟩ (.int .i64 0)) w.heap.size (fun k_ => k_ ≠ gb103 ∧ k_ ≠ gb105) u5 x5_1) := ⟨by (with_reducible repeat (first | apply Kd.R_alloc | apply Kd.R_drewN | apply Kd.R_drew)); exact Kd.R_mono (Kd.R_far (p := ⟨gb105, 1, none⟩) (Kd.R_far (p := ⟨gb105, 0, none⟩) (Kd.R_mono HO_5.out (fun k_ hk => (⟨hk, hk.2⟩ : _ ∧ k_ ≠ gb105))) (fun _ hk => hk.2) (.int .i64 (Go.bits .and .i64 ((rd_T25 l0 x6_1).f0) 1023))) (fun _ hk => hk.2) (.int .i64 0)) (fun _ hk => ⟨hk.1.1, hk.1.2⟩)⟩
                have n1_ : Aside0 (((w9.setCell ⟨gb105, 0, none⟩ (.int .i64 (Go.bits .and .i64 ((rd_T25 l0 x6_1).f0) 1023))).setCell ⟨gb105, 1, none⟩ (.int .i64 0)).heap[gb103]? = some (.cells #[.int .i64 a1_0, .int .i64 a1_1] 25 (0, 0))) := ⟨by (with_reducible repeat (first | refine blk_drewN ?_ _ | refine blk_drew ?_ | refine blk_alloc ?_ _)); refine blk_far ?_ NB103_105.out _; (with_reducible repeat (first | refine blk_drewN ?_ _ | refine blk_drew ?_ | refine blk_alloc ?_ _)); refine blk_far ?_ NB103_105.out _; (with_reducible repeat (first | refine blk_drewN ?_ _ | refine blk_drew ?_ | refine blk_alloc ?_ _)); exact BK103.out⟩
                have n2_ : Aside0 (((w9.setCell ⟨gb105, 0, none⟩ (.int .i64 (Go.bits .and .i64 ((rd_T25 l0 x6_1).f0) 1023))).setCell ⟨gb105, 1, none⟩ (.int .i64 0)).heap[gb105]? = some (.cells #[.int .i64 (Go.bits .and .i64 ((rd_T25 l0 x6_1).f0) 1023), .int .i64 0] 25 (0, 0))) := ⟨by (with_reducible repeat (first | refine blk_drewN ?_ _ | refine blk_drew ?_ | refine blk_alloc ?_ _)); refine blk_put (cs := #[.int .i64 (Go.bits .and .i64 ((rd_T25 l0 x6_1).f0) 1023), .int .i64 0]) ?_ 1 _ rfl; (with_reducible repeat (first | refine blk_drewN ?_ _ | refine blk_drew ?_ | refine blk_alloc ?_ _)); refine blk_put (cs := #[.int .i64 0, .int .i64 0]) ?_ 0 _ rfl; (with_reducible repeat (first | refine blk_drewN ?_ _ | refine blk_drew ?_ | refine blk_alloc ?_ _)); exact BK105.out⟩
                have n3_ : Aside0 (Below w.heap.size w ((w9.setCell ⟨gb105, 0, none⟩ (.int .i64 (Go.bits .and .i64 ((rd_T25 l0 x6_1).f0) 1023))).setCell ⟨gb105, 1, none⟩ (.int .i64 0))) := ⟨by repeat (first | (with_reducible first | exact HB.out | apply below_alloc | apply pw_below_drewN | apply below_drew1 | refine below_set ?_ GE103.out | refine below_set ?_ GE105.out) | exact HB.out)⟩
                (try clear HO_5)
                (try clear BK103)
                (try clear BK105)
                (try clear HB)
                generalize ((w9.setCell ⟨gb105, 0, none⟩ (.int .i64 (Go.bits .and .i64 ((rd_T25 l0 x6_1).f0) 1023))).setCell ⟨gb105, 1, none⟩ (.int .i64 0)) = w12 at n0_ n1_ n2_ n3_ ⊢
                have HO_5 := n0_
                have BK103 := n1_
                have BK105 := n2_
                have HB := n3_
                clear n0_ n1_ n2_ n3_
                have n0_ := Aside0.mk (Kd.R_drew HO_5.out)
                have n1_ := Aside0.mk (blk_drew BK103.out)
                have n2_ := Aside0.mk (blk_drew BK105.out)
                have n3_ := Aside0.mk (below_drew1 HB.out)
                clear HO_5
                clear BK103
                clear BK105
                clear HB
                have HO_5 := n0_
                have BK103 := n1_
                have BK105 := n2_
                have HB := n3_
                clear n0_ n1_ n2_ n3_
                have p106 : 0 ≤ (x6_1 : Int) := of_decide_eq_true (by first | (with_reducible assumption) | assumption)
                have q106 : x6_1 < (l0.length : Int) := of_decide_eq_true (by first | (with_reducible assumption) | assumption)
                obtain ⟨ad106, e106, hx106_0, hx106_1⟩ := at_T25 HR0.out x6_1 p106 q106
                have hw106_1 := hx106_1
                have hw106_0 := hx106_0
                obtain rfl : ad104 = ad106 := (by injection e106)
                replace hx106_0 := (HB.out.cell (World.block_lt_of_cell? w _ hx106_0)).trans hx106_0
                replace hx106_1 := (HB.out.cell (World.block_lt_of_cell? w _ hx106_1)).trans hx106_1
                replace p106 := eq_true p106
                replace q106 := eq_true q106
                refine start_ (n := 11) (S := fun w' => w'.cell? ⟨gb105, 0, none⟩ = some (.int .i64 (Go.bits .and .i64 ((rd_T25 l0 x6_1).f0) 1023)) ∧ w'.cell? ⟨gb105, 1, none⟩ = some (.int .i64 0) ∧ w'.cell? (ad104.add ((x6_1).toNat * 2)) = some (.int .i64 ((rd_T25 l0 x6_1).f0)) ∧ w'.cell? ⟨(ad104.add ((x6_1).toNat * 2)).block, (ad104.add ((x6_1).toNat * 2)).off + 1, none⟩ = some (.int .i64 ((rd_T25 l0 x6_1).f1))) (ds := [10]) #[false, false, false, false, false, false, false, false, false, false, false] (by kernel_rfl) rfl rfl ⟨(blk_cell BK105.out 0).trans rfl, (blk_cell BK105.out 1).trans rfl, ((HB.out.cell (World.block_lt_of_cell? w _ hw106_0)).trans hw106_0), ((HB.out.cell (World.block_lt_of_cell? w _ hw106_1)).trans hw106_1)⟩ (fun hHeld => ?_); refine with_tabW credenzalaw18_PlaceTakes.tab6 credenzalaw18_PlaceTakes.bits6 (fun HT_ HW_ => ?_)
                generalize w12.drew = w13 at HO_5 BK103 BK105 HB hx106_0 hx106_1 hHeld ⊢
                refine pure_ (i := 0) (N := some 28) (v := ?_) (a' := ?_) #[true, false, false, false, false, false, false, false, false, false, false] rfl rfl (any_of HT_.out (by kernel_rfl)) (fun _ _ _ h => h) (Or.inl ⟨by rfl, ?_⟩) ?_ ?_
                rotate_left
                · intro w'
                  go_simp
                  with_reducible rfl
                rotate_left
                · simp only [Act.put, List.setIfInBounds_toArray, List.set_cons_zero, List.set_cons_succ, i64_w, i32_w]
                  rfl
                refine pure_ (i := 2) (N := some 30) (v := ?_) (a' := ?_) #[true, false, true, false, false, false, false, false, false, false, false] rfl rfl (any_of HT_.out (by kernel_rfl)) (fun _ _ _ h => h) (Or.inl ⟨by rfl, ?_⟩) ?_ ?_
                rotate_left
                · intro w'
                  go_simp
                  with_reducible rfl
                rotate_left
                · simp only [Act.put, List.setIfInBounds_toArray, List.set_cons_zero, List.set_cons_succ, i64_w, i32_w]
                  rfl
                refine pure_ (i := 3) (N := some 31) (v := ?_) (a' := ?_) #[true, false, true, true, false, false, false, false, false, false, false] rfl rfl (any_of HT_.out (by kernel_rfl)) (fun _ _ _ h => h) (Or.inl ⟨by rfl, ?_⟩) ?_ ?_
                rotate_left
                · intro w'
                  go_simp
                  with_reducible rfl
                rotate_left
                · simp only [Act.put, List.setIfInBounds_toArray, List.set_cons_zero, List.set_cons_succ, i64_w, i32_w]
                  rfl
                refine pure_ (i := 4) (N := some 32) (v := ?_) (a' := ?_) #[true, false, true, true, true, false, false, false, false, false, false] rfl rfl (any_of HT_.out (by kernel_rfl)) (fun _ _ _ h => h) (Or.inl ⟨by rfl, ?_⟩) ?_ ?_
                rotate_left
                · intro w'
                  go_simp
                  with_reducible rfl
                rotate_left
                · simp only [Act.put, List.setIfInBounds_toArray, List.set_cons_zero, List.set_cons_succ, i64_w, i32_w]
                  rfl
                refine pure_ (i := 5) (N := some 33) (v := ?_) (a' := ?_) #[true, false, true, true, true, true, false, false, false, false, false] rfl rfl (any_of HT_.out (by kernel_rfl)) (fun _ _ _ h => h) (Or.inl ⟨by rfl, ?_⟩) ?_ ?_
                rotate_left
                · intro w'
                  go_simp
                  with_reducible rfl
                rotate_left
                · simp only [Act.put, List.setIfInBounds_toArray, List.set_cons_zero, List.set_cons_succ, i64_w, i32_w]
                  rfl
                refine take_ (i := 1) (N := some 29) (v := ?_) (a' := ?_) #[true, true, true, true, true, true, false, false, false, false, false] rfl rfl (take_ofW HT_.out HW_.out (by kernel_rfl)) (fun _ _ _ h => h) (Or.inl ⟨by rfl, ?_⟩) hHeld ?_ ?_
                rotate_left
                · rintro w' ⟨s0, s1, s2, s3⟩
                  go_simp
                  with_reducible rfl
                rotate_left
                · simp only [Act.put, List.setIfInBounds_toArray, List.set_cons_zero, List.set_cons_succ, i64_w, i32_w]
                  rfl
                refine take_ (i := 6) (N := some 34) (v := ?_) (a' := ?_) #[true, true, true, true, true, true, true, false, false, false, false] rfl rfl (take_ofW HT_.out HW_.out (by kernel_rfl)) (fun _ _ _ h => h) (Or.inl ⟨by rfl, ?_⟩) hHeld ?_ ?_
                rotate_left
                · rintro w' ⟨s0, s1, s2, s3⟩
                  go_simp
                  with_reducible rfl
                rotate_left
                · simp only [Act.put, List.setIfInBounds_toArray, List.set_cons_zero, List.set_cons_succ, i64_w, i32_w]
                  rfl
                refine pure_ (i := 7) (N := some 35) (v := ?_) (a' := ?_) #[true, true, true, true, true, true, true, true, false, false, false] rfl rfl (any_of HT_.out (by kernel_rfl)) (fun _ _ _ h => h) (Or.inl ⟨by rfl, ?_⟩) ?_ ?_
                rotate_left
                · intro w'
                  go_simp
                  with_reducible rfl
                rotate_left
                · simp only [Act.put, List.setIfInBounds_toArray, List.set_cons_zero, List.set_cons_succ, i64_w, i32_w]
                  rfl
                refine pure_ (i := 8) (N := some 36) (v := ?_) (a' := ?_) #[true, true, true, true, true, true, true, true, true, false, false] rfl rfl (any_of HT_.out (by kernel_rfl)) (fun _ _ _ h => h) (Or.inl ⟨by rfl, ?_⟩) ?_ ?_
                rotate_left
                · intro w'
                  go_simp
                  with_reducible rfl
                rotate_left
                · simp only [Act.put, List.setIfInBounds_toArray, List.set_cons_zero, List.set_cons_succ, i64_w, i32_w]
                  rfl
                refine pure_ (i := 9) (N := some 37) (v := ?_) (a' := ?_) #[true, true, true, true, true, true, true, true, true, true, false] rfl rfl (any_of HT_.out (by kernel_rfl)) (fun _ _ _ h => h) (Or.inl ⟨by rfl, ?_⟩) ?_ ?_
                rotate_left
                · intro w'
                  go_simp
                  with_reducible rfl
                rotate_left
                · simp only [Act.put, List.setIfInBounds_toArray, List.set_cons_zero, List.set_cons_succ, i64_w, i32_w]
                  rfl
                refine last_ (i := 10) (N := none) #[true, true, true, true, true, true, true, true, true, true, true] rfl rfl (one_of HT_.out (by kernel_rfl)) (by decide) (fun K hK => ?_)
                have hs14 : w13.cell? ⟨gb105, 1, none⟩ = some (.int .i64 0) := (blk_cell BK105.out 1).trans rfl
                have hfs14 := blk_frozen BK105.out 1
                have hns14_0 := NB103_105.out
                have hms14_0 := NB105_103.out
                refine skip_ (w1 := ?_) (by rfl) rfl ?_ ?_
                rotate_left
                · go_simp
                  rfl
                refine hK.out _ _ ?_
                clear hK K
                refine done_ (done_of HT_.out (by kernel_rfl)) ?_
                have hcz15_0 : w13.cell? ⟨gb105, 0, none⟩ = some (.int .i64 (Go.bits .and .i64 ((rd_T25 l0 x6_1).f0) 1023)) := (blk_cell BK105.out 0).trans rfl
                have hcz15_1 : w13.cell? ⟨gb105, 1, none⟩ = some (.int .i64 0) := (blk_cell BK105.out 1).trans rfl
                have hfz15_0 := blk_frozen BK105.out 0
                have hfz15_1 := blk_frozen BK105.out 1
                try go_wp2_with (first | ((with_reducible refine gate_builtin (b := .append) (xs := #[.tmp 38, .tmp 40]) rfl ?_); at_builtin; refine Kd.R_append k25 (w0 := w) w.heap.size rfl (.tmp 38) (.tmp 40) 22 25 (.agg #[(.int .i64 0), (.int .i64 0)]) 16 rfl Try.underlying22 info25 rfl (by decide) (by omega) u5 x5_1 (⟨Go.bits .and .i64 ((rd_T25 l0 x6_1).f0) 1023, wrap64 ((Go.bits .and .i64 ((rd_T25 l0 x6_1).f0) 1023) + (Go.bits .and .i64 ((rd_T25 l0 x6_1).f1) 63))⟩ : S25) [.int .i64 (Go.bits .and .i64 ((rd_T25 l0 x6_1).f0) 1023), .int .i64 (wrap64 ((Go.bits .and .i64 ((rd_T25 l0 x6_1).f0) 1023) + (Go.bits .and .i64 ((rd_T25 l0 x6_1).f1) 63)))] (fun k_ => k_ ≠ gb103 ∧ k_ ≠ gb105) (fun _ => False) rfl (by first | (go_simp; done) | (go_simp; rfl)) ?aP (fun _ hk => hk.elim) ?aF ?aO ?aB ?aS ?aL ?_; (case aP => exact k25_mkM _ _ _ (⟨Go.bits .and .i64 ((rd_T25 l0 x6_1).f0) 1023, wrap64 ((Go.bits .and .i64 ((rd_T25 l0 x6_1).f0) 1023) + (Go.bits .and .i64 ((rd_T25 l0 x6_1).f1) 63))⟩ : S25)); (case aB => exact (by repeat (first | (with_reducible first | exact HB.out | apply below_alloc | apply pw_below_drewN | apply below_drew1 | refine below_set ?_ GE103.out | refine below_set ?_ GE105.out) | exact HB.out))); (case aF => exact (fun k_ hk => ⟨Kd.freshB (g := gb103) (o := .cells #[.int .i64 a1_0, .int .i64 a1_1] 25 (0, 0)) (by (with_reducible repeat (first | refine blk_drewN ?_ _ | refine blk_drew ?_ | refine blk_alloc ?_ _)); refine blk_far ?_ NB103_105.out _; (with_reducible repeat (first | refine blk_drewN ?_ _ | refine blk_drew ?_ | refine blk_alloc ?_ _)); exact BK103.out) k_ hk, Kd.freshB (g := gb105) (o := .cells #[.int .i64 (Go.bits .and .i64 ((rd_T25 l0 x6_1).f0) 1023), .int .i64 (wrap64 ((Go.bits .and .i64 ((rd_T25 l0 x6_1).f0) 1023) + (Go.bits .and .i64 ((rd_T25 l0 x6_1).f1) 63)))] 25 (0, 0)) (by (with_reducible repeat (first | refine blk_drewN ?_ _ | refine blk_drew ?_ | refine blk_alloc ?_ _)); refine blk_put (cs := #[.int .i64 (Go.bits .and .i64 ((rd_T25 l0 x6_1).f0) 1023), .int .i64 0]) ?_ 1 _ rfl; (with_reducible repeat (first | refine blk_drewN ?_ _ | refine blk_drew ?_ | refine blk_alloc ?_ _)); exact BK105.out) k_ hk⟩)); (case aO => exact (by (with_reducible repeat (first | apply Kd.R_alloc | apply Kd.R_drewN | apply Kd.R_drew)); exact Kd.R_mono (Kd.R_far (p := ⟨gb105, 1, none⟩) (Kd.R_mono HO_5.out (fun k_ hk => (⟨hk, hk.2⟩ : _ ∧ k_ ≠ gb105))) (fun _ hk => hk.2) (.int .i64 (wrap64 ((Go.bits .and .i64 ((rd_T25 l0 x6_1).f0) 1023) + (Go.bits .and .i64 ((rd_T25 l0 x6_1).f1) 63))))) (fun _ hk => ⟨hk.1.1, hk.1.2⟩))); (case aS => exact (below_size (by repeat (first | (with_reducible first | exact HB.out | apply below_alloc | apply pw_below_drewN | apply below_drew1 | refine below_set ?_ GE103.out | refine below_set ?_ GE105.out) | exact HB.out)))); (case aL => have := LMc8.out; omega); intro v108 w16 ho hb hg hat; rw [← Ny107.out] at ho; have n0_ := Aside0.mk (blk_grown (g := gb103) (o := .cells #[.int .i64 a1_0, .int .i64 a1_1] 25 (0, 0)) (by (with_reducible repeat (first | refine blk_drewN ?_ _ | refine blk_drew ?_ | refine blk_alloc ?_ _)); refine blk_far ?_ NB103_105.out _; (with_reducible repeat (first | refine blk_drewN ?_ _ | refine blk_drew ?_ | refine blk_alloc ?_ _)); exact BK103.out) hg (Kd.R_away HO_5.out (fun _ hk => hk.1))); have n1_ := Aside0.mk (blk_grown (g := gb105) (o := .cells #[.int .i64 (Go.bits .and .i64 ((rd_T25 l0 x6_1).f0) 1023), .int .i64 (wrap64 ((Go.bits .and .i64 ((rd_T25 l0 x6_1).f0) 1023) + (Go.bits .and .i64 ((rd_T25 l0 x6_1).f1) 63)))] 25 (0, 0)) (by (with_reducible repeat (first | refine blk_drewN ?_ _ | refine blk_drew ?_ | refine blk_alloc ?_ _)); refine blk_put (cs := #[.int .i64 (Go.bits .and .i64 ((rd_T25 l0 x6_1).f0) 1023), .int .i64 0]) ?_ 1 _ rfl; (with_reducible repeat (first | refine blk_drewN ?_ _ | refine blk_drew ?_ | refine blk_alloc ?_ _)); exact BK105.out) hg (Kd.R_away HO_5.out (fun _ hk => hk.2))); have n2_ := Aside0.mk (hb); have n3_ := Aside0.mk (ho); clear BK103; clear BK105; clear HB; clear HO_5; have BK103 := n0_; have BK105 := n1_; have HB := n2_; have HO109 := n3_; clear n0_ n1_ n2_ n3_; clear ho hb hg hat))
                go_roundg k1
                case measure => have := HK1.out; omega
                case rel => exact ⟨(y107), (wrap64 (x6_1 + 1)), (by first | rfl | (simp; done) | (simp [*]; done)), H', ⟨by have := HK1.out; omega⟩, ⟨by (with_reducible repeat (first | apply Kd.R_alloc | apply Kd.R_drewN | apply Kd.R_drew)); exact Kd.R_mono HO109.out (fun _ hk => hk.1)⟩, ⟨by (with_reducible repeat (first | refine blk_drewN ?_ _ | refine blk_drew ?_ | refine blk_alloc ?_ _)); exact BK103.out⟩, ⟨by repeat (first | (with_reducible first | exact HB.out | apply below_alloc | apply pw_below_drewN | apply below_drew1 | refine below_set ?_ GE103.out | refine below_set ?_ GE105.out) | exact HB.out)⟩⟩
              · rw [if_neg c8] at H
                exact absurd H (by simp)
            · rw [if_neg c7] at H
              exact absurd H (by simp)
          · rw [if_neg c6] at H
            have c6b0 : decide (x6_1 < 12) = false := decide_eq_false c6
            clear c6
            have H' := Aside0.mk H
            clear H
            go_wp2
            go_meet
            case rel => exact ⟨_, (x5_1), H', ⟨by have := HK1.out; first | omega | exact Nat.le_refl _⟩, ⟨by (with_reducible repeat (first | apply Kd.R_alloc | apply Kd.R_drewN | apply Kd.R_drew)); exact HO_5.out⟩, ⟨by (with_reducible repeat (first | refine blk_drewN ?_ _ | refine blk_drew ?_ | refine blk_alloc ?_ _)); exact BK103.out⟩, ⟨by repeat (first | (with_reducible first | exact HB.out | apply below_alloc | apply pw_below_drewN | apply below_drew1 | refine below_set ?_ GE103.out) | exact HB.out)⟩⟩
        · rw [if_neg c5] at H
          have c5b0 : decide (x6_1 < (l0.length : Int)) = false := decide_eq_false c5
          clear c5
          (first | rw [c5b0] | (simp only [i64_w, i32_w]; rw [c5b0]) | skip)
          have H' := Aside0.mk H
          clear H
          go_wp2
          go_meet
          case rel => exact ⟨_, (x5_1), H', ⟨by have := HK1.out; first | omega | exact Nat.le_refl _⟩, ⟨by (with_reducible repeat (first | apply Kd.R_alloc | apply Kd.R_drewN | apply Kd.R_drew)); exact HO_5.out⟩, ⟨by (with_reducible repeat (first | refine blk_drewN ?_ _ | refine blk_drew ?_ | refine blk_alloc ?_ _)); exact BK103.out⟩, ⟨by repeat (first | (with_reducible first | exact HB.out | apply below_alloc | apply pw_below_drewN | apply below_drew1 | refine below_set ?_ GE103.out) | exact HB.out)⟩⟩
  case rest =>
    clear HC3
    try clear c1
    try clear p1
    try clear q1
    try clear hx1
    try clear p2
    try clear c5
    try clear c5b0
    try clear c6
    try clear c6b0
    try clear p6
    try clear c7
    try clear c7b0
    try clear c8
    try clear c10
    try clear p10
    try clear q10
    try clear hx10
    try clear hcz11_0
    try clear hcz11_1
    try clear hcz15_0
    try clear hcz15_1
    try clear hfz11_0
    try clear hfz11_1
    try clear hfz15_0
    try clear hfz15_1
    try clear hx104_0
    try clear hx104_1
    try clear hx106_0
    try clear hx106_1
    try clear p104
    try clear p106
    try clear p2
    try clear q104
    try clear q106
    obtain ⟨kq, x5_2, HA, HJ2, HO_5, BK103, HB⟩ := hcut
    cases kq with
    | zero => exact absurd HA.out (by simp [credenzalaw18_PlaceTakes.j1])
    | succ kj2 =>
      have H := HA.out
      clear HA
      simp only [credenzalaw18_PlaceTakes.j1] at H
      replace H := Option.bind_eq_some_iff.mp H
      obtain ⟨t110, A170, H⟩ := H
      replace H : (credenzalaw18_PlaceTakes.l1 kj2 x5_2 t110 0 (Go.bits .and .i64 a1_0 1023) (Go.bits .and .i64 a1_1 1023)) = some r := H
      have A17 := Aside0.mk A170
      clear A170
      have H' := Aside0.mk H
      clear H
      have hcz18_0 : wc.cell? ⟨gb103, 0, none⟩ = some (.int .i64 a1_0) := (blk_cell BK103.out 0).trans rfl
      have hcz18_1 : wc.cell? ⟨gb103, 1, none⟩ = some (.int .i64 a1_1) := (blk_cell BK103.out 1).trans rfl
      have hfz18_0 := blk_frozen BK103.out 0
      have hfz18_1 := blk_frozen BK103.out 1
      obtain ⟨Ao19, co19, eo19⟩ := Kd.R_slice HO_5.out
      subst eo19
      go_wp2_with (first | ((with_reducible refine gate_callee (f := 15) rfl ?_); refine goesL_ (some 51) rfl rfl Try.func15 (by kernel_rfl) rfl #[.slice Ao19 x5_2.length co19, .agg #[.int .i64 (Go.bits .and .i64 a1_0 1023), .int .i64 (Go.bits .and .i64 a1_1 1023)]] rfl (by (try simp only [List.map_toArray, List.map_cons, List.map_nil]); first | done | rfl | (simp only [List.length_drop, List.length_take]; rfl)) ?_; (with_reducible refine (place_Take.calls kj2 _ _ x5_2 (Go.bits .and .i64 a1_0 1023) (Go.bits .and .i64 a1_1 1023) t110 _ ?side1 ?side2 A17.out).mono ?_); (case side1 => refine (Kd.R_reads' (e := 25) (base := w.heap.size) (ok := fun k_ => k_ ≠ gb103) (n := x5_2.length) (c := co19) ?_).2.2; exact (by (with_reducible repeat (first | apply Kd.R_alloc | apply Kd.R_drewN | apply Kd.R_drew)); exact (Kd.R_mono (Kd.R_far (p := ⟨gb103, 1, none⟩) (Kd.R_far (p := ⟨gb103, 0, none⟩) (Kd.R_mono HO_5.out (fun k_ hk => (⟨hk, hk⟩ : _ ∧ k_ ≠ gb103))) (fun _ hk => hk.2) (.int .i64 (Go.bits .and .i64 a1_0 1023))) (fun _ hk => hk.2) (.int .i64 (Go.bits .and .i64 a1_1 1023))) (fun _ h_ => h_.1)))); (case side2 => exact (Kd.R_reads' HO_5.out).2.1); rintro e w20 ⟨v111, rfl, ho0, hb⟩; refine ⟨_, rfl, ?_⟩; have n0_ := Aside0.mk (Kd.R_below (by (with_reducible repeat (first | apply Kd.R_alloc | apply Kd.R_drewN | apply Kd.R_drew)); exact (Kd.R_mono (Kd.R_far (p := ⟨gb103, 1, none⟩) (Kd.R_far (p := ⟨gb103, 0, none⟩) (Kd.R_mono HO_5.out (fun k_ hk => (⟨hk, hk⟩ : _ ∧ k_ ≠ gb103))) (fun _ hk => hk.2) (.int .i64 (Go.bits .and .i64 a1_0 1023))) (fun _ hk => hk.2) (.int .i64 (Go.bits .and .i64 a1_1 1023))) (fun _ h_ => h_.1))) hb); have n1_ := Aside0.mk (Kd.V_lower (Kd.V_mono (ok' := fun k_ => some k_ ≠ (.slice Ao19 x5_2.length co19 : Value).ownBlock ∧ k_ ≠ gb103) ho0 (fun k_ hk_ => ⟨(Kd.fresh' (Kd.R_lt (by (with_reducible repeat (first | apply Kd.R_alloc | apply Kd.R_drewN | apply Kd.R_drew)); exact (Kd.R_mono (Kd.R_far (p := ⟨gb103, 1, none⟩) (Kd.R_far (p := ⟨gb103, 0, none⟩) (Kd.R_mono HO_5.out (fun k_ hk => (⟨hk, hk⟩ : _ ∧ k_ ≠ gb103))) (fun _ hk => hk.2) (.int .i64 (Go.bits .and .i64 a1_0 1023))) (fun _ hk => hk.2) (.int .i64 (Go.bits .and .i64 a1_1 1023))) (fun _ h_ => h_.1)))) k_ hk_), (Kd.freshB (g := gb103) (o := .cells #[.int .i64 (Go.bits .and .i64 a1_0 1023), .int .i64 (Go.bits .and .i64 a1_1 1023)] 25 (0, 0)) (by (with_reducible repeat (first | refine blk_drewN ?_ _ | refine blk_drew ?_ | refine blk_alloc ?_ _)); refine blk_put (cs := #[.int .i64 (Go.bits .and .i64 a1_0 1023), .int .i64 a1_1]) ?_ 1 _ rfl; (with_reducible repeat (first | refine blk_drewN ?_ _ | refine blk_drew ?_ | refine blk_alloc ?_ _)); refine blk_put (cs := #[.int .i64 a1_0, .int .i64 a1_1]) ?_ 0 _ rfl; (with_reducible repeat (first | refine blk_drewN ?_ _ | refine blk_drew ?_ | refine blk_alloc ?_ _)); exact BK103.out) k_ hk_)⟩)) (below_size (by repeat (first | (with_reducible first | exact HB.out | apply below_alloc | apply pw_below_drewN | apply below_drew1 | refine below_set ?_ GE103.out) | exact HB.out)))); have n2_ := Aside0.mk (blk_below (g := gb103) (o := .cells #[.int .i64 (Go.bits .and .i64 a1_0 1023), .int .i64 (Go.bits .and .i64 a1_1 1023)] 25 (0, 0)) (by (with_reducible repeat (first | refine blk_drewN ?_ _ | refine blk_drew ?_ | refine blk_alloc ?_ _)); refine blk_put (cs := #[.int .i64 (Go.bits .and .i64 a1_0 1023), .int .i64 a1_1]) ?_ 1 _ rfl; (with_reducible repeat (first | refine blk_drewN ?_ _ | refine blk_drew ?_ | refine blk_alloc ?_ _)); refine blk_put (cs := #[.int .i64 a1_0, .int .i64 a1_1]) ?_ 0 _ rfl; (with_reducible repeat (first | refine blk_drewN ?_ _ | refine blk_drew ?_ | refine blk_alloc ?_ _)); exact BK103.out) hb); have n3_ := Aside0.mk (below_step (by repeat (first | (with_reducible first | exact HB.out | apply below_alloc | apply pw_below_drewN | apply below_drew1 | refine below_set ?_ GE103.out) | exact HB.out)) hb); clear HO_5; clear BK103; clear HB; have HO_5 := n0_; have HO112 := n1_; have BK103 := n2_; have HB := n3_; clear n0_ n1_ n2_ n3_; (try clear hb); (try clear hb2); (try clear hk); (try clear hi); (try clear ho0)))
      go_loopg [10] kj2 (fun kq v10 w' => ∃ (x10_2 : Int), v10 = .int .i64 x10_2 ∧ Aside0 (credenzalaw18_PlaceTakes.l1 kq x5_2 t110 x10_2 (Go.bits .and .i64 a1_0 1023) (Go.bits .and .i64 a1_1 1023) = some r) ∧ Aside0 (kq ≤ kj2) ∧ Aside0 (Kd.R k25 25 w' w.heap.size (fun k_ => k_ ≠ gb103) (.slice Ao19 x5_2.length co19) x5_2) ∧ Aside0 (Kd.V k25 25 w' w.heap.size (fun k_ => some k_ ≠ ((.slice Ao19 x5_2.length co19) : Value).ownBlock ∧ k_ ≠ gb103) v111 t110) ∧ Aside0 (w'.heap[gb103]? = some (.cells #[.int .i64 (Go.bits .and .i64 a1_0 1023), .int .i64 (Go.bits .and .i64 a1_1 1023)] 25 (0, 0))) ∧ Aside0 (Below w.heap.size w w'))
      case atStart => exact ⟨(0), (by first | rfl | (simp; done) | (simp [*]; done)), H', ⟨Nat.le_refl _⟩, ⟨by (with_reducible repeat (first | apply Kd.R_alloc | apply Kd.R_drewN | apply Kd.R_drew)); exact HO_5.out⟩, ⟨by (with_reducible repeat (first | apply Kd.V_alloc | apply Kd.V_drewN | apply Kd.V_drew)); exact HO112.out⟩, ⟨by (with_reducible repeat (first | refine blk_drewN ?_ _ | refine blk_drew ?_ | refine blk_alloc ?_ _)); exact BK103.out⟩, ⟨by repeat (first | (with_reducible first | exact HB.out | apply below_alloc | apply pw_below_drewN | apply below_drew1 | refine below_set ?_ GE103.out) | exact HB.out)⟩⟩
      case round =>
        clear H'
        try clear c1
        try clear p1
        try clear q1
        try clear hx1
        try clear p2
        try clear c5
        try clear c5b0
        try clear c6
        try clear c6b0
        try clear p6
        try clear c7
        try clear c7b0
        try clear c8
        try clear c10
        try clear p10
        try clear q10
        try clear hx10
        try clear c15
        try clear hcz11_0
        try clear hcz11_1
        try clear hcz15_0
        try clear hcz15_1
        try clear hcz18_0
        try clear hcz18_1
        try clear hfz11_0
        try clear hfz11_1
        try clear hfz15_0
        try clear hfz15_1
        try clear hfz18_0
        try clear hfz18_1
        try clear hx104_0
        try clear hx104_1
        try clear hx106_0
        try clear hx106_1
        try clear p1
        try clear p10
        try clear p104
        try clear p106
        try clear p2
        try clear p6
        try clear q1
        try clear q10
        try clear q104
        try clear q106
        obtain ⟨x10_2, rfl, HA, HK2, HO_5, HO_8, BK103, HB⟩ := hrel
        cases gk with
        | zero => exact absurd HA.out (by simp [credenzalaw18_PlaceTakes.l1])
        | succ k2 =>
          have H := HA.out
          clear HA
          simp only [credenzalaw18_PlaceTakes.l1] at H
          by_cases c21 : x10_2 < 1100
          · rw [if_pos c21] at H
            have c21b0 : decide (x10_2 < 1100) = true := decide_eq_true c21
            clear c21
            replace H := Option.bind_eq_some_iff.mp H
            obtain ⟨t118, A220, H⟩ := H
            replace H : ((credenzalaw18_PlaceTakes_1.f k2 x5_2 x10_2).bind fun t119 => (if t119 = true then (if x10_2 ≥ (Go.bits .and .i64 a1_0 1023) then (if (t118 != (!(decide (x10_2 < (Go.bits .and .i64 a1_1 1023))))) = true then (some false) else (credenzalaw18_PlaceTakes.l1 k2 x5_2 t110 (wrap64 (x10_2 + 1)) (Go.bits .and .i64 a1_0 1023) (Go.bits .and .i64 a1_1 1023))) else (if (t118 != (!false)) = true then (some false) else (credenzalaw18_PlaceTakes.l1 k2 x5_2 t110 (wrap64 (x10_2 + 1)) (Go.bits .and .i64 a1_0 1023) (Go.bits .and .i64 a1_1 1023)))) else (if (t118 != false) = true then (some false) else (credenzalaw18_PlaceTakes.l1 k2 x5_2 t110 (wrap64 (x10_2 + 1)) (Go.bits .and .i64 a1_0 1023) (Go.bits .and .i64 a1_1 1023))))) = some r := H
            have A22 := Aside0.mk A220
            clear A220
            replace H := Option.bind_eq_some_iff.mp H
            obtain ⟨t119, A230, H⟩ := H
            replace H : (if t119 = true then (if x10_2 ≥ (Go.bits .and .i64 a1_0 1023) then (if (t118 != (!(decide (x10_2 < (Go.bits .and .i64 a1_1 1023))))) = true then (some false) else (credenzalaw18_PlaceTakes.l1 k2 x5_2 t110 (wrap64 (x10_2 + 1)) (Go.bits .and .i64 a1_0 1023) (Go.bits .and .i64 a1_1 1023))) else (if (t118 != (!false)) = true then (some false) else (credenzalaw18_PlaceTakes.l1 k2 x5_2 t110 (wrap64 (x10_2 + 1)) (Go.bits .and .i64 a1_0 1023) (Go.bits .and .i64 a1_1 1023)))) else (if (t118 != false) = true then (some false) else (credenzalaw18_PlaceTakes.l1 k2 x5_2 t110 (wrap64 (x10_2 + 1)) (Go.bits .and .i64 a1_0 1023) (Go.bits .and .i64 a1_1 1023)))) = some r := H
            have A23 := Aside0.mk A230
            clear A230
            by_cases c24 : t119 = true
            · subst c24
              have H1 : (if x10_2 ≥ (Go.bits .and .i64 a1_0 1023) then (if (t118 != (!(decide (x10_2 < (Go.bits .and .i64 a1_1 1023))))) = true then (some false) else (credenzalaw18_PlaceTakes.l1 k2 x5_2 t110 (wrap64 (x10_2 + 1)) (Go.bits .and .i64 a1_0 1023) (Go.bits .and .i64 a1_1 1023))) else (if (t118 != (!false)) = true then (some false) else (credenzalaw18_PlaceTakes.l1 k2 x5_2 t110 (wrap64 (x10_2 + 1)) (Go.bits .and .i64 a1_0 1023) (Go.bits .and .i64 a1_1 1023)))) = some r := by rw [if_pos rfl] at H; exact H
              clear H
              have H := H1
              clear H1
              by_cases c25 : x10_2 ≥ (Go.bits .and .i64 a1_0 1023)
              · rw [if_pos c25] at H
                have c25b0 : decide ((Go.bits .and .i64 a1_0 1023) ≤ x10_2) = true := decide_eq_true c25
                clear c25
                by_cases c26 : (t118 != (!(decide (x10_2 < (Go.bits .and .i64 a1_1 1023))))) = true
                · rw [if_pos c26] at H
                  have c26b0 : (t118 != (!(decide (x10_2 < (Go.bits .and .i64 a1_1 1023))))) = true := c26
                  (try (have c26b1 : decide (t118 = (!(decide (x10_2 < (Go.bits .and .i64 a1_1 1023))))) = false := by simpa using c26))
                  (try (have c26b2 : (t118 == (!(decide (x10_2 < (Go.bits .and .i64 a1_1 1023))))) = false := by simpa using c26))
                  (try (have c26b3 : ¬ (t118 = (!(decide (x10_2 < (Go.bits .and .i64 a1_1 1023))))) := by simpa using c26))
                  clear c26
                  obtain rfl := Option.some.inj H
                  obtain ⟨Ao27, co27, eo27⟩ := Kd.V_slice HO_8.out
                  subst eo27
                  go_wp2_with (first | (refine goesD_ (f := 17) (some 59) rfl rfl Try.func17 (by kernel_rfl) rfl #[.slice Ao27 t110.length co27, .int .i64 x10_2] rfl rfl (by (try simp only [List.map_toArray, List.map_cons, List.map_nil]); first | done | rfl | (simp only [List.length_drop, List.length_take]; rfl)) ?_; (with_reducible refine (credenzalaw18_PlaceTakes_1.calls k2 _ _ t110 x10_2 t118 _ ?side1 ?side2 A22.out).mono ?_); (case side1 => repeat (first | exact (Kd.V_reads' HO_8.out).2.2 | (with_reducible refine Kd.C_alloc ?_ _) | (with_reducible refine Kd.C_drewN ?_ _) | (with_reducible refine Kd.C_drew ?_))); (case side2 => exact (Kd.V_reads' HO_8.out).2.1); rintro e w' ⟨rfl, ⟨nd, rfl⟩⟩; refine ⟨_, rfl, ?_⟩) | (refine goesD_ (f := 17) (some 63) rfl rfl Try.func17 (by kernel_rfl) rfl #[.slice Ao19 x5_2.length co19, .int .i64 x10_2] rfl rfl (by (try simp only [List.map_toArray, List.map_cons, List.map_nil]); first | done | rfl | (simp only [List.length_drop, List.length_take]; rfl)) ?_; (with_reducible refine (credenzalaw18_PlaceTakes_1.calls k2 _ _ x5_2 x10_2 true _ ?side1 ?side2 A23.out).mono ?_); (case side1 => repeat (first | exact (Kd.R_reads' HO_5.out).2.2 | (with_reducible refine Kd.C_alloc ?_ _) | (with_reducible refine Kd.C_drewN ?_ _) | (with_reducible refine Kd.C_drew ?_))); (case side2 => exact (Kd.R_reads' HO_5.out).2.1); rintro e w' ⟨rfl, ⟨nd, rfl⟩⟩; refine ⟨_, rfl, ?_⟩; have hcz28_0 : wr.cell? ⟨gb103, 0, none⟩ = some (.int .i64 (Go.bits .and .i64 a1_0 1023)) := (blk_cell BK103.out 0).trans rfl; have hcz28_1 : wr.cell? ⟨gb103, 1, none⟩ = some (.int .i64 (Go.bits .and .i64 a1_1 1023)) := (blk_cell BK103.out 1).trans rfl; have hfz28_0 := blk_frozen BK103.out 0; have hfz28_1 := blk_frozen BK103.out 1))
                  go_ret
                  exact ⟨by first | rfl | (simp [errW_none, errW_some] <;> rfl) | (simp [*, errW_none, errW_some] <;> rfl), by repeat (first | (with_reducible first | exact HB.out | apply below_alloc | apply pw_below_drewN | apply below_drew1 | refine below_set ?_ GE103.out) | exact HB.out)⟩
                · rw [if_neg c26] at H
                  have c26b0 : (t118 != (!(decide (x10_2 < (Go.bits .and .i64 a1_1 1023))))) = false := by simpa using c26
                  (try (have c26b1 : decide (t118 = (!(decide (x10_2 < (Go.bits .and .i64 a1_1 1023))))) = true := by simpa using c26))
                  (try (have c26b2 : (t118 == (!(decide (x10_2 < (Go.bits .and .i64 a1_1 1023))))) = true := by simpa using c26))
                  clear c26
                  have H' := Aside0.mk H
                  clear H
                  by_cases hlt29 : x10_2 < (Go.bits .and .i64 a1_1 1023)
                  · obtain rfl : t118 = false := by simpa [hlt29] using c26b0
                    have hb29 := decide_eq_true hlt29
                    obtain ⟨Ao29, co29, eo29⟩ := Kd.V_slice HO_8.out
                    subst eo29
                    go_wp2_with (first | (refine goesD_ (f := 17) (some 59) rfl rfl Try.func17 (by kernel_rfl) rfl #[.slice Ao29 t110.length co29, .int .i64 x10_2] rfl rfl (by (try simp only [List.map_toArray, List.map_cons, List.map_nil]); first | done | rfl | (simp only [List.length_drop, List.length_take]; rfl)) ?_; (with_reducible refine (credenzalaw18_PlaceTakes_1.calls k2 _ _ t110 x10_2 false _ ?side1 ?side2 A22.out).mono ?_); (case side1 => repeat (first | exact (Kd.V_reads' HO_8.out).2.2 | (with_reducible refine Kd.C_alloc ?_ _) | (with_reducible refine Kd.C_drewN ?_ _) | (with_reducible refine Kd.C_drew ?_))); (case side2 => exact (Kd.V_reads' HO_8.out).2.1); rintro e w' ⟨rfl, ⟨nd, rfl⟩⟩; refine ⟨_, rfl, ?_⟩) | (refine goesD_ (f := 17) (some 63) rfl rfl Try.func17 (by kernel_rfl) rfl #[.slice Ao19 x5_2.length co19, .int .i64 x10_2] rfl rfl (by (try simp only [List.map_toArray, List.map_cons, List.map_nil]); first | done | rfl | (simp only [List.length_drop, List.length_take]; rfl)) ?_; (with_reducible refine (credenzalaw18_PlaceTakes_1.calls k2 _ _ x5_2 x10_2 true _ ?side1 ?side2 A23.out).mono ?_); (case side1 => repeat (first | exact (Kd.R_reads' HO_5.out).2.2 | (with_reducible refine Kd.C_alloc ?_ _) | (with_reducible refine Kd.C_drewN ?_ _) | (with_reducible refine Kd.C_drew ?_))); (case side2 => exact (Kd.R_reads' HO_5.out).2.1); rintro e w' ⟨rfl, ⟨nd, rfl⟩⟩; refine ⟨_, rfl, ?_⟩; have hcz30_0 : wr.cell? ⟨gb103, 0, none⟩ = some (.int .i64 (Go.bits .and .i64 a1_0 1023)) := (blk_cell BK103.out 0).trans rfl; have hcz30_1 : wr.cell? ⟨gb103, 1, none⟩ = some (.int .i64 (Go.bits .and .i64 a1_1 1023)) := (blk_cell BK103.out 1).trans rfl; have hfz30_0 := blk_frozen BK103.out 0; have hfz30_1 := blk_frozen BK103.out 1))
                    go_roundg k2
                    case measure => have := HJ2.out; have := HK2.out; omega
                    case rel => exact ⟨(wrap64 (x10_2 + 1)), (by first | rfl | (simp; done) | (simp [*]; done)), H', ⟨by have := HJ2.out; have := HK2.out; omega⟩, ⟨by (with_reducible repeat (first | apply Kd.R_alloc | apply Kd.R_drewN | apply Kd.R_drew)); exact HO_5.out⟩, ⟨by (with_reducible repeat (first | apply Kd.V_alloc | apply Kd.V_drewN | apply Kd.V_drew)); exact HO_8.out⟩, ⟨by (with_reducible repeat (first | refine blk_drewN ?_ _ | refine blk_drew ?_ | refine blk_alloc ?_ _)); exact BK103.out⟩, ⟨by repeat (first | (with_reducible first | exact HB.out | apply below_alloc | apply pw_below_drewN | apply below_drew1 | refine below_set ?_ GE103.out) | exact HB.out)⟩⟩
                  · obtain rfl : t118 = true := by simpa [hlt29] using c26b0
                    have hb29 := decide_eq_false hlt29
                    obtain ⟨Ao29, co29, eo29⟩ := Kd.V_slice HO_8.out
                    subst eo29
                    go_wp2_with (first | (refine goesD_ (f := 17) (some 59) rfl rfl Try.func17 (by kernel_rfl) rfl #[.slice Ao29 t110.length co29, .int .i64 x10_2] rfl rfl (by (try simp only [List.map_toArray, List.map_cons, List.map_nil]); first | done | rfl | (simp only [List.length_drop, List.length_take]; rfl)) ?_; (with_reducible refine (credenzalaw18_PlaceTakes_1.calls k2 _ _ t110 x10_2 true _ ?side1 ?side2 A22.out).mono ?_); (case side1 => repeat (first | exact (Kd.V_reads' HO_8.out).2.2 | (with_reducible refine Kd.C_alloc ?_ _) | (with_reducible refine Kd.C_drewN ?_ _) | (with_reducible refine Kd.C_drew ?_))); (case side2 => exact (Kd.V_reads' HO_8.out).2.1); rintro e w' ⟨rfl, ⟨nd, rfl⟩⟩; refine ⟨_, rfl, ?_⟩) | (refine goesD_ (f := 17) (some 63) rfl rfl Try.func17 (by kernel_rfl) rfl #[.slice Ao19 x5_2.length co19, .int .i64 x10_2] rfl rfl (by (try simp only [List.map_toArray, List.map_cons, List.map_nil]); first | done | rfl | (simp only [List.length_drop, List.length_take]; rfl)) ?_; (with_reducible refine (credenzalaw18_PlaceTakes_1.calls k2 _ _ x5_2 x10_2 true _ ?side1 ?side2 A23.out).mono ?_); (case side1 => repeat (first | exact (Kd.R_reads' HO_5.out).2.2 | (with_reducible refine Kd.C_alloc ?_ _) | (with_reducible refine Kd.C_drewN ?_ _) | (with_reducible refine Kd.C_drew ?_))); (case side2 => exact (Kd.R_reads' HO_5.out).2.1); rintro e w' ⟨rfl, ⟨nd, rfl⟩⟩; refine ⟨_, rfl, ?_⟩; have hcz30_0 : wr.cell? ⟨gb103, 0, none⟩ = some (.int .i64 (Go.bits .and .i64 a1_0 1023)) := (blk_cell BK103.out 0).trans rfl; have hcz30_1 : wr.cell? ⟨gb103, 1, none⟩ = some (.int .i64 (Go.bits .and .i64 a1_1 1023)) := (blk_cell BK103.out 1).trans rfl; have hfz30_0 := blk_frozen BK103.out 0; have hfz30_1 := blk_frozen BK103.out 1))
                    go_roundg k2
                    case measure => have := HJ2.out; have := HK2.out; omega
                    case rel => exact ⟨(wrap64 (x10_2 + 1)), (by first | rfl | (simp; done) | (simp [*]; done)), H', ⟨by have := HJ2.out; have := HK2.out; omega⟩, ⟨by (with_reducible repeat (first | apply Kd.R_alloc | apply Kd.R_drewN | apply Kd.R_drew)); exact HO_5.out⟩, ⟨by (with_reducible repeat (first | apply Kd.V_alloc | apply Kd.V_drewN | apply Kd.V_drew)); exact HO_8.out⟩, ⟨by (with_reducible repeat (first | refine blk_drewN ?_ _ | refine blk_drew ?_ | refine blk_alloc ?_ _)); exact BK103.out⟩, ⟨by repeat (first | (with_reducible first | exact HB.out | apply below_alloc | apply pw_below_drewN | apply below_drew1 | refine below_set ?_ GE103.out) | exact HB.out)⟩⟩
              · rw [if_neg c25] at H
                have c25b0 : decide ((Go.bits .and .i64 a1_0 1023) ≤ x10_2) = false := decide_eq_false c25
                clear c25
                by_cases c31 : (t118 != (!false)) = true
                · rw [if_pos c31] at H
                  have c31b0 : (t118 != (!false)) = true := c31
                  (try (have c31b1 : decide (t118 = (!false)) = false := by simpa using c31))
                  (try (have c31b2 : (t118 == (!false)) = false := by simpa using c31))
                  (try (have c31b3 : ¬ (t118 = (!false)) := by simpa using c31))
                  clear c31
                  obtain rfl := Option.some.inj H
                  obtain rfl : t118 = false := by simpa using c31b0
                  obtain ⟨Ao32, co32, eo32⟩ := Kd.V_slice HO_8.out
                  subst eo32
                  go_wp2_with (first | (refine goesD_ (f := 17) (some 59) rfl rfl Try.func17 (by kernel_rfl) rfl #[.slice Ao32 t110.length co32, .int .i64 x10_2] rfl rfl (by (try simp only [List.map_toArray, List.map_cons, List.map_nil]); first | done | rfl | (simp only [List.length_drop, List.length_take]; rfl)) ?_; (with_reducible refine (credenzalaw18_PlaceTakes_1.calls k2 _ _ t110 x10_2 false _ ?side1 ?side2 A22.out).mono ?_); (case side1 => repeat (first | exact (Kd.V_reads' HO_8.out).2.2 | (with_reducible refine Kd.C_alloc ?_ _) | (with_reducible refine Kd.C_drewN ?_ _) | (with_reducible refine Kd.C_drew ?_))); (case side2 => exact (Kd.V_reads' HO_8.out).2.1); rintro e w' ⟨rfl, ⟨nd, rfl⟩⟩; refine ⟨_, rfl, ?_⟩) | (refine goesD_ (f := 17) (some 63) rfl rfl Try.func17 (by kernel_rfl) rfl #[.slice Ao19 x5_2.length co19, .int .i64 x10_2] rfl rfl (by (try simp only [List.map_toArray, List.map_cons, List.map_nil]); first | done | rfl | (simp only [List.length_drop, List.length_take]; rfl)) ?_; (with_reducible refine (credenzalaw18_PlaceTakes_1.calls k2 _ _ x5_2 x10_2 true _ ?side1 ?side2 A23.out).mono ?_); (case side1 => repeat (first | exact (Kd.R_reads' HO_5.out).2.2 | (with_reducible refine Kd.C_alloc ?_ _) | (with_reducible refine Kd.C_drewN ?_ _) | (with_reducible refine Kd.C_drew ?_))); (case side2 => exact (Kd.R_reads' HO_5.out).2.1); rintro e w' ⟨rfl, ⟨nd, rfl⟩⟩; refine ⟨_, rfl, ?_⟩; have hcz33_0 : wr.cell? ⟨gb103, 0, none⟩ = some (.int .i64 (Go.bits .and .i64 a1_0 1023)) := (blk_cell BK103.out 0).trans rfl; have hcz33_1 : wr.cell? ⟨gb103, 1, none⟩ = some (.int .i64 (Go.bits .and .i64 a1_1 1023)) := (blk_cell BK103.out 1).trans rfl; have hfz33_0 := blk_frozen BK103.out 0; have hfz33_1 := blk_frozen BK103.out 1))
                  go_ret
                  exact ⟨by first | rfl | (simp [errW_none, errW_some] <;> rfl) | (simp [*, errW_none, errW_some] <;> rfl), by repeat (first | (with_reducible first | exact HB.out | apply below_alloc | apply pw_below_drewN | apply below_drew1 | refine below_set ?_ GE103.out) | exact HB.out)⟩
                · rw [if_neg c31] at H
                  have c31b0 : (t118 != (!false)) = false := by simpa using c31
                  (try (have c31b1 : decide (t118 = (!false)) = true := by simpa using c31))
                  (try (have c31b2 : (t118 == (!false)) = true := by simpa using c31))
                  clear c31
                  have H' := Aside0.mk H
                  clear H
                  obtain rfl : t118 = true := by simpa using c31b0
                  obtain ⟨Ao34, co34, eo34⟩ := Kd.V_slice HO_8.out
                  subst eo34
                  go_wp2_with (first | (refine goesD_ (f := 17) (some 59) rfl rfl Try.func17 (by kernel_rfl) rfl #[.slice Ao34 t110.length co34, .int .i64 x10_2] rfl rfl (by (try simp only [List.map_toArray, List.map_cons, List.map_nil]); first | done | rfl | (simp only [List.length_drop, List.length_take]; rfl)) ?_; (with_reducible refine (credenzalaw18_PlaceTakes_1.calls k2 _ _ t110 x10_2 true _ ?side1 ?side2 A22.out).mono ?_); (case side1 => repeat (first | exact (Kd.V_reads' HO_8.out).2.2 | (with_reducible refine Kd.C_alloc ?_ _) | (with_reducible refine Kd.C_drewN ?_ _) | (with_reducible refine Kd.C_drew ?_))); (case side2 => exact (Kd.V_reads' HO_8.out).2.1); rintro e w' ⟨rfl, ⟨nd, rfl⟩⟩; refine ⟨_, rfl, ?_⟩) | (refine goesD_ (f := 17) (some 63) rfl rfl Try.func17 (by kernel_rfl) rfl #[.slice Ao19 x5_2.length co19, .int .i64 x10_2] rfl rfl (by (try simp only [List.map_toArray, List.map_cons, List.map_nil]); first | done | rfl | (simp only [List.length_drop, List.length_take]; rfl)) ?_; (with_reducible refine (credenzalaw18_PlaceTakes_1.calls k2 _ _ x5_2 x10_2 true _ ?side1 ?side2 A23.out).mono ?_); (case side1 => repeat (first | exact (Kd.R_reads' HO_5.out).2.2 | (with_reducible refine Kd.C_alloc ?_ _) | (with_reducible refine Kd.C_drewN ?_ _) | (with_reducible refine Kd.C_drew ?_))); (case side2 => exact (Kd.R_reads' HO_5.out).2.1); rintro e w' ⟨rfl, ⟨nd, rfl⟩⟩; refine ⟨_, rfl, ?_⟩; have hcz35_0 : wr.cell? ⟨gb103, 0, none⟩ = some (.int .i64 (Go.bits .and .i64 a1_0 1023)) := (blk_cell BK103.out 0).trans rfl; have hcz35_1 : wr.cell? ⟨gb103, 1, none⟩ = some (.int .i64 (Go.bits .and .i64 a1_1 1023)) := (blk_cell BK103.out 1).trans rfl; have hfz35_0 := blk_frozen BK103.out 0; have hfz35_1 := blk_frozen BK103.out 1))
                  go_roundg k2
                  case measure => have := HJ2.out; have := HK2.out; omega
                  case rel => exact ⟨(wrap64 (x10_2 + 1)), (by first | rfl | (simp; done) | (simp [*]; done)), H', ⟨by have := HJ2.out; have := HK2.out; omega⟩, ⟨by (with_reducible repeat (first | apply Kd.R_alloc | apply Kd.R_drewN | apply Kd.R_drew)); exact HO_5.out⟩, ⟨by (with_reducible repeat (first | apply Kd.V_alloc | apply Kd.V_drewN | apply Kd.V_drew)); exact HO_8.out⟩, ⟨by (with_reducible repeat (first | refine blk_drewN ?_ _ | refine blk_drew ?_ | refine blk_alloc ?_ _)); exact BK103.out⟩, ⟨by repeat (first | (with_reducible first | exact HB.out | apply below_alloc | apply pw_below_drewN | apply below_drew1 | refine below_set ?_ GE103.out) | exact HB.out)⟩⟩
            · replace c24 := Bool.eq_false_iff.mpr c24
              subst c24
              have H1 : (if (t118 != false) = true then (some false) else (credenzalaw18_PlaceTakes.l1 k2 x5_2 t110 (wrap64 (x10_2 + 1)) (Go.bits .and .i64 a1_0 1023) (Go.bits .and .i64 a1_1 1023))) = some r := by rw [if_neg (show ¬ (false = true) by decide)] at H; exact H
              clear H
              have H := H1
              clear H1
              by_cases c36 : (t118 != false) = true
              · rw [if_pos c36] at H
                have c36b0 : (t118 != false) = true := c36
                (try (have c36b1 : decide (t118 = false) = false := by simpa using c36))
                (try (have c36b2 : (t118 == false) = false := by simpa using c36))
                (try (have c36b3 : ¬ (t118 = false) := by simpa using c36))
                clear c36
                obtain rfl := Option.some.inj H
                obtain ⟨Ao37, co37, eo37⟩ := Kd.V_slice HO_8.out
                subst eo37
                go_wp2_with (first | (refine goesD_ (f := 17) (some 59) rfl rfl Try.func17 (by kernel_rfl) rfl #[.slice Ao37 t110.length co37, .int .i64 x10_2] rfl rfl (by (try simp only [List.map_toArray, List.map_cons, List.map_nil]); first | done | rfl | (simp only [List.length_drop, List.length_take]; rfl)) ?_; (with_reducible refine (credenzalaw18_PlaceTakes_1.calls k2 _ _ t110 x10_2 t118 _ ?side1 ?side2 A22.out).mono ?_); (case side1 => repeat (first | exact (Kd.V_reads' HO_8.out).2.2 | (with_reducible refine Kd.C_alloc ?_ _) | (with_reducible refine Kd.C_drewN ?_ _) | (with_reducible refine Kd.C_drew ?_))); (case side2 => exact (Kd.V_reads' HO_8.out).2.1); rintro e w' ⟨rfl, ⟨nd, rfl⟩⟩; refine ⟨_, rfl, ?_⟩) | (refine goesD_ (f := 17) (some 63) rfl rfl Try.func17 (by kernel_rfl) rfl #[.slice Ao19 x5_2.length co19, .int .i64 x10_2] rfl rfl (by (try simp only [List.map_toArray, List.map_cons, List.map_nil]); first | done | rfl | (simp only [List.length_drop, List.length_take]; rfl)) ?_; (with_reducible refine (credenzalaw18_PlaceTakes_1.calls k2 _ _ x5_2 x10_2 false _ ?side1 ?side2 A23.out).mono ?_); (case side1 => repeat (first | exact (Kd.R_reads' HO_5.out).2.2 | (with_reducible refine Kd.C_alloc ?_ _) | (with_reducible refine Kd.C_drewN ?_ _) | (with_reducible refine Kd.C_drew ?_))); (case side2 => exact (Kd.R_reads' HO_5.out).2.1); rintro e w' ⟨rfl, ⟨nd, rfl⟩⟩; refine ⟨_, rfl, ?_⟩))
                go_ret
                exact ⟨by first | rfl | (simp [errW_none, errW_some] <;> rfl) | (simp [*, errW_none, errW_some] <;> rfl), by repeat (first | (with_reducible first | exact HB.out | apply below_alloc | apply pw_below_drewN | apply below_drew1 | refine below_set ?_ GE103.out) | exact HB.out)⟩
              · rw [if_neg c36] at H
                have c36b0 : (t118 != false) = false := by simpa using c36
                (try (have c36b1 : decide (t118 = false) = true := by simpa using c36))
                (try (have c36b2 : (t118 == false) = true := by simpa using c36))
                clear c36
                have H' := Aside0.mk H
                clear H
                obtain ⟨Ao38, co38, eo38⟩ := Kd.V_slice HO_8.out
                subst eo38
                go_wp2_with (first | (refine goesD_ (f := 17) (some 59) rfl rfl Try.func17 (by kernel_rfl) rfl #[.slice Ao38 t110.length co38, .int .i64 x10_2] rfl rfl (by (try simp only [List.map_toArray, List.map_cons, List.map_nil]); first | done | rfl | (simp only [List.length_drop, List.length_take]; rfl)) ?_; (with_reducible refine (credenzalaw18_PlaceTakes_1.calls k2 _ _ t110 x10_2 t118 _ ?side1 ?side2 A22.out).mono ?_); (case side1 => repeat (first | exact (Kd.V_reads' HO_8.out).2.2 | (with_reducible refine Kd.C_alloc ?_ _) | (with_reducible refine Kd.C_drewN ?_ _) | (with_reducible refine Kd.C_drew ?_))); (case side2 => exact (Kd.V_reads' HO_8.out).2.1); rintro e w' ⟨rfl, ⟨nd, rfl⟩⟩; refine ⟨_, rfl, ?_⟩) | (refine goesD_ (f := 17) (some 63) rfl rfl Try.func17 (by kernel_rfl) rfl #[.slice Ao19 x5_2.length co19, .int .i64 x10_2] rfl rfl (by (try simp only [List.map_toArray, List.map_cons, List.map_nil]); first | done | rfl | (simp only [List.length_drop, List.length_take]; rfl)) ?_; (with_reducible refine (credenzalaw18_PlaceTakes_1.calls k2 _ _ x5_2 x10_2 false _ ?side1 ?side2 A23.out).mono ?_); (case side1 => repeat (first | exact (Kd.R_reads' HO_5.out).2.2 | (with_reducible refine Kd.C_alloc ?_ _) | (with_reducible refine Kd.C_drewN ?_ _) | (with_reducible refine Kd.C_drew ?_))); (case side2 => exact (Kd.R_reads' HO_5.out).2.1); rintro e w' ⟨rfl, ⟨nd, rfl⟩⟩; refine ⟨_, rfl, ?_⟩))
                go_roundg k2
                case measure => have := HJ2.out; have := HK2.out; omega
                case rel => exact ⟨(wrap64 (x10_2 + 1)), (by first | rfl | (simp; done) | (simp [*]; done)), H', ⟨by have := HJ2.out; have := HK2.out; omega⟩, ⟨by (with_reducible repeat (first | apply Kd.R_alloc | apply Kd.R_drewN | apply Kd.R_drew)); exact HO_5.out⟩, ⟨by (with_reducible repeat (first | apply Kd.V_alloc | apply Kd.V_drewN | apply Kd.V_drew)); exact HO_8.out⟩, ⟨by (with_reducible repeat (first | refine blk_drewN ?_ _ | refine blk_drew ?_ | refine blk_alloc ?_ _)); exact BK103.out⟩, ⟨by repeat (first | (with_reducible first | exact HB.out | apply below_alloc | apply pw_below_drewN | apply below_drew1 | refine below_set ?_ GE103.out) | exact HB.out)⟩⟩
          · rw [if_neg c21] at H
            have c21b0 : decide (x10_2 < 1100) = false := decide_eq_false c21
            clear c21
            replace H := Option.bind_eq_some_iff.mp H
            obtain ⟨t113, A390, H⟩ := H
            replace H : ((credenzalaw18_same.f k2 t113 t110).bind fun t116 => (if t116 = true then ((credenzalaw18_awake.f k2).bind fun t117 => (some t117)) else (some false))) = some r := H
            have A39 := Aside0.mk A390
            clear A390
            replace H := Option.bind_eq_some_iff.mp H
            obtain ⟨t116, A400, H⟩ := H
            replace H : (if t116 = true then ((credenzalaw18_awake.f k2).bind fun t117 => (some t117)) else (some false)) = some r := H
            have A40 := Aside0.mk A400
            clear A400
            by_cases c41 : t116 = true
            · subst c41
              have H1 : ((credenzalaw18_awake.f k2).bind fun t117 => (some t117)) = some r := by rw [if_pos rfl] at H; exact H
              clear H
              have H := H1
              clear H1
              replace H := Option.bind_eq_some_iff.mp H
              obtain ⟨t117, A420, H⟩ := H
              replace H : (some t117) = some r := H
              have A42 := Aside0.mk A420
              clear A420
              obtain rfl := Option.some.inj H
              have hcz43_0 : wr.cell? ⟨gb103, 0, none⟩ = some (.int .i64 (Go.bits .and .i64 a1_0 1023)) := (blk_cell BK103.out 0).trans rfl
              have hcz43_1 : wr.cell? ⟨gb103, 1, none⟩ = some (.int .i64 (Go.bits .and .i64 a1_1 1023)) := (blk_cell BK103.out 1).trans rfl
              have hfz43_0 := blk_frozen BK103.out 0
              have hfz43_1 := blk_frozen BK103.out 1
              obtain ⟨Ao44, co44, eo44⟩ := Kd.V_slice HO_8.out
              subst eo44
              go_wp2_with (first | ((with_reducible refine gate_callee (f := 15) rfl ?_); refine goesL_ (some 80) rfl rfl Try.func15 (by kernel_rfl) rfl #[.slice Ao44 t110.length co44, .agg #[.int .i64 (Go.bits .and .i64 a1_0 1023), .int .i64 (Go.bits .and .i64 a1_1 1023)]] rfl (by (try simp only [List.map_toArray, List.map_cons, List.map_nil]); first | done | rfl | (simp only [List.length_drop, List.length_take]; rfl)) ?_; (with_reducible refine (place_Take.calls k2 _ _ t110 (Go.bits .and .i64 a1_0 1023) (Go.bits .and .i64 a1_1 1023) t113 _ ?side1 ?side2 A39.out).mono ?_); (case side1 => repeat (first | exact (Kd.V_reads' HO_8.out).2.2 | (with_reducible refine Kd.C_alloc ?_ _) | (with_reducible refine Kd.C_drewN ?_ _) | (with_reducible refine Kd.C_drew ?_))); (case side2 => exact (Kd.V_reads' HO_8.out).2.1); rintro e w45 ⟨v114, rfl, ho0, hb⟩; refine ⟨_, rfl, ?_⟩; have n0_ := Aside0.mk (Kd.R_below (by (with_reducible repeat (first | apply Kd.R_alloc | apply Kd.R_drewN | apply Kd.R_drew)); exact HO_5.out) hb); have n1_ := Aside0.mk (Kd.V_below (by (with_reducible repeat (first | apply Kd.V_alloc | apply Kd.V_drewN | apply Kd.V_drew)); exact HO_8.out) hb); have n2_ := Aside0.mk (Kd.V_lower (Kd.V_mono (ok' := fun k_ => some k_ ≠ (.slice Ao19 x5_2.length co19 : Value).ownBlock ∧ k_ ≠ gb103) ho0 (fun k_ hk_ => ⟨(Kd.fresh' (Kd.R_lt (by (with_reducible repeat (first | apply Kd.R_alloc | apply Kd.R_drewN | apply Kd.R_drew)); exact HO_5.out)) k_ hk_), (Kd.freshB (g := gb103) (o := .cells #[.int .i64 (Go.bits .and .i64 a1_0 1023), .int .i64 (Go.bits .and .i64 a1_1 1023)] 25 (0, 0)) (by (with_reducible repeat (first | refine blk_drewN ?_ _ | refine blk_drew ?_ | refine blk_alloc ?_ _)); exact BK103.out) k_ hk_)⟩)) (below_size (by repeat (first | (with_reducible first | exact HB.out | apply below_alloc | apply pw_below_drewN | apply below_drew1 | refine below_set ?_ GE103.out) | exact HB.out)))); have n3_ := Aside0.mk (blk_below (g := gb103) (o := .cells #[.int .i64 (Go.bits .and .i64 a1_0 1023), .int .i64 (Go.bits .and .i64 a1_1 1023)] 25 (0, 0)) (by (with_reducible repeat (first | refine blk_drewN ?_ _ | refine blk_drew ?_ | refine blk_alloc ?_ _)); exact BK103.out) hb); have n4_ := Aside0.mk (below_step (by repeat (first | (with_reducible first | exact HB.out | apply below_alloc | apply pw_below_drewN | apply below_drew1 | refine below_set ?_ GE103.out) | exact HB.out)) hb); clear HO_5; clear HO_8; clear BK103; clear HB; have HO_5 := n0_; have HO_8 := n1_; have HO115 := n2_; have BK103 := n3_; have HB := n4_; clear n0_ n1_ n2_ n3_ n4_; (try clear hb); (try clear hb2); (try clear hk); (try clear hi); (try clear ho0); obtain ⟨Ao46, co46, eo46⟩ := Kd.V_slice HO115.out; subst eo46) | ((with_reducible refine gate_callee (f := 12) rfl ?_); refine goesL_ (some 82) rfl rfl Try.func12 (by kernel_rfl) rfl #[.slice Ao46 t113.length co46, .slice Ao44 t110.length co44] rfl (by (try simp only [List.map_toArray, List.map_cons, List.map_nil]); first | done | rfl | (simp only [List.length_drop, List.length_take]; rfl)) ?_; (with_reducible refine (credenzalaw18_same.calls k2 _ _ t113 _ _ t110 true _ ?side1 ?side2 ?side3 ?side4 A40.out).mono ?_); (case side1 => repeat (first | exact (Kd.V_reads' HO115.out).2.2 | (with_reducible refine Kd.C_alloc ?_ _) | (with_reducible refine Kd.C_drewN ?_ _) | (with_reducible refine Kd.C_drew ?_))); (case side2 => exact (Kd.V_reads' HO115.out).2.1); (case side3 => repeat (first | exact (Kd.V_reads' HO_8.out).2.2 | (with_reducible refine Kd.C_alloc ?_ _) | (with_reducible refine Kd.C_drewN ?_ _) | (with_reducible refine Kd.C_drew ?_))); (case side4 => exact (Kd.V_reads' HO_8.out).2.1); rintro e w' ⟨rfl, ⟨nd, rfl⟩⟩; refine ⟨_, rfl, ?_⟩) | (go_at_call 8; (with_reducible refine (credenzalaw18_awake.calls k2  t117 _ A42.out).mono ?_); rintro e w47 ⟨rfl, hb⟩; have n0_ := Aside0.mk (Kd.R_below (by (with_reducible repeat (first | apply Kd.R_alloc | apply Kd.R_drewN | apply Kd.R_drew)); exact HO_5.out) hb); have n1_ := Aside0.mk (Kd.V_below (by (with_reducible repeat (first | apply Kd.V_alloc | apply Kd.V_drewN | apply Kd.V_drew)); exact HO_8.out) hb); have n2_ := Aside0.mk (Kd.V_below (by (with_reducible repeat (first | apply Kd.V_alloc | apply Kd.V_drewN | apply Kd.V_drew)); exact HO115.out) hb); have n3_ := Aside0.mk (blk_below (g := gb103) (o := .cells #[.int .i64 (Go.bits .and .i64 a1_0 1023), .int .i64 (Go.bits .and .i64 a1_1 1023)] 25 (0, 0)) (by (with_reducible repeat (first | refine blk_drewN ?_ _ | refine blk_drew ?_ | refine blk_alloc ?_ _)); exact BK103.out) hb); have n4_ := Aside0.mk (below_step (by repeat (first | (with_reducible first | exact HB.out | apply below_alloc | apply pw_below_drewN | apply below_drew1 | refine below_set ?_ GE103.out) | exact HB.out)) hb); clear HO_5; clear HO_8; clear HO115; clear BK103; clear HB; have HO_5 := n0_; have HO_8 := n1_; have HO115 := n2_; have BK103 := n3_; have HB := n4_; clear n0_ n1_ n2_ n3_ n4_; (try clear hb); (try clear hb2); (try clear hk); (try clear hi)))
              go_ret
              exact ⟨by first | rfl | (simp [errW_none, errW_some] <;> rfl) | (simp [*, errW_none, errW_some] <;> rfl), by repeat (first | (with_reducible first | exact HB.out | apply below_alloc | apply pw_below_drewN | apply below_drew1 | refine below_set ?_ GE103.out) | exact HB.out)⟩
            · replace c41 := Bool.eq_false_iff.mpr c41
              subst c41
              have H1 : (some false) = some r := by rw [if_neg (show ¬ (false = true) by decide)] at H; exact H
              clear H
              have H := H1
              clear H1
              obtain rfl := Option.some.inj H
              have hcz48_0 : wr.cell? ⟨gb103, 0, none⟩ = some (.int .i64 (Go.bits .and .i64 a1_0 1023)) := (blk_cell BK103.out 0).trans rfl
              have hcz48_1 : wr.cell? ⟨gb103, 1, none⟩ = some (.int .i64 (Go.bits .and .i64 a1_1 1023)) := (blk_cell BK103.out 1).trans rfl
              have hfz48_0 := blk_frozen BK103.out 0
              have hfz48_1 := blk_frozen BK103.out 1
              obtain ⟨Ao49, co49, eo49⟩ := Kd.V_slice HO_8.out
              subst eo49
              go_wp2_with (first | ((with_reducible refine gate_callee (f := 15) rfl ?_); refine goesL_ (some 80) rfl rfl Try.func15 (by kernel_rfl) rfl #[.slice Ao49 t110.length co49, .agg #[.int .i64 (Go.bits .and .i64 a1_0 1023), .int .i64 (Go.bits .and .i64 a1_1 1023)]] rfl (by (try simp only [List.map_toArray, List.map_cons, List.map_nil]); first | done | rfl | (simp only [List.length_drop, List.length_take]; rfl)) ?_; (with_reducible refine (place_Take.calls k2 _ _ t110 (Go.bits .and .i64 a1_0 1023) (Go.bits .and .i64 a1_1 1023) t113 _ ?side1 ?side2 A39.out).mono ?_); (case side1 => repeat (first | exact (Kd.V_reads' HO_8.out).2.2 | (with_reducible refine Kd.C_alloc ?_ _) | (with_reducible refine Kd.C_drewN ?_ _) | (with_reducible refine Kd.C_drew ?_))); (case side2 => exact (Kd.V_reads' HO_8.out).2.1); rintro e w50 ⟨v114, rfl, ho0, hb⟩; refine ⟨_, rfl, ?_⟩; have n0_ := Aside0.mk (Kd.R_below (by (with_reducible repeat (first | apply Kd.R_alloc | apply Kd.R_drewN | apply Kd.R_drew)); exact HO_5.out) hb); have n1_ := Aside0.mk (Kd.V_below (by (with_reducible repeat (first | apply Kd.V_alloc | apply Kd.V_drewN | apply Kd.V_drew)); exact HO_8.out) hb); have n2_ := Aside0.mk (Kd.V_lower (Kd.V_mono (ok' := fun k_ => some k_ ≠ (.slice Ao19 x5_2.length co19 : Value).ownBlock ∧ k_ ≠ gb103) ho0 (fun k_ hk_ => ⟨(Kd.fresh' (Kd.R_lt (by (with_reducible repeat (first | apply Kd.R_alloc | apply Kd.R_drewN | apply Kd.R_drew)); exact HO_5.out)) k_ hk_), (Kd.freshB (g := gb103) (o := .cells #[.int .i64 (Go.bits .and .i64 a1_0 1023), .int .i64 (Go.bits .and .i64 a1_1 1023)] 25 (0, 0)) (by (with_reducible repeat (first | refine blk_drewN ?_ _ | refine blk_drew ?_ | refine blk_alloc ?_ _)); exact BK103.out) k_ hk_)⟩)) (below_size (by repeat (first | (with_reducible first | exact HB.out | apply below_alloc | apply pw_below_drewN | apply below_drew1 | refine below_set ?_ GE103.out) | exact HB.out)))); have n3_ := Aside0.mk (blk_below (g := gb103) (o := .cells #[.int .i64 (Go.bits .and .i64 a1_0 1023), .int .i64 (Go.bits .and .i64 a1_1 1023)] 25 (0, 0)) (by (with_reducible repeat (first | refine blk_drewN ?_ _ | refine blk_drew ?_ | refine blk_alloc ?_ _)); exact BK103.out) hb); have n4_ := Aside0.mk (below_step (by repeat (first | (with_reducible first | exact HB.out | apply below_alloc | apply pw_below_drewN | apply below_drew1 | refine below_set ?_ GE103.out) | exact HB.out)) hb); clear HO_5; clear HO_8; clear BK103; clear HB; have HO_5 := n0_; have HO_8 := n1_; have HO115 := n2_; have BK103 := n3_; have HB := n4_; clear n0_ n1_ n2_ n3_ n4_; (try clear hb); (try clear hb2); (try clear hk); (try clear hi); (try clear ho0); obtain ⟨Ao51, co51, eo51⟩ := Kd.V_slice HO115.out; subst eo51) | ((with_reducible refine gate_callee (f := 12) rfl ?_); refine goesL_ (some 82) rfl rfl Try.func12 (by kernel_rfl) rfl #[.slice Ao51 t113.length co51, .slice Ao49 t110.length co49] rfl (by (try simp only [List.map_toArray, List.map_cons, List.map_nil]); first | done | rfl | (simp only [List.length_drop, List.length_take]; rfl)) ?_; (with_reducible refine (credenzalaw18_same.calls k2 _ _ t113 _ _ t110 false _ ?side1 ?side2 ?side3 ?side4 A40.out).mono ?_); (case side1 => repeat (first | exact (Kd.V_reads' HO115.out).2.2 | (with_reducible refine Kd.C_alloc ?_ _) | (with_reducible refine Kd.C_drewN ?_ _) | (with_reducible refine Kd.C_drew ?_))); (case side2 => exact (Kd.V_reads' HO115.out).2.1); (case side3 => repeat (first | exact (Kd.V_reads' HO_8.out).2.2 | (with_reducible refine Kd.C_alloc ?_ _) | (with_reducible refine Kd.C_drewN ?_ _) | (with_reducible refine Kd.C_drew ?_))); (case side4 => exact (Kd.V_reads' HO_8.out).2.1); rintro e w' ⟨rfl, ⟨nd, rfl⟩⟩; refine ⟨_, rfl, ?_⟩))
              go_ret
              exact ⟨by first | rfl | (simp [errW_none, errW_some] <;> rfl) | (simp [*, errW_none, errW_some] <;> rfl), by repeat (first | (with_reducible first | exact HB.out | apply below_alloc | apply pw_below_drewN | apply below_drew1 | refine below_set ?_ GE103.out) | exact HB.out)⟩

end Go.Proofs.Yticjkhkmbinmgaa.TTakes
